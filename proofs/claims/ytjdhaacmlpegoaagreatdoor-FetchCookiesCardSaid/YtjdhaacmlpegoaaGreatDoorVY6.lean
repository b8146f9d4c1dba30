/- FetchCookies: the law. -/
import Derived.Test.YtjdhaacmlpegoaaGreatDoorU25
import Derived.Test.YtjdhaacmlpegoaaGreatDoorU31
import Derived.Test.YtjdhaacmlpegoaaGreatDoorU23
import Derived.Test.YtjdhaacmlpegoaaGreatDoorU18
import Derived.Test.YtjdhaacmlpegoaaGreatDoorU10
namespace Go.Proofs.YtjdhaacmlpegoaaGreatDoor
set_option linter.unusedVariables false
set_option linter.unusedSimpArgs false
open Go.RowKit

theorem op_jar (now : Int) (o : Op4) (r : Rn) (h : r.s.ck = false) : (opF now o r).j = r.j := by
  unfold opF
  split
  · show (headA now o.st o.hs r.s r.j r.c).1 = r.j
    unfold headA
    split
    · show jarH r.s now o.hs r.j = r.j
      unfold jarH
      rw [if_neg (by rw [h]; decide)]
    · rfl
  · split
    · rfl
    · split
      · rfl
      · split <;> rfl
theorem cookF_sz (J : List Ck) (now : Int) (S : FSt) (hl : J.length ≤ 8) (hz : ∀ c ∈ J, c.n.size ≤ 300 ∧ c.v.size ≤ 300) : (cookF J now S).size ≤ 10000 := by
  unfold cookF
  split
  · rw [bs_size]
    have hfl : (J.filter (hitB S.a S.b S.d now)).length ≤ 8 := Nat.le_trans (List.length_filter_le _ _) hl
    have h := joinT_bd 1000 ((insS ltC (J.filter (hitB S.a S.b S.d now))).map pairT) (fun x hx => by
      obtain ⟨c, hc, rfl⟩ := List.mem_map.1 hx
      have h1 := hz c (List.mem_filter.1 (insS_mem c _ hc)).1
      unfold pairT
      rw [List.length_append, List.length_cons, size_len, size_len]
      omega)
    rw [List.length_map, insS_length] at h
    unfold joinL
    have : (J.filter (hitB S.a S.b S.d now)).length * (1000 + 2) ≤ 8 * 1002 := Nat.mul_le_mul_right _ hfl
    omega
  · exact Nat.zero_le _
theorem few4_jar {J : List Ck} {nx : Int} {es : List En} {qh : List Hd} {ur og qb : ByteArray} {ops : List Op4} (h : few4 J nx es qh ur og qb ops = true) : J.length ≤ 8 ∧ ∀ c ∈ J, c.n.size ≤ 300 ∧ c.v.size ≤ 300 ∧ c.d.size ≤ 300 ∧ c.p.size ≤ 300 := by
  unfold few4 at h
  simp only [Bool.and_eq_true, decide_eq_true_eq, List.all_eq_true] at h
  refine ⟨h.1.1, fun c hc => ?_⟩
  have := h.2.2.2.1 c hc
  unfold ckB4 at this
  simp only [decide_eq_true_eq] at this
  omega
set_option maxRecDepth 20000 in
set_option maxHeartbeats 8000000 in
theorem fetchcookies_law (vj : Value) (J : List Ck) (nx : Int) (vc : Value) (lx : List Ee) (now tk : Int) (me ur og : ByteArray) (mo : Int) (vq : Value) (qh : List Hd) (qb : ByteArray) (ck : Bool) (kk : Nat) (ost : Int) (vo : Value) (oh : List Hd) (obo : ByteArray) (w : World) (hM : MaxAt w) (hG : 0 < w.heap.size) (HW0 : WIn w vj J vc lx) (HQ : QIn w ur og vq qh qb) (ho : SlK hdC 2 w vo oh) (hoz : WtH oh) :
    Calls Tryz.prog 3 #[.agg #[vj, .int .i64 nx, vc, .int .i64 now], .agg #[.int .i64 tk, .string me, .string ur, .string og, .int .i64 mo, vq, .string qb, .bool ck], .agg #[.int .u8 kk, .int .i64 ost, vo, .string obo]] w fun e w' => e = .returned (.bool true) ∧ Below w.heap.size w w' := by
  obtain ⟨ja, jc, rfl, _⟩ := HW0.j.shape
  obtain ⟨ca, cc, hvc, _⟩ := HW0.c.shape
  have HW : ∀ w', Below w.heap.size w w' → WIn w' (.slice ja J.length jc) J (.slice none 0 0) [] := fun w' hb => ⟨(HW0.below hb).j, slk_nil4 w', fun x hx => (by cases hx), HW0.zj, fun x hx => (by cases hx)⟩
  subst hvc
  obtain ⟨cn, hcn⟩ : ∃ cn, lx.length = cn := ⟨_, rfl⟩
  rw [hcn]
  clear hcn HW0
  obtain ⟨oa, oc, rfl, _⟩ := ho.shape
  obtain ⟨qa, qc, rfl, _⟩ := HQ.q.shape
  obtain ⟨w0, hw0, hb0, W0, Q0, O0⟩ : ∃ w0 : World, ((w.alloc (.cells [.slice ja J.length jc, .int .i64 nx, .slice ca cn cc, .int .i64 now].toArray 27)).alloc (.cells [.int .i64 tk, .string me, .string ur, .string og, .int .i64 mo, .slice qa qh.length qc, .string qb, .bool ck].toArray 30)).alloc (.cells [.int .u8 kk, .int .i64 ost, .slice oa oh.length oc, .string obo].toArray 32) = w0 ∧ Below w.heap.size w w0 ∧ AtL w0 w.heap.size [.slice ja J.length jc, .int .i64 nx, .slice ca cn cc, .int .i64 now] ∧ AtL w0 (w.heap.size + 1) [.int .i64 tk, .string me, .string ur, .string og, .int .i64 mo, .slice qa qh.length qc, .string qb, .bool ck] ∧ AtL w0 (w.heap.size + 1 + 1) [.int .u8 kk, .int .i64 ost, .slice oa oh.length oc, .string obo] := by
    refine ⟨_, rfl, (((Below.refl _ w).alloc (Nat.le_refl _) _).alloc (by simp) _).alloc (by simp; omega) _, ((AtL.new w _ _).alloc _).alloc _, ?_, ?_⟩
    · have h := (AtL.new (w.alloc (.cells [.slice ja J.length jc, .int .i64 nx, .slice ca cn cc, .int .i64 now].toArray 27)) [.int .i64 tk, .string me, .string ur, .string og, .int .i64 mo, .slice qa qh.length qc, .string qb, .bool ck] 30).alloc (.cells [.int .u8 kk, .int .i64 ost, .slice oa oh.length oc, .string obo].toArray 32)
      rw [show (w.alloc (.cells [.slice ja J.length jc, .int .i64 nx, .slice ca cn cc, .int .i64 now].toArray 27)).heap.size = w.heap.size + 1 by simp] at h
      exact h
    · have h := AtL.new ((w.alloc (.cells [.slice ja J.length jc, .int .i64 nx, .slice ca cn cc, .int .i64 now].toArray 27)).alloc (.cells [.int .i64 tk, .string me, .string ur, .string og, .int .i64 mo, .slice qa qh.length qc, .string qb, .bool ck].toArray 30)) [.int .u8 kk, .int .i64 ost, .slice oa oh.length oc, .string obo] 32
      rw [show ((w.alloc (.cells [.slice ja J.length jc, .int .i64 nx, .slice ca cn cc, .int .i64 now].toArray 27)).alloc (.cells [.int .i64 tk, .string me, .string ur, .string og, .int .i64 mo, .slice qa qh.length qc, .string qb, .bool ck].toArray 30)).heap.size = w.heap.size + 1 + 1 by simp] at h
      exact h
  obtain ⟨W, hW⟩ : ∃ W, w.heap.size = W := ⟨_, rfl⟩
  obtain ⟨Q, hQ⟩ : ∃ Q, W + 1 = Q := ⟨_, rfl⟩
  obtain ⟨O, hO⟩ : ∃ O, Q + 1 = O := ⟨_, rfl⟩
  rw [hW] at W0 Q0 O0
  rw [hQ] at Q0 O0
  rw [hO] at O0
  have CF := Lib.hid (fit_is45 w0 (hM.below hb0 (Nat.le_refl _)))
  have a0 := W0.c 0 rfl; have a1 := W0.c 1 rfl; have a2 := W0.c 2 rfl; have a3 := W0.c 3 rfl
  have q0 := Q0.c 0 rfl; have q1 := Q0.c 1 rfl; have q2 := Q0.c 2 rfl; have q3 := Q0.c 3 rfl; have q4 := Q0.c 4 rfl; have q5 := Q0.c 5 rfl; have q6 := Q0.c 6 rfl; have q7 := Q0.c 7 rfl
  have o0 := O0.c 0 rfl; have o1 := O0.c 1 rfl; have o2 := O0.c 2 rfl; have o3 := O0.c 3 rfl
  have al := W0.lt
  have ql := Q0.lt
  have ol := O0.lt
  have HHM := Lib.hid hM
  have HHG := Lib.hid hG
  have HHW := Lib.hid HW
  have HHQ := Lib.hid HQ
  have HHO := Lib.hid (And.intro ho hoz)
  clear hM hG HW HQ ho hoz
  go_enter Tryz.func3, Tryz.ntmps3
  go_upto_region 3 with (first
    | (go_at_call 11; (with_reducible refine CF.out.mono ?_); rintro e1 w1 ⟨rfl, hb1⟩; have Q1 := Q0.next hb1; have W1 := W0.next hb1; have O1 := O0.next hb1; have hB1 := hb0.trans (hb1.mono hb0.size); clear q0 q1 q2 q3 q4 q5 q6 q7 a0 a1 a2 a3 o0 o1 o2 o3; have q0 := Q1.c 0 rfl; have q1 := Q1.c 1 rfl; have q2 := Q1.c 2 rfl; have q3 := Q1.c 3 rfl; have q4 := Q1.c 4 rfl; have q5 := Q1.c 5 rfl; have q6 := Q1.c 6 rfl; have q7 := Q1.c 7 rfl; have a0 := W1.c 0 rfl; have a1 := W1.c 1 rfl; have a2 := W1.c 2 rfl; have a3 := W1.c 3 rfl; have g0 := W1.f 0 rfl; have g1 := W1.f 1 rfl; have g2 := W1.f 2 rfl; have g3 := W1.f 3 rfl; have o0 := O1.c 0 rfl; have o1 := O1.c 1 rfl; have o2 := O1.c 2 rfl; have o3 := O1.c 3 rfl; have p0 := O1.f 0 rfl; have p1 := O1.f 1 rfl; have p2 := O1.f 2 rfl; have p3 := O1.f 3 rfl; have ql1 := Q1.lt; have al1 := W1.lt; have ol1 := O1.lt)
    | fail)
  go_upto_region 5 with fail
  have W5 : AtL _ W [.slice ja J.length jc, .int .i64 nx, .slice none 0 0, .int .i64 now] := (W1.set 2 (.slice none 0 0)).far ⟨O, 0, none⟩ (.int .u8 0) (show O ≠ W by omega)
  have Q5 := (Q1.far ⟨W, 2, none⟩ (.slice none 0 0) (show W ≠ Q by omega)).far ⟨O, 0, none⟩ (.int .u8 0) (show O ≠ Q by omega)
  have O5 : AtL _ O [.int .u8 0, .int .i64 ost, .slice oa oh.length oc, .string obo] := (O1.far ⟨W, 2, none⟩ (.slice none 0 0) (show W ≠ O by omega)).set 0 (.int .u8 0)
  have hB5 := (hB1.setCell (p := ⟨W, 2, none⟩) (by show w.heap.size ≤ W; omega) (.slice none 0 0)).setCell (p := ⟨O, 0, none⟩) (by show w.heap.size ≤ O; omega) (.int .u8 0)
  obtain ⟨w5, hw5⟩ : ∃ w5 : World, (w1.setCell ⟨W, 2, none⟩ (.slice none 0 0)).setCell ⟨O, 0, none⟩ (.int .u8 0) = w5 := ⟨_, rfl⟩
  rw [hw5] at W5 Q5 O5 hB5
  rw [hw5]
  have hbA : Below w5.heap.size w5 (w5.alloc (.cells [.int .u8 0, .int .i64 ost, .slice oa oh.length oc, .string obo].toArray 32)) := (Below.refl _ w5).alloc (Nat.le_refl _) _
  have EA := AtL.new w5 [.int .u8 0, .int .i64 ost, .slice oa oh.length oc, .string obo] 32
  obtain ⟨E, hE⟩ : ∃ E, w5.heap.size = E := ⟨_, rfl⟩
  obtain ⟨wA, hwA⟩ : ∃ wA : World, w5.alloc (.cells [.int .u8 0, .int .i64 ost, .slice oa oh.length oc, .string obo].toArray 32) = wA := ⟨_, rfl⟩
  rw [hwA] at hbA EA
  rw [hE] at EA
  have WA := W5.next hbA
  have QA := Q5.next hbA
  have OA := O5.next hbA
  have hBA := hB5.trans (hbA.mono hB5.size)
  obtain ⟨R, hR⟩ : ∃ R, few4 J nx [] qh ur og qb [⟨0, ost, oh, obo⟩] = R := ⟨_, rfl⟩
  have CW := Lib.hid (few4_is wA _ J nx (.slice none 0 0) [] now tk me ur og mo _ qh qb ck _ [(.slice oa oh.length oc, ⟨0, ost, oh, obo⟩)] (HHW.out wA hBA) (HHQ.out.below hBA) (OIn.one EA (HHO.out.1.below hBA (Nat.le_refl _)) HHO.out.2) R hR)
  have HRR := Lib.hid hR
  clear hR hw5 a0 a1 a2 a3 g0 g1 g2 g3 q0 q1 q2 q3 q4 q5 q6 q7 o0 o1 o2 o3 p0 p1 p2 p3 al1 ql1 ol1 W1 Q1 O1 W0 Q0 O0 hb0 hb1 hB1 al ql ol CF hw0 EA
  have a0 := W5.c 0 rfl; have a1 := W5.c 1 rfl; have a2 := W5.c 2 rfl; have a3 := W5.c 3 rfl
  have q0 := Q5.c 0 rfl; have q1 := Q5.c 1 rfl; have q2 := Q5.c 2 rfl; have q3 := Q5.c 3 rfl; have q4 := Q5.c 4 rfl; have q5 := Q5.c 5 rfl; have q6 := Q5.c 6 rfl; have q7 := Q5.c 7 rfl
  have o0 := O5.c 0 rfl; have o1 := O5.c 1 rfl; have o2 := O5.c 2 rfl; have o3 := O5.c 3 rfl
  have al5 := W5.lt
  have ql5 := Q5.lt
  have ol5 := O5.lt
  cases R with
  | false =>
    go_wp2_with (first
      | (go_at_call 12; (with_reducible refine CW.out.mono ?_); rintro e6 w6 ⟨rfl, hb6⟩; have hB6 := hBA.trans (hb6.mono hBA.size); have W6 := WA.next hb6; have Q6 := QA.next hb6; have O6 := OA.next hb6; clear a0 a1 a2 a3 q0 q1 q2 q3 q4 q5 q6 q7 o0 o1 o2 o3; have a0 := W6.c 0 rfl; have a1 := W6.c 1 rfl; have a2 := W6.c 2 rfl; have a3 := W6.c 3 rfl; have q0 := Q6.c 0 rfl; have q1 := Q6.c 1 rfl; have q2 := Q6.c 2 rfl; have q3 := Q6.c 3 rfl; have q4 := Q6.c 4 rfl; have q5 := Q6.c 5 rfl; have q6 := Q6.c 6 rfl; have q7 := Q6.c 7 rfl; have o0 := O6.c 0 rfl; have o1 := O6.c 1 rfl; have o2 := O6.c 2 rfl; have o3 := O6.c 3 rfl; have al6 := W6.lt; have ql6 := Q6.lt; have ol6 := O6.lt)
      | fail)
    go_ret
    exact ⟨rfl, hB6⟩
  | true =>
    have hF := few4_ok HRR.out
    obtain ⟨S, hS⟩ : ∃ S, newS tk me ur og mo qh qb ck = S := ⟨_, rfl⟩
    have hSO := hF.q tk me mo ck
    rw [hS] at hSO
    have hSck : S.ck = ck := by rw [← hS]; rfl
    have hSh : S.hs = [] := by rw [← hS]; rfl
    obtain ⟨r, hr⟩ : ∃ r, startF now S (J, nx) [] = r := ⟨_, rfl⟩
    have hRO : ROk 0 r := by rw [← hr]; exact startF_ok hSO hSh hF.j hF.n1 hF.n2 (by have := hF.c; exact this)
    have CR := Lib.hid (fun (w' : World) (hb : Below w.heap.size w w') => run_is w' _ J nx (.slice none 0 0) [] now tk me ur og mo _ qh qb ck (.slice none 0 0) [] (HHM.out.below hb (Nat.le_refl _)) (Nat.lt_of_lt_of_le HHG.out hb.size) (HHW.out w' hb) (HHQ.out.below hb) (OIn.nil w') (by rw [hS]; exact hSO) hF.j hF.n1 hF.n2 hF.c (fun x hx => by cases hx) (by decide) (fun x hx => by cases hx) r (by rw [hS]; exact hr))
    have HFF := Lib.hid hF
    have HSO := Lib.hid hSO
    have HRO := Lib.hid hRO
    have HSS := Lib.hid (And.intro hS (And.intro hSck hr))
    clear hF hSO hRO hSh hS hSck hr
    go_upto_region 8 with (first
      | (go_at_call 12; (with_reducible refine CW.out.mono ?_); rintro e6 w6 ⟨rfl, hb6⟩; have hB6 := hBA.trans (hb6.mono hBA.size); have W6 := WA.next hb6; have Q6 := QA.next hb6; have O6 := OA.next hb6; clear a0 a1 a2 a3 q0 q1 q2 q3 q4 q5 q6 q7 o0 o1 o2 o3; have a0 := W6.c 0 rfl; have a1 := W6.c 1 rfl; have a2 := W6.c 2 rfl; have a3 := W6.c 3 rfl; have q0 := Q6.c 0 rfl; have q1 := Q6.c 1 rfl; have q2 := Q6.c 2 rfl; have q3 := Q6.c 3 rfl; have q4 := Q6.c 4 rfl; have q5 := Q6.c 5 rfl; have q6 := Q6.c 6 rfl; have q7 := Q6.c 7 rfl; have o0 := O6.c 0 rfl; have o1 := O6.c 1 rfl; have o2 := O6.c 2 rfl; have o3 := O6.c 3 rfl; have al6 := W6.lt; have ql6 := Q6.lt; have ol6 := O6.lt)
      | (go_at_call 13; (with_reducible refine (CR.out _ hB6).mono ?_); rintro e7 w7 hq7; obtain ⟨L, V, ea, n, ek, l, vj3, vc3, lx3, rfl, hn3, hL, hV, hRL⟩ := RunQ.law hq7; have Z3 := lawW_at w7; have Z4 := lawW_at2 w7 L; have HL := Lib.hid hL; have HV := Lib.hid hV; have HRL := Lib.hid hRL; have HN := Lib.hid hn3; clear hq7 hL hV hRL hn3)
      | (refine wpList_store_at rfl 40 _ _ rfl w7.heap.size L rfl rfl Z3 HL.out.1 (by rw [HL.out.1]; kernel_rfl) HL.out.2 ?_)
      | (refine wpList_store_at rfl 27 _ _ rfl (w7.heap.size + 1) V rfl rfl Z4 HV.out.1 (by rw [HV.out.1]; kernel_rfl) HV.out.2 ?_)
      | fail)
    obtain ⟨w8, hw8⟩ : ∃ w8 : World, (((w7.alloc (.cells fz.toArray 40)).alloc (.cells wz.toArray 27)).setCells w7.heap.size 0 L).setCells (w7.heap.size + 1) 0 V = w8 := ⟨_, rfl⟩
    have R8 : RunL w6 now r w7.heap.size L (.slice ea n ek) l vj3 vc3 lx3 w8 := by rw [← hw8]; exact HRL.out
    obtain ⟨s1, hs1⟩ : ∃ s1, w7.heap.size = s1 := ⟨_, rfl⟩
    rw [hs1] at R8
    rw [hw8, hs1]
    obtain rfl : n = l.length := HN.out
    have W8 := W6.next R8.bl
    have Q8 := Q6.next R8.bl
    have O8 := O6.next R8.bl
    have hB8 := hB6.trans (R8.bl.mono hB6.size)
    have c8 := R8.ph
    have sl8 := R8.st.lt
    have HR8 := Lib.hid R8
    clear hw8 hs1 HRL HL HV HN Z3 Z4 CR CW R8 hb6 hB6 W6 Q6 O6 WA QA OA hBA hbA W5 Q5 O5 hB5 a0 a1 a2 a3 q0 q1 q2 q3 q4 q5 q6 q7 o0 o1 o2 o3 al6 ql6 ol6 al5 ql5 ol5 hwA hE
    have a0 := W8.c 0 rfl; have a1 := W8.c 1 rfl; have a2 := W8.c 2 rfl; have a3 := W8.c 3 rfl
    have q0 := Q8.c 0 rfl; have q1 := Q8.c 1 rfl; have q2 := Q8.c 2 rfl; have q3 := Q8.c 3 rfl; have q4 := Q8.c 4 rfl; have q5 := Q8.c 5 rfl; have q6 := Q8.c 6 rfl; have q7 := Q8.c 7 rfl
    have o0 := O8.c 0 rfl; have o1 := O8.c 1 rfl; have o2 := O8.c 2 rfl; have o3 := O8.c 3 rfl
    have al8 := W8.lt
    have ql8 := Q8.lt
    have ol8 := O8.lt
    by_cases hph : r.s.ph = 1
    · rw [hph] at c8
      obtain ⟨e, hev, hck, hhd, hhs⟩ := cookies_plain now S (J, nx) (by rw [HSS.out.2.2]; exact hph)
      rw [HSS.out.2.2] at hev hck hhd hhs
      rw [HSS.out.2.1] at hck hhd
      obtain ⟨⟨yv, y⟩, hl1, hye⟩ := one_of (HR8.out.eq.trans hev)
      subst hl1
      obtain rfl : y = e := hye
      have R8 := HR8.out
      obtain ⟨b0, off, cap, he, hb0', hcell⟩ := slk_at R8.ev (by simp)
      injection he with e1 e2 e3
      subst e1 e3
      clear e2
      have c3 : w8.cell? ⟨b0, off + 3, none⟩ = some yv := by have := hcell 0 (by simp) 3 _ rfl; simpa using this
      have hys : SlK hdC 2 w8 yv y.hs := R8.hs _ (List.mem_singleton.2 rfl)
      obtain ⟨xa, xc, rfl, _⟩ := hys.shape
      obtain ⟨T, hT⟩ : ∃ T, cookF J now r.s = T := ⟨_, rfl⟩
      rw [hT] at hhd hhs
      have hJz := few4_jar HRR.out
      have hTz : T.size ≤ 10000 := by rw [← hT]; exact cookF_sz _ _ _ hJz.1 (fun c hc => ⟨(hJz.2 c hc).1, (hJz.2 c hc).2.1⟩)
      have hHZ : HdSz y.hs := by
        rw [hhs]
        have h1 := HRO.out.s.r
        refine ⟨?_, fun h hh => ?_⟩
        · rw [List.length_append]
          split
          · rw [List.length_singleton]; omega
          · rw [List.length_nil]; omega
        · rcases List.mem_append.1 hh with hh | hh
          · exact h1.1.2 h hh
          · split at hh
            · obtain rfl := List.mem_singleton.1 hh
              exact ⟨by show ckN.size ≤ 100000; decide, by show T.size ≤ 100000; omega⟩
            · cases hh
      have HHD := Lib.hid hhd
      have HCE := Lib.hid hcell
      have CH := Lib.hid (fun (V : ByteArray) (B : Bool) (hV : (hdrL y.hs ckN.data.toList).getD ⟨#[]⟩ = V) (hB : (hdrL y.hs ckN.data.toList).isSome = B) (w' : World) (hb : Below w8.heap.size w8 w') => hdr_at y.hs _ ckN w' (hys.below hb (Nat.le_refl _)) hHZ (by decide) V B hV hB)
      have HJZ := Lib.hid hJz
      clear hev hhd hhs hcell hys hHZ hTz hJz R8
      cases ck with
      | false =>
        have CH1 := Lib.hid (CH.out ⟨#[]⟩ false (by rw [HHD.out]; rfl) (by rw [HHD.out]; rfl))
        go_upto_region 16 with (first
          | (go_at_call 15; (with_reducible refine (CH1.out _ (Below.refl _ w8)).mono ?_); rintro e10 w10 ⟨rfl, h8t⟩)
          | fail)
        have W10 := W8.next h8t
        have Q10 := Q8.next h8t
        have O10 := O8.next h8t
        have hB10 := hB8.trans (h8t.mono hB8.size)
        have hbB : Below w10.heap.size w10 (w10.alloc (.cells [.int .u8 0, .int .i64 ost, .slice oa oh.length oc, .string obo].toArray 32)) := (Below.refl _ w10).alloc (Nat.le_refl _) _
        have EB := AtL.new w10 [.int .u8 0, .int .i64 ost, .slice oa oh.length oc, .string obo] 32
        obtain ⟨E2, hE2⟩ : ∃ E, w10.heap.size = E := ⟨_, rfl⟩
        obtain ⟨wB, hwB⟩ : ∃ wA : World, w10.alloc (.cells [.int .u8 0, .int .i64 ost, .slice oa oh.length oc, .string obo].toArray 32) = wA := ⟨_, rfl⟩
        rw [hwB] at hbB EB
        rw [hE2] at EB
        have WB := W10.next hbB
        have QB := Q10.next hbB
        have hBB := hB10.trans (hbB.mono hB10.size)
        obtain ⟨r2, hr2⟩ : ∃ r2, opF now ⟨0, ost, oh, obo⟩ r = r2 := ⟨_, rfl⟩
        have C2 := Lib.hid (run_is wB _ J nx (.slice none 0 0) [] now tk me ur og mo _ qh qb _ _ [(.slice oa oh.length oc, ⟨0, ost, oh, obo⟩)] (HHM.out.below hBB (Nat.le_refl _)) (Nat.lt_of_lt_of_le HHG.out hBB.size) (HHW.out wB hBB) (HHQ.out.below hBB) (OIn.one EB (HHO.out.1.below hBB (Nat.le_refl _)) HHO.out.2) (by rw [HSS.out.1]; exact HSO.out) HFF.out.j HFF.out.n1 HFF.out.n2 HFF.out.c (fun x hx => (by obtain rfl := List.mem_singleton.1 hx; exact ⟨HFF.out.o _ (by simp), (by show (0 : Nat) < 256; decide)⟩)) (by show 1 ≤ 40; decide) (fun _ _ _ => setC) r2 (by rw [HSS.out.1, ← hr2, ← HSS.out.2.2]; rfl))
        have HR2 := Lib.hid hr2
        clear hr2 a0 a1 a2 a3 q0 q1 q2 q3 q4 q5 q6 q7 o0 o1 o2 o3 al8 ql8 ol8 EB
        have a0 := W10.c 0 rfl; have a1 := W10.c 1 rfl; have a2 := W10.c 2 rfl; have a3 := W10.c 3 rfl
        have q0 := Q10.c 0 rfl; have q1 := Q10.c 1 rfl; have q2 := Q10.c 2 rfl; have q3 := Q10.c 3 rfl; have q4 := Q10.c 4 rfl; have q5 := Q10.c 5 rfl; have q6 := Q10.c 6 rfl; have q7 := Q10.c 7 rfl
        have o0 := O10.c 0 rfl; have o1 := O10.c 1 rfl; have o2 := O10.c 2 rfl; have o3 := O10.c 3 rfl
        have al10 := W10.lt
        have ql10 := Q10.lt
        have ol10 := O10.lt
        go_upto_region 17 with (first
          | (go_at_call 13; (with_reducible refine C2.out.mono ?_); rintro e11 w11 hq11; obtain ⟨L2, V2, ea2, n2, ek2, l2, vj5, vc5, lx5, rfl, hn5, hL, hV, hRL⟩ := RunQ.law hq11; have Z3 := lawW_at w11; have Z4 := lawW_at2 w11 L2; have HL := Lib.hid hL; have HV := Lib.hid hV; have HRL := Lib.hid hRL; clear hq11 hL hV hRL hn5)
          | (refine wpList_store_at rfl 40 _ _ rfl w11.heap.size L2 rfl rfl Z3 HL.out.1 (by rw [HL.out.1]; kernel_rfl) HL.out.2 ?_)
          | (refine wpList_store_at rfl 27 _ _ rfl (w11.heap.size + 1) V2 rfl rfl Z4 HV.out.1 (by rw [HV.out.1]; kernel_rfl) HV.out.2 ?_)
          | fail)
        obtain ⟨w12, hw12⟩ : ∃ w8 : World, (((w11.alloc (.cells fz.toArray 40)).alloc (.cells wz.toArray 27)).setCells w11.heap.size 0 L2).setCells (w11.heap.size + 1) 0 V2 = w8 := ⟨_, rfl⟩
        have R12 : RunL wB now r2 w11.heap.size L2 (.slice ea2 n2 ek2) l2 vj5 vc5 lx5 w12 := by rw [← hw12]; exact HRL.out
        obtain ⟨s2, hs2⟩ : ∃ s1, w11.heap.size = s1 := ⟨_, rfl⟩
        rw [hs2] at R12
        rw [hw12, hs2]
        have W12 := WB.next R12.bl
        have Q12 := QB.next R12.bl
        have hB12 := hBB.trans (R12.bl.mono hBB.size)
        clear hw12 hs2 HRL HL HV Z3 Z4 C2 hwB hE2 a0 a1 a2 a3 q0 q1 q2 q3 q4 q5 q6 q7 o0 o1 o2 o3 al10 ql10 ol10 W10 Q10 O10 WB QB hbB hBB
        have a0 := W12.c 0 rfl; have a1 := W12.c 1 rfl; have a2 := W12.c 2 rfl; have a3 := W12.c 3 rfl
        have q0 := Q12.c 0 rfl; have q1 := Q12.c 1 rfl; have q2 := Q12.c 2 rfl; have q3 := Q12.c 3 rfl; have q4 := Q12.c 4 rfl; have q5 := Q12.c 5 rfl; have q6 := Q12.c 6 rfl; have q7 := Q12.c 7 rfl
        have al12 := W12.lt
        have ql12 := Q12.lt
        have hj2 : r2.j = (J, nx) := by rw [← HR2.out, op_jar now _ r hck, ← HSS.out.2.2]; rfl
        have hwd := R12.wd
        rw [hj2] at hwd
        have hjv := R12.ja
        rw [hj2] at hjv
        obtain ⟨ja5, jc5, rfl, _⟩ := hjv.shape
        have hjw : SlK ckL 9 w12 (.slice ja J.length jc) J := (HHW.out w12 hB12).j
        have hJl := HJZ.out.1
        have CSm := Lib.hid (same_true J _ _ nx w12 hjv hjw (by omega))
        have x0 := hwd.c 0 rfl; have x1 := hwd.c 1 rfl; have x2 := hwd.c 2 rfl; have x3 := hwd.c 3 rfl
        have xl := hwd.lt
        clear hjv hjw hJl hj2
        go_wp2_with (first
          | (go_at_call 16; (with_reducible refine CSm.out.mono ?_); rintro e13 w13 ⟨rfl, hb13⟩)
          | fail)
        go_ret
        exact ⟨rfl, hB12.trans (hb13.mono hB12.size)⟩
      | true =>
        obtain ⟨va, vk, wa, wk, hLe, _, _⟩ := HR8.out.ls
        have S8 := HR8.out.st
        rw [hLe] at S8
        have u9 := S8.c 9 rfl
        have u10 := S8.c 10 rfl
        have u11 := S8.c 11 rfl
        have u12 := S8.c 12 rfl
        have u13 := S8.c 13 rfl
        have u14 := S8.c 14 rfl
        have HJM := Lib.hid (HHM.out.below hB8 (Nat.le_refl _))
        have CC := Lib.hid (cook_is J now r.s T hT w8 W _ _ HRO.out.s.u4 HJM.out (HHW.out w8 hB8).j W8 (by have := HJZ.out.1; omega) (fun c hc => by have := HJZ.out.2 c hc; omega))
        have HTT := Lib.hid hT
        clear hT hLe S8
        by_cases hz : T.size = 0
        · obtain rfl : T = ⟨#[]⟩ := ba_ext' (List.eq_nil_of_length_eq_zero (by rw [size_len]; exact hz))
          have CH1 := Lib.hid (CH.out ⟨#[]⟩ false (by rw [HHD.out, if_neg (fun h => h.2 rfl)]; rfl) (by rw [HHD.out, if_neg (fun h => h.2 rfl)]; rfl))
          clear hz
          go_upto_region 16 with (first
            | (go_at_call 14; (with_reducible refine CC.out.mono ?_); rintro e9 w9 ⟨rfl, hb9⟩; have c3b := (brl hb9 _ _ hb0').trans c3)
            | (go_at_call 15; (with_reducible refine (CH1.out _ hb9).mono ?_); rintro e10 w10 ⟨rfl, hb10⟩; have h8t := hb9.trans (hb10.mono hb9.size))
            | fail)
          have W10 := W8.next h8t
          have Q10 := Q8.next h8t
          have O10 := O8.next h8t
          have hB10 := hB8.trans (h8t.mono hB8.size)
          have hbB : Below w10.heap.size w10 (w10.alloc (.cells [.int .u8 0, .int .i64 ost, .slice oa oh.length oc, .string obo].toArray 32)) := (Below.refl _ w10).alloc (Nat.le_refl _) _
          have EB := AtL.new w10 [.int .u8 0, .int .i64 ost, .slice oa oh.length oc, .string obo] 32
          obtain ⟨E2, hE2⟩ : ∃ E, w10.heap.size = E := ⟨_, rfl⟩
          obtain ⟨wB, hwB⟩ : ∃ wA : World, w10.alloc (.cells [.int .u8 0, .int .i64 ost, .slice oa oh.length oc, .string obo].toArray 32) = wA := ⟨_, rfl⟩
          rw [hwB] at hbB EB
          rw [hE2] at EB
          have WB := W10.next hbB
          have QB := Q10.next hbB
          have hBB := hB10.trans (hbB.mono hB10.size)
          obtain ⟨r2, hr2⟩ : ∃ r2, opF now ⟨0, ost, oh, obo⟩ r = r2 := ⟨_, rfl⟩
          have C2 := Lib.hid (run_is wB _ J nx (.slice none 0 0) [] now tk me ur og mo _ qh qb _ _ [(.slice oa oh.length oc, ⟨0, ost, oh, obo⟩)] (HHM.out.below hBB (Nat.le_refl _)) (Nat.lt_of_lt_of_le HHG.out hBB.size) (HHW.out wB hBB) (HHQ.out.below hBB) (OIn.one EB (HHO.out.1.below hBB (Nat.le_refl _)) HHO.out.2) (by rw [HSS.out.1]; exact HSO.out) HFF.out.j HFF.out.n1 HFF.out.n2 HFF.out.c (fun x hx => (by obtain rfl := List.mem_singleton.1 hx; exact ⟨HFF.out.o _ (by simp), (by show (0 : Nat) < 256; decide)⟩)) (by show 1 ≤ 40; decide) (fun _ _ _ => setC) r2 (by rw [HSS.out.1, ← hr2, ← HSS.out.2.2]; rfl))
          have HR2 := Lib.hid hr2
          clear hr2 a0 a1 a2 a3 q0 q1 q2 q3 q4 q5 q6 q7 o0 o1 o2 o3 al8 ql8 ol8 EB
          have a0 := W10.c 0 rfl; have a1 := W10.c 1 rfl; have a2 := W10.c 2 rfl; have a3 := W10.c 3 rfl
          have q0 := Q10.c 0 rfl; have q1 := Q10.c 1 rfl; have q2 := Q10.c 2 rfl; have q3 := Q10.c 3 rfl; have q4 := Q10.c 4 rfl; have q5 := Q10.c 5 rfl; have q6 := Q10.c 6 rfl; have q7 := Q10.c 7 rfl
          have o0 := O10.c 0 rfl; have o1 := O10.c 1 rfl; have o2 := O10.c 2 rfl; have o3 := O10.c 3 rfl
          have al10 := W10.lt
          have ql10 := Q10.lt
          have ol10 := O10.lt
          go_upto_region 17 with (first
            | (go_at_call 13; (with_reducible refine C2.out.mono ?_); rintro e11 w11 hq11; obtain ⟨L2, V2, ea2, n2, ek2, l2, vj5, vc5, lx5, rfl, hn5, hL, hV, hRL⟩ := RunQ.law hq11; have Z3 := lawW_at w11; have Z4 := lawW_at2 w11 L2; have HL := Lib.hid hL; have HV := Lib.hid hV; have HRL := Lib.hid hRL; clear hq11 hL hV hRL hn5)
            | (refine wpList_store_at rfl 40 _ _ rfl w11.heap.size L2 rfl rfl Z3 HL.out.1 (by rw [HL.out.1]; kernel_rfl) HL.out.2 ?_)
            | (refine wpList_store_at rfl 27 _ _ rfl (w11.heap.size + 1) V2 rfl rfl Z4 HV.out.1 (by rw [HV.out.1]; kernel_rfl) HV.out.2 ?_)
            | fail)
          obtain ⟨w12, hw12⟩ : ∃ w8 : World, (((w11.alloc (.cells fz.toArray 40)).alloc (.cells wz.toArray 27)).setCells w11.heap.size 0 L2).setCells (w11.heap.size + 1) 0 V2 = w8 := ⟨_, rfl⟩
          have R12 : RunL wB now r2 w11.heap.size L2 (.slice ea2 n2 ek2) l2 vj5 vc5 lx5 w12 := by rw [← hw12]; exact HRL.out
          obtain ⟨s2, hs2⟩ : ∃ s1, w11.heap.size = s1 := ⟨_, rfl⟩
          rw [hs2] at R12
          rw [hw12, hs2]
          have W12 := WB.next R12.bl
          have Q12 := QB.next R12.bl
          have hB12 := hBB.trans (R12.bl.mono hBB.size)
          clear hw12 hs2 HRL HL HV Z3 Z4 C2 hwB hE2 a0 a1 a2 a3 q0 q1 q2 q3 q4 q5 q6 q7 o0 o1 o2 o3 al10 ql10 ol10 W10 Q10 O10 WB QB hbB hBB
          have a0 := W12.c 0 rfl; have a1 := W12.c 1 rfl; have a2 := W12.c 2 rfl; have a3 := W12.c 3 rfl
          have q0 := Q12.c 0 rfl; have q1 := Q12.c 1 rfl; have q2 := Q12.c 2 rfl; have q3 := Q12.c 3 rfl; have q4 := Q12.c 4 rfl; have q5 := Q12.c 5 rfl; have q6 := Q12.c 6 rfl; have q7 := Q12.c 7 rfl
          have al12 := W12.lt
          have ql12 := Q12.lt
          go_wp2_with fail
          go_ret
          exact ⟨rfl, hB12⟩
        · have CH1 := Lib.hid (CH.out T true (by rw [HHD.out, if_pos ⟨rfl, hz⟩]; rfl) (by rw [HHD.out, if_pos ⟨rfl, hz⟩]; rfl))
          have hpe := empty_size T
          rw [decide_eq_false hz] at hpe
          clear hz
          go_upto_region 16 with (first
            | (go_at_call 14; (with_reducible refine CC.out.mono ?_); rintro e9 w9 ⟨rfl, hb9⟩; have c3b := (brl hb9 _ _ hb0').trans c3)
            | (go_at_call 15; (with_reducible refine (CH1.out _ hb9).mono ?_); rintro e10 w10 ⟨rfl, hb10⟩; have h8t := hb9.trans (hb10.mono hb9.size))
            | fail)
          have W10 := W8.next h8t
          have Q10 := Q8.next h8t
          have O10 := O8.next h8t
          have hB10 := hB8.trans (h8t.mono hB8.size)
          have hbB : Below w10.heap.size w10 (w10.alloc (.cells [.int .u8 0, .int .i64 ost, .slice oa oh.length oc, .string obo].toArray 32)) := (Below.refl _ w10).alloc (Nat.le_refl _) _
          have EB := AtL.new w10 [.int .u8 0, .int .i64 ost, .slice oa oh.length oc, .string obo] 32
          obtain ⟨E2, hE2⟩ : ∃ E, w10.heap.size = E := ⟨_, rfl⟩
          obtain ⟨wB, hwB⟩ : ∃ wA : World, w10.alloc (.cells [.int .u8 0, .int .i64 ost, .slice oa oh.length oc, .string obo].toArray 32) = wA := ⟨_, rfl⟩
          rw [hwB] at hbB EB
          rw [hE2] at EB
          have WB := W10.next hbB
          have QB := Q10.next hbB
          have hBB := hB10.trans (hbB.mono hB10.size)
          obtain ⟨r2, hr2⟩ : ∃ r2, opF now ⟨0, ost, oh, obo⟩ r = r2 := ⟨_, rfl⟩
          have C2 := Lib.hid (run_is wB _ J nx (.slice none 0 0) [] now tk me ur og mo _ qh qb _ _ [(.slice oa oh.length oc, ⟨0, ost, oh, obo⟩)] (HHM.out.below hBB (Nat.le_refl _)) (Nat.lt_of_lt_of_le HHG.out hBB.size) (HHW.out wB hBB) (HHQ.out.below hBB) (OIn.one EB (HHO.out.1.below hBB (Nat.le_refl _)) HHO.out.2) (by rw [HSS.out.1]; exact HSO.out) HFF.out.j HFF.out.n1 HFF.out.n2 HFF.out.c (fun x hx => (by obtain rfl := List.mem_singleton.1 hx; exact ⟨HFF.out.o _ (by simp), (by show (0 : Nat) < 256; decide)⟩)) (by show 1 ≤ 40; decide) (fun _ _ _ => setC) r2 (by rw [HSS.out.1, ← hr2, ← HSS.out.2.2]; rfl))
          have HR2 := Lib.hid hr2
          clear hr2 a0 a1 a2 a3 q0 q1 q2 q3 q4 q5 q6 q7 o0 o1 o2 o3 al8 ql8 ol8 EB
          have a0 := W10.c 0 rfl; have a1 := W10.c 1 rfl; have a2 := W10.c 2 rfl; have a3 := W10.c 3 rfl
          have q0 := Q10.c 0 rfl; have q1 := Q10.c 1 rfl; have q2 := Q10.c 2 rfl; have q3 := Q10.c 3 rfl; have q4 := Q10.c 4 rfl; have q5 := Q10.c 5 rfl; have q6 := Q10.c 6 rfl; have q7 := Q10.c 7 rfl
          have o0 := O10.c 0 rfl; have o1 := O10.c 1 rfl; have o2 := O10.c 2 rfl; have o3 := O10.c 3 rfl
          have al10 := W10.lt
          have ql10 := Q10.lt
          have ol10 := O10.lt
          go_upto_region 17 with (first
            | (go_at_call 13; (with_reducible refine C2.out.mono ?_); rintro e11 w11 hq11; obtain ⟨L2, V2, ea2, n2, ek2, l2, vj5, vc5, lx5, rfl, hn5, hL, hV, hRL⟩ := RunQ.law hq11; have Z3 := lawW_at w11; have Z4 := lawW_at2 w11 L2; have HL := Lib.hid hL; have HV := Lib.hid hV; have HRL := Lib.hid hRL; clear hq11 hL hV hRL hn5)
            | (refine wpList_store_at rfl 40 _ _ rfl w11.heap.size L2 rfl rfl Z3 HL.out.1 (by rw [HL.out.1]; kernel_rfl) HL.out.2 ?_)
            | (refine wpList_store_at rfl 27 _ _ rfl (w11.heap.size + 1) V2 rfl rfl Z4 HV.out.1 (by rw [HV.out.1]; kernel_rfl) HV.out.2 ?_)
            | fail)
          obtain ⟨w12, hw12⟩ : ∃ w8 : World, (((w11.alloc (.cells fz.toArray 40)).alloc (.cells wz.toArray 27)).setCells w11.heap.size 0 L2).setCells (w11.heap.size + 1) 0 V2 = w8 := ⟨_, rfl⟩
          have R12 : RunL wB now r2 w11.heap.size L2 (.slice ea2 n2 ek2) l2 vj5 vc5 lx5 w12 := by rw [← hw12]; exact HRL.out
          obtain ⟨s2, hs2⟩ : ∃ s1, w11.heap.size = s1 := ⟨_, rfl⟩
          rw [hs2] at R12
          rw [hw12, hs2]
          have W12 := WB.next R12.bl
          have Q12 := QB.next R12.bl
          have hB12 := hBB.trans (R12.bl.mono hBB.size)
          clear hw12 hs2 HRL HL HV Z3 Z4 C2 hwB hE2 a0 a1 a2 a3 q0 q1 q2 q3 q4 q5 q6 q7 o0 o1 o2 o3 al10 ql10 ol10 W10 Q10 O10 WB QB hbB hBB
          have a0 := W12.c 0 rfl; have a1 := W12.c 1 rfl; have a2 := W12.c 2 rfl; have a3 := W12.c 3 rfl
          have q0 := Q12.c 0 rfl; have q1 := Q12.c 1 rfl; have q2 := Q12.c 2 rfl; have q3 := Q12.c 3 rfl; have q4 := Q12.c 4 rfl; have q5 := Q12.c 5 rfl; have q6 := Q12.c 6 rfl; have q7 := Q12.c 7 rfl
          have al12 := W12.lt
          have ql12 := Q12.lt
          go_wp2_with fail
          go_ret
          exact ⟨rfl, hB12⟩
    · have hp1 : (r.s.ph == 1) = false := beq_eq_false_iff_ne.2 hph
      go_wp2_with fail
      go_ret
      exact ⟨rfl, hB8⟩
end Go.Proofs.YtjdhaacmlpegoaaGreatDoor
