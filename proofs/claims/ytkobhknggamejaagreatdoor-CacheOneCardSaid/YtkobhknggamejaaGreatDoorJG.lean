/- CacheOne: the law. -/
import Derived.Test.YtkobhknggamejaaGreatDoorJF1
namespace Go.Proofs.YtkobhknggamejaaGreatDoor
set_option linter.unusedVariables false
set_option linter.unusedSimpArgs false
open Go.RowKit

theorem cnt_snoc (l : List Ee) (p : Ee → Bool) (k : Nat) (h : k < l.length) (x : Ee) (hx : l[k] = x) : ((l.take (k + 1)).filter p).length = ((l.take k).filter p).length + if p x then 1 else 0 := by
  rw [keep_snoc l p k h x hx, List.length_append]
  congr 1
  cases p x <;> rfl
theorem ans_url {e : En} {url : ByteArray} {rq : List Hd} (h : ansB e url rq = true) : urlB e.u url = true := by
  unfold ansB at h
  rw [Bool.and_eq_true] at h
  exact h.1
theorem keep_others (es : List En) (url : ByteArray) (rq : List Hd) : (keepE es url rq).filter (fun e => !urlB e.u url) = es.filter (fun e => !urlB e.u url) := by
  unfold keepE
  rw [List.filter_filter]
  refine List.filter_congr fun e _ => ?_
  cases h : urlB e.u url
  · have : ansB e url rq = false := by
      cases h2 : ansB e url rq
      · rfl
      · rw [ans_url h2] at h; cases h
    rw [this]; rfl
  · rfl
theorem put_others (es : List En) (url : ByteArray) (rq : List Hd) (st : Int) (hs : List Hd) (body : ByteArray) (now : Int) (S : Bool) : (putEs es url rq st hs body now S).filter (fun e => !urlB e.u url) = es.filter (fun e => !urlB e.u url) := by
  unfold putEs
  rw [List.filter_append, keep_others]
  cases S
  · simp
  · simp [urlB]
theorem put_count (es : List En) (url : ByteArray) (rq : List Hd) (st : Int) (hs : List Hd) (body : ByteArray) (now : Int) (S : Bool) : ((putEs es url rq st hs body now S).filter (fun e => ansB e url rq)).length = if S then 1 else 0 := by
  unfold putEs
  rw [List.filter_append]
  have h1 : (keepE es url rq).filter (fun e => ansB e url rq) = [] := by
    rw [List.filter_eq_nil_iff]
    intro e he h
    rw [keep_none es url rq e he] at h; cases h
  rw [h1]
  cases S
  · rfl
  · rw [if_pos rfl, List.filter_cons, if_pos (new_ans url rq hs st body now)]; rfl
theorem put_sz (l : List Ee) (url : ByteArray) (rq : List Hd) (st : Int) (hd : List Hd) (bo : ByteArray) (now : Int) (S : Bool) (hok : ∀ x ∈ l, HdSz x.2.va ∧ HdSz x.2.hd ∧ x.2.bo.size ≤ 500) (hl : l.length ≤ 12) (hzq' : HdSz rq) (hzh : HdSz hd) : ∀ lp : List Ee, lp.map (·.2) = putEs (l.map (·.2)) url rq st hd bo now S → (∀ x ∈ lp, HdSz x.2.va ∧ HdSz x.2.hd) ∧ lp.length ≤ 1000 := by
  intro lp hlp
  refine ⟨fun x hx => ?_, ?_⟩
  · have h1 : x.2 ∈ putEs (l.map (·.2)) url rq st hd bo now S := by rw [← hlp]; exact List.mem_map_of_mem hx
    rcases List.mem_append.1 h1 with h2 | h2
    · obtain ⟨z, hz, he⟩ := List.mem_map.1 (List.mem_filter.1 h2).1
      rw [← he]; exact ⟨(hok z hz).1, (hok z hz).2.1⟩
    · cases S with
      | false => simp at h2
      | true =>
        have h2 : x.2 = ⟨url, varyE rq hd, st, hd, bo, now⟩ := by simpa using h2
        rw [h2]; exact ⟨HdSz.vary hzq' hzh, hzh⟩
  · have h1 := congrArg List.length hlp
    have h2 : (keepE (l.map (·.2)) url rq).length ≤ (l.map (·.2)).length := List.length_filter_le _ _
    rw [List.length_map, List.length_append] at h1
    rw [List.length_map] at h2
    have h3 : (if S = true then [(⟨url, varyE rq hd, st, hd, bo, now⟩ : En)] else []).length ≤ 1 := by split <;> simp
    omega
set_option maxRecDepth 20000 in
set_option maxHeartbeats 8000000 in
theorem cacheone_law (l : List Ee) (v : Value) (url : ByteArray) (vr : Value) (now : Int) (rq : List Hd) (y : Ee) (w : World) (hM : MaxAt w) (hv : SlK eeC 6 w v l) (hr : ∀ x ∈ l, Rd w x.1 x.2) (hz : ∀ x ∈ l, WtE x.2) (hq : SlK hdC 2 w vr rq) (hzq : WtH rq) (hy : Rd w y.1 y.2) (hzy : WtE y.2) :
    Calls Tryz.prog 7 #[.agg #[v], .agg #[.string url, vr, .int .i64 now], eeA y] w fun e w' => e = .returned (.bool true) ∧ Below w.heap.size w w' := by
  have hb0 : Below w.heap.size w (((w.alloc (.cells [v].toArray 35)).alloc (.cells [.string url, vr, .int .i64 now].toArray 37)).alloc (.cells (eeC y).toArray 40)) := (((Below.refl _ w).alloc (Nat.le_refl _) _).alloc (by simp) _).alloc (by simp; omega) _
  have C0 := ((AtL.new w [v] 35).alloc (.cells [.string url, vr, .int .i64 now].toArray 37)).alloc (.cells (eeC y).toArray 40)
  have Q0 := (AtL.new (w.alloc (.cells [v].toArray 35)) [.string url, vr, .int .i64 now] 37).alloc (.cells (eeC y).toArray 40)
  rw [show (w.alloc (.cells [v].toArray 35)).heap.size = w.heap.size + 1 by simp] at Q0
  have E0 := AtL.new ((w.alloc (.cells [v].toArray 35)).alloc (.cells [.string url, vr, .int .i64 now].toArray 37)) (eeC y) 40
  rw [show ((w.alloc (.cells [v].toArray 35)).alloc (.cells [.string url, vr, .int .i64 now].toArray 37)).heap.size = w.heap.size + 1 + 1 by simp] at E0
  have CF := Lib.hid (fit_is43 _ (hM.below hb0 (Nat.le_refl _)))
  obtain ⟨R, hR⟩ : ∃ R, fewA (l.map (·.2)) rq = R := ⟨_, rfl⟩
  obtain ⟨A, hA⟩ : ∃ A, attrB y.2.hd = A := ⟨_, rfl⟩
  have CW := Lib.hid (fun (w' : World) (hb : Below w.heap.size w w') => few_is l v url rq vr now w' (hv.below hb (Nat.le_refl _)) (fun x hx => (hr x hx).below hb (Nat.le_refl _)) (hq.below hb (Nat.le_refl _)) hz hzq R hR)
  have CH := Lib.hid (fun (w' : World) (hb : Below w.heap.size w w') => attrs_is y.2.hd y.1.hv w' (hy.hd.below hb (Nat.le_refl _)) hzy.2.1 A hA)
  have HV := Lib.hid hv
  have HRD := Lib.hid hr
  have HQ := Lib.hid hq
  have HMM := Lib.hid hM
  have HH : Hid (SlK hdC 2 w y.1.hv y.2.hd) := Lib.hid hy.hd
  have HYD : Hid (y.1.st = y.2.st ∧ y.1.bo = y.2.bo ∧ y.1.ti = y.2.ti) := Lib.hid ⟨hy.st, hy.bo, hy.ti⟩
  obtain ⟨sa, sc, rfl, _⟩ := hv.shape
  obtain ⟨sb, sd, rfl, _⟩ := hq.shape
  obtain ⟨⟨a1, n1, k1, e1⟩, a2, n2, k2, e2⟩ := hy.shp
  obtain ⟨⟨u, vv, st, hh, bo, ti⟩, ⟨u', va, st', hd, bo', ti'⟩⟩ := y
  have e1 : vv = .slice a1 n1 k1 := e1
  have e2 : hh = .slice a2 n2 k2 := e2
  subst e1 e2
  have hzy2 : WtH hd := hzy.2.1
  clear hv hr hq hy hM hz hzy
  have c0 := C0.c 0 rfl
  have q0 := Q0.c 0 rfl; have q1 := Q0.c 1 rfl; have q2 := Q0.c 2 rfl
  have z0 := E0.c 0 rfl; have z1 := E0.c 1 rfl; have z2 := E0.c 2 rfl; have z3 := E0.c 3 rfl; have z4 := E0.c 4 rfl; have z5 := E0.c 5 rfl
  have cl := C0.lt
  have ql := Q0.lt
  have el := E0.lt
  cases R with
  | false =>
    clear hR hA CH
    go_enter Tryz.func7, Tryz.ntmps7
    go_wp2_with (first
      | (go_at_call 10; (with_reducible refine CF.out.mono ?_); rintro e w1 ⟨rfl, hb1⟩; have C1 := C0.next hb1; have Q1 := Q0.next hb1; have E1 := E0.next hb1; have hB1 := hb0.trans (hb1.mono hb0.size); clear c0 q0 q1 q2 z0 z1 z2 z3 z4 z5; have c0 := C1.c 0 rfl; have q0 := Q1.c 0 rfl; have q1 := Q1.c 1 rfl; have q2 := Q1.c 2 rfl; have z0 := E1.c 0 rfl; have z1 := E1.c 1 rfl; have z2 := E1.c 2 rfl; have z3 := E1.c 3 rfl; have z4 := E1.c 4 rfl; have z5 := E1.c 5 rfl; have l1 := C1.lt; have m1 := Q1.lt; have o1 := E1.lt)
      | (go_at_call 20; (with_reducible refine (CW.out _ hB1).mono ?_); rintro e w2 ⟨rfl, hb2⟩; have C2 := C1.next hb2; have Q2 := Q1.next hb2; have E2 := E1.next hb2; have hB2 := hB1.trans (hb2.mono hB1.size); clear c0 q0 q1 q2 z0 z1 z2 z3 z4 z5; have c0 := C2.c 0 rfl; have q0 := Q2.c 0 rfl; have q1 := Q2.c 1 rfl; have q2 := Q2.c 2 rfl; have z0 := E2.c 0 rfl; have z1 := E2.c 1 rfl; have z2 := E2.c 2 rfl; have z3 := E2.c 3 rfl; have z4 := E2.c 4 rfl; have z5 := E2.c 5 rfl; have l2 := C2.lt; have m2 := Q2.lt; have o2 := E2.lt)
      )
    go_ret
    exact ⟨rfl, hB2⟩
  | true =>
    cases A with
    | false =>
      clear hR hA
      go_enter Tryz.func7, Tryz.ntmps7
      go_wp2_with (first
        | (go_at_call 10; (with_reducible refine CF.out.mono ?_); rintro e w1 ⟨rfl, hb1⟩; have C1 := C0.next hb1; have Q1 := Q0.next hb1; have E1 := E0.next hb1; have hB1 := hb0.trans (hb1.mono hb0.size); clear c0 q0 q1 q2 z0 z1 z2 z3 z4 z5; have c0 := C1.c 0 rfl; have q0 := Q1.c 0 rfl; have q1 := Q1.c 1 rfl; have q2 := Q1.c 2 rfl; have z0 := E1.c 0 rfl; have z1 := E1.c 1 rfl; have z2 := E1.c 2 rfl; have z3 := E1.c 3 rfl; have z4 := E1.c 4 rfl; have z5 := E1.c 5 rfl; have l1 := C1.lt; have m1 := Q1.lt; have o1 := E1.lt)
        | (go_at_call 20; (with_reducible refine (CW.out _ hB1).mono ?_); rintro e w2 ⟨rfl, hb2⟩; have C2 := C1.next hb2; have Q2 := Q1.next hb2; have E2 := E1.next hb2; have hB2 := hB1.trans (hb2.mono hB1.size); clear c0 q0 q1 q2 z0 z1 z2 z3 z4 z5; have c0 := C2.c 0 rfl; have q0 := Q2.c 0 rfl; have q1 := Q2.c 1 rfl; have q2 := Q2.c 2 rfl; have z0 := E2.c 0 rfl; have z1 := E2.c 1 rfl; have z2 := E2.c 2 rfl; have z3 := E2.c 3 rfl; have z4 := E2.c 4 rfl; have z5 := E2.c 5 rfl; have l2 := C2.lt; have m2 := Q2.lt; have o2 := E2.lt)
        | (go_at_call 11; (with_reducible refine (CH.out _ hB2).mono ?_); rintro e w3 ⟨rfl, hb3⟩; have C3 := C2.next hb3; have Q3 := Q2.next hb3; have E3 := E2.next hb3; have hB3 := hB2.trans (hb3.mono hB2.size); clear c0 q0 q1 q2 z0 z1 z2 z3 z4 z5; have c0 := C3.c 0 rfl; have q0 := Q3.c 0 rfl; have q1 := Q3.c 1 rfl; have q2 := Q3.c 2 rfl; have z0 := E3.c 0 rfl; have z1 := E3.c 1 rfl; have z2 := E3.c 2 rfl; have z3 := E3.c 3 rfl; have z4 := E3.c 4 rfl; have z5 := E3.c 5 rfl; have l3 := C3.lt; have m3 := Q3.lt; have o3 := E3.lt)
        )
      go_ret
      exact ⟨rfl, hB3⟩
    | true =>
      obtain ⟨hok, h12, hqq⟩ := fewA_sz hR
      have hzq' : HdSz rq := (attrB_sz hqq).1
      have hzh : HdSz hd := (attrB_sz hA).1
      have hok2 : ∀ x ∈ l, HdSz x.2.va ∧ HdSz x.2.hd ∧ x.2.bo.size ≤ 500 := fun x hx => okE_sz (hok _ (List.mem_map_of_mem hx))
      have HOK := Lib.hid hok2
      have hl12 : l.length ≤ 12 := by simpa using h12
      have HLX : Hid (∀ lx : List Ee, lx.map (·.2) = l.map (·.2) → ∀ x ∈ lx, HdSz x.2.va ∧ HdSz x.2.hd) := Lib.hid (fun lx h x hx => by
        have h1 : x.2 ∈ l.map (·.2) := by rw [← h]; exact List.mem_map_of_mem hx
        obtain ⟨z, hz, he⟩ := List.mem_map.1 h1
        rw [← he]; exact ⟨(hok2 z hz).1, (hok2 z hz).2.1⟩)
      have HLN : Hid (∀ lx : List Ee, lx.map (·.2) = l.map (·.2) → lx.length ≤ 1000) := Lib.hid (fun lx h => by have := congrArg List.length h; simp at this; omega)
      have CC := Lib.hid (fun (w' : World) (hb : Below w.heap.size w w') => clone_is43 l (.slice sa l.length sc) w' (HV.out.below hb (Nat.le_refl _)) (fun x hx => (HRD.out x hx).below hb (Nat.le_refl _)) (fun x hx => ⟨(hok2 x hx).1.1, (hok2 x hx).2.1.1⟩) (by omega) _ rfl)
      clear hR hA hok h12 hqq hok2
      obtain ⟨S, hS⟩ : ∃ S, storL st rq hd = S := ⟨_, rfl⟩
      have CP := Lib.hid (fun (w' : World) (jb B : Nat) (a : Option Addr) (k : Nat) (lx : List Ee) (vh : Value) (hlx : lx.map (·.2) = l.map (·.2)) (hb : Below w.heap.size w w') (hjB : B ≤ jb) (hwB : w.heap.size ≤ B) (hJ : CaIn w' jb B (.slice a lx.length k) lx) (hh : SlK hdC 2 w' vh hd) (hfh : FarV hd vh jb (Value.slice a lx.length k).ownBlock) =>
        put_any jb B _ lx w' (HMM.out.below hb (Nat.le_refl _)) (Nat.lt_of_lt_of_le HMM.out.lt hwB) hjB hJ (fun x hx => (HLX.out lx hlx x hx).1) (HLN.out lx hlx) url rq hd (.slice sb rq.length sd) vh (HQ.out.below hb (Nat.le_refl _)) hh hzq' hzh (far_old HQ.out (Nat.le_trans hwB hjB) (fun g e => Nat.le_trans hwB (own_base hJ.own e))) hfh st bo now S hS _ (by rw [hlx]))
      have HKZ := Lib.hid (put_sz l url rq st hd bo now S (fun x hx => HOK.out x hx) hl12 hzq' hzh)
      clear hS
      cases S with
      | false =>
        go_enter Tryz.func7, Tryz.ntmps7
        go_upto_region 6 with (first
          | (go_at_call 10; (with_reducible refine CF.out.mono ?_); rintro e w1 ⟨rfl, hb1⟩; have C1 := C0.next hb1; have Q1 := Q0.next hb1; have E1 := E0.next hb1; have hB1 := hb0.trans (hb1.mono hb0.size); clear c0 q0 q1 q2 z0 z1 z2 z3 z4 z5; have c0 := C1.c 0 rfl; have q0 := Q1.c 0 rfl; have q1 := Q1.c 1 rfl; have q2 := Q1.c 2 rfl; have z0 := E1.c 0 rfl; have z1 := E1.c 1 rfl; have z2 := E1.c 2 rfl; have z3 := E1.c 3 rfl; have z4 := E1.c 4 rfl; have z5 := E1.c 5 rfl; have l1 := C1.lt; have m1 := Q1.lt; have o1 := E1.lt)
          | (go_at_call 20; (with_reducible refine (CW.out _ hB1).mono ?_); rintro e w2 ⟨rfl, hb2⟩; have C2 := C1.next hb2; have Q2 := Q1.next hb2; have E2 := E1.next hb2; have hB2 := hB1.trans (hb2.mono hB1.size); clear c0 q0 q1 q2 z0 z1 z2 z3 z4 z5; have c0 := C2.c 0 rfl; have q0 := Q2.c 0 rfl; have q1 := Q2.c 1 rfl; have q2 := Q2.c 2 rfl; have z0 := E2.c 0 rfl; have z1 := E2.c 1 rfl; have z2 := E2.c 2 rfl; have z3 := E2.c 3 rfl; have z4 := E2.c 4 rfl; have z5 := E2.c 5 rfl; have l2 := C2.lt; have m2 := Q2.lt; have o2 := E2.lt)
          | (go_at_call 11; (with_reducible refine (CH.out _ hB2).mono ?_); rintro e w3 ⟨rfl, hb3⟩; have C3 := C2.next hb3; have Q3 := Q2.next hb3; have E3 := E2.next hb3; have hB3 := hB2.trans (hb3.mono hB2.size); clear c0 q0 q1 q2 z0 z1 z2 z3 z4 z5; have c0 := C3.c 0 rfl; have q0 := Q3.c 0 rfl; have q1 := Q3.c 1 rfl; have q2 := Q3.c 2 rfl; have z0 := E3.c 0 rfl; have z1 := E3.c 1 rfl; have z2 := E3.c 2 rfl; have z3 := E3.c 3 rfl; have z4 := E3.c 4 rfl; have z5 := E3.c 5 rfl; have l3 := C3.lt; have m3 := Q3.lt; have o3 := E3.lt)
          | (go_at_call 23; (with_reducible refine (CC.out _ hB3).mono ?_); rintro e w4 hq; obtain ⟨jb, ja, jc, lx, rfl, hjb, hJ, hlx, hb4⟩ := hq; have C4 := C3.next hb4; have Q4 := Q3.next hb4; have E4 := E3.next hb4; have hB4 := hB3.trans (hb4.mono hB3.size); clear c0 q0 q1 q2 z0 z1 z2 z3 z4 z5; have c0 := C4.c 0 rfl; have q0 := Q4.c 0 rfl; have q1 := Q4.c 1 rfl; have q2 := Q4.c 2 rfl; have z0 := E4.c 0 rfl; have z1 := E4.c 1 rfl; have z2 := E4.c 2 rfl; have z3 := E4.c 3 rfl; have z4 := E4.c 4 rfl; have z5 := E4.c 5 rfl; have l4 := C4.lt; have m4 := Q4.lt; have o4 := E4.lt)
          )
        obtain ⟨C, hC⟩ : ∃ C, w.heap.size = C := ⟨_, rfl⟩
        obtain ⟨Q, hQ⟩ : ∃ Q, C + 1 = Q := ⟨_, rfl⟩
        obtain ⟨E, hE⟩ : ∃ E, C + 1 + 1 = E := ⟨_, rfl⟩
        obtain ⟨B, hB⟩ : ∃ B, w3.heap.size = B := ⟨_, rfl⟩
        rw [hC] at C4 Q4 E4 l3 m3 o3
        rw [hE] at E4 o3
        rw [hQ] at Q4 m3
        rw [hB] at hjb l3 m3 o3 hJ
        rw [hC, hE, hQ]
        have HCC := Lib.hid hC
        have hwB : w.heap.size ≤ B := by omega
        have hCB : C < B := l3
        have hQB : Q < B := m3
        have hEB : E < B := o3
        have HJ := Lib.hid hJ
        have HLXE := Lib.hid hlx
        have HB4 := Lib.hid hB4
        clear hC hQ hE hB hJ hlx hB4 C0 Q0 E0 C1 C2 C3 Q1 Q2 Q3 E1 E2 E3 hb0 hb1 hb2 hb3 hB1 hB2 hB3 cl ql el l1 m1 o1 l2 m2 o2 l3 m3 o3 l4 m4 o4 c0 q0 q1 q2 z0 z1 z2 z3 z4 z5
        have c0 := C4.c 0 rfl
        have q0 := Q4.c 0 rfl; have q1 := Q4.c 1 rfl; have q2 := Q4.c 2 rfl
        have z0 := E4.c 0 rfl; have z1 := E4.c 1 rfl; have z2 := E4.c 2 rfl; have z3 := E4.c 3 rfl; have z4 := E4.c 4 rfl; have z5 := E4.c 5 rfl
        have l4 := C4.lt
        have m4 := Q4.lt
        have o4 := E4.lt
        go_upto_region 7 with (first
          | (go_at_call 29; (with_reducible refine (CP.out _ _ _ _ _ _ _ HLXE.out HB4.out hjb hwB HJ.out (HH.out.below HB4.out (Nat.le_refl _)) (far_old HH.out (Nat.le_trans hwB hjb) (fun g e => Nat.le_trans hwB (own_base HJ.out.own e)))).mono ?_); rintro e w6 hq6; obtain ⟨rfl, lp, hto6, hlp⟩ := hq6; have hlow6 := hto6.lowB HJ.out hjb; obtain ⟨a6, c6, J6, -, hR6⟩ := hto6.out; have HJ6 := Lib.hid J6; have HLP := Lib.hid hlp; have HB6 := Lib.hid (HB4.out.trans (hlow6.mono hwB)); have Q6 := Q4.below hlow6 hQB; have E6 := E4.below hlow6 hEB; clear hto6 J6 hlp c0 q0 q1 q2 z0 z1 z2 z3 z4 z5 l4 m4 o4; have q0 := Q6.c 0 rfl; have q1 := Q6.c 1 rfl; have q2 := Q6.c 2 rfl; have z0 := E6.c 0 rfl; have z1 := E6.c 1 rfl; have z2 := E6.c 2 rfl; have z3 := E6.c 3 rfl; have z4 := E6.c 4 rfl; have z5 := E6.c 5 rfl; have l6 := Q6.lt; have m6 := E6.lt)
          )
        have C6 := C4.below hlow6 hCB
        have c0 := C6.c 0 rfl
        have k6 := C6.lt
        have j6 := HJ6.out.at_.c 0 rfl
        have jl6 := HJ6.out.at_.lt
        have HCP := Lib.hid (ee_cells HJ6.out.reads rfl)
        have HRP := Lib.hid HJ6.out.rd
        have HKP := Lib.hid (HKZ.out lp HLP.out).1
        have hlpl := (HKZ.out lp HLP.out).2
        clear hlow6 hR6
        go_wp2_with fail
        go_loopw [9, 10, 49] (fun nv ov iv wr => ∃ (kk N : Nat) (lo : List Ee), kk ≤ lp.length ∧ iv = .int .i64 kk ∧ nv = .int .i64 N ∧ N ≤ kk ∧ Hid (((lp.take kk).filter (fun x => ansB x.2 url rq)).length = N) ∧ Hid (lo = (lp.take kk).filter (fun x => !urlB x.2.u url)) ∧ lo.length ≤ kk ∧ wr.ownsRow w6.heap.size 40 6 ov lo.length (cellsK eeC lo) ∧ Below w6.heap.size w6 wr) (fun _ _ iv _ => lp.length - (intOf iv).toNat)
        case atStart => exact ⟨0, 0, [], Nat.zero_le _, rfl, rfl, Nat.le_refl _, Lib.hid rfl, Lib.hid rfl, Nat.le_refl _, World.ownsRow_nil _ _ _ _, Below.refl _ _⟩
        case round =>
          obtain ⟨kk, N, lo, hk, rfl, rfl, hNk, HN, HLO, hlo, hown, hbw⟩ := hrel
          have hws := hbw.size
          have Qw := Q6.next hbw
          have qw0 := Qw.c 0 rfl
          have qw1 := Qw.c 1 rfl
          have qwl := Qw.lt
          by_cases hlt : kk < lp.length
          · have hlt2 := hlt
            obtain ⟨b0, off, rfl, hb0', hcell⟩ := HCP.out (by omega)
            have cc : ∀ j u, (eeC lp[kk])[j]? = some u → wr.cell? ⟨b0, off + kk * 6 + j, none⟩ = some u := fun j u hu => (brl hbw _ _ hb0').trans (hcell kk hlt j u hu)
            have hmem : lp[kk] ∈ lp := List.getElem_mem hlt
            have hrd := (HRP.out _ hmem).below hbw (Nat.le_refl _)
            have hzz := (HKP.out _ hmem).1
            have hst := keep_snoc lp (fun x => !urlB x.2.u url) kk hlt _ rfl
            have hct := cnt_snoc lp (fun x => ansB x.2 url rq) kk hlt _ rfl
            rw [← HLO.out] at hst
            rw [HN.out] at hct
            obtain ⟨y2, hy2⟩ : ∃ y2, lp[kk] = y2 := ⟨_, rfl⟩
            rw [hy2] at cc hrd hzz hst hct
            have hone := one6 y2 hrd.shp
            obtain ⟨⟨a1', n1', k1', f1⟩, a2', n2', k2', f2⟩ := hrd.shp
            have HONE := Lib.hid hone
            have HST0 := Lib.hid hst
            have HCT0 := Lib.hid hct
            have hkl : (kk : Int) < (lp.length : Int) := by omega
            have hal := (Below.refl _ wr).alloc (Nat.le_refl _) (.cells (eeC y2).toArray 40)
            have X5 := AtL.new wr (eeC y2) 40
            have hrd5 := hrd.below hal (Nat.le_refl _)
            have q5 := (HQ.out.below HB6.out (Nat.le_refl _)).below (hbw.trans (hal.mono hws)) (Nat.le_refl _)
            have hu2 := hrd.u
            have HUE := Lib.hid hu2
            obtain ⟨R, hR⟩ : ∃ R, ansB y2.2 url rq = R := ⟨_, rfl⟩
            have CA := Lib.hid (rans_is y2 url rq (.slice sb rq.length sd) _ hrd5 q5 hzq' hzz R hR)
            have HRR := Lib.hid hR
            have Q5 := Qw.next hal
            have own5 := hown.alloc (.cells (eeC y2).toArray 40)
            have hbw5 := hbw.trans (hal.mono hws)
            obtain ⟨oa, oc, rfl, _⟩ := own_reads hown
            clear hcell hmem hrd hzz hst hct hy2 hone hrd5 q5 hu2 hR
            obtain ⟨⟨u2, vv2, st2, hh2, bo2, ti2⟩, ex⟩ := y2
            have f1 : vv2 = .slice a1' n1' k1' := f1
            have f2 : hh2 = .slice a2' n2' k2' := f2
            subst f1 f2
            obtain ⟨c0, c1, c2, c3, c4, c5⟩ := e6_mk cc
            clear cc qw0 qw1
            have qw0 := Q5.c 0 rfl; have qw1 := Q5.c 1 rfl; have qw2 := Q5.c 2 rfl
            have x0 := X5.c 0 rfl; have x1 := X5.c 1 rfl; have x2 := X5.c 2 rfl; have x3 := X5.c 3 rfl; have x4 := X5.c 4 rfl; have x5 := X5.c 5 rfl
            have xl5 := X5.lt
            have ql5 := Q5.lt
            have hUU : urlB u2 url = urlB ex.u url := by rw [show u2 = ex.u from HUE.out]
            cases hub : urlB ex.u url with
            | true =>
              have hu1 : (u2.toList == url.toList) = true := by rw [hub] at hUU; exact hUU
              have hu3 : (u2.toList != url.toList) = false := by simp only [bne]; rw [hu1]; rfl
              have HST : Hid (lo = (lp.take (kk + 1)).filter (fun x => !urlB x.2.u url)) := Lib.hid (by rw [HST0.out]; simp [hub])
              cases R with
              | true =>
                have HCT : Hid (((lp.take (kk + 1)).filter (fun x => ansB x.2 url rq)).length = N + 1) := Lib.hid (by rw [HCT0.out, HRR.out]; rfl)
                clear hub hUU
                go_wp2_with (first
                  | (go_at_call 32; (with_reducible refine CA.out.mono ?_); rintro e w7 ⟨rfl, hb7⟩; have X7 := X5.next hb7; have Q7 := Q5.next hb7; have own7 := own_below own5 hb7 (Nat.le_refl _); have hbw7 := hbw5.trans (hb7.mono hbw5.size); have hz7 := hbw7.size; clear x0 x1 x2 x3 x4 x5 qw0 qw1 qw2; have x0 := X7.c 0 rfl; have x1 := X7.c 1 rfl; have x2 := X7.c 2 rfl; have x3 := X7.c 3 rfl; have x4 := X7.c 4 rfl; have x5 := X7.c 5 rfl; have qw0 := Q7.c 0 rfl; have qw1 := Q7.c 1 rfl; have qw2 := Q7.c 2 rfl; have xl7 := X7.lt; have ql7 := Q7.lt)
                  )
                go_roundw
                case rel => exact ⟨kk + 1, N + 1, lo, by omega, by go_num, by go_num, by omega, HCT, HST, by omega, own7, hbw7⟩
                case measure => simp [intOf]; omega
              | false =>
                have HCT : Hid (((lp.take (kk + 1)).filter (fun x => ansB x.2 url rq)).length = N) := Lib.hid (by rw [HCT0.out, HRR.out]; rfl)
                clear hub hUU
                go_wp2_with (first
                  | (go_at_call 32; (with_reducible refine CA.out.mono ?_); rintro e w7 ⟨rfl, hb7⟩; have X7 := X5.next hb7; have Q7 := Q5.next hb7; have own7 := own_below own5 hb7 (Nat.le_refl _); have hbw7 := hbw5.trans (hb7.mono hbw5.size); have hz7 := hbw7.size; clear x0 x1 x2 x3 x4 x5 qw0 qw1 qw2; have x0 := X7.c 0 rfl; have x1 := X7.c 1 rfl; have x2 := X7.c 2 rfl; have x3 := X7.c 3 rfl; have x4 := X7.c 4 rfl; have x5 := X7.c 5 rfl; have qw0 := Q7.c 0 rfl; have qw1 := Q7.c 1 rfl; have qw2 := Q7.c 2 rfl; have xl7 := X7.lt; have ql7 := Q7.lt)
                  )
                go_roundw
                case rel => exact ⟨kk + 1, N, lo, by omega, by go_num, rfl, by omega, HCT, HST, by omega, own7, hbw7⟩
                case measure => simp [intOf]; omega
            | false =>
              have hu1 : (u2.toList == url.toList) = false := by rw [hub] at hUU; exact hUU
              have hu3 : (u2.toList != url.toList) = true := by simp only [bne]; rw [hu1]; rfl
              have HST : Hid (lo ++ [(⟨u2, .slice a1' n1' k1', st2, .slice a2' n2' k2', bo2, ti2⟩, ex)] = (lp.take (kk + 1)).filter (fun x => !urlB x.2.u url)) := Lib.hid (by rw [HST0.out]; simp [hub])
              cases R with
              | true => exact absurd (ans_url HRR.out) (by show ¬ urlB ex.u url = true; rw [hub]; simp)
              | false =>
                have HCT : Hid (((lp.take (kk + 1)).filter (fun x => ansB x.2 url rq)).length = N) := Lib.hid (by rw [HCT0.out, HRR.out]; rfl)
                clear hub hUU
                go_wp2_with (first
                  | (go_at_call 32; (with_reducible refine CA.out.mono ?_); rintro e w7 ⟨rfl, hb7⟩; have X7 := X5.next hb7; have Q7 := Q5.next hb7; have own7 := own_below own5 hb7 (Nat.le_refl _); have hbw7 := hbw5.trans (hb7.mono hbw5.size); have hz7 := hbw7.size; clear x0 x1 x2 x3 x4 x5 qw0 qw1 qw2; have x0 := X7.c 0 rfl; have x1 := X7.c 1 rfl; have x2 := X7.c 2 rfl; have x3 := X7.c 3 rfl; have x4 := X7.c 4 rfl; have x5 := X7.c 5 rfl; have qw0 := Q7.c 0 rfl; have qw1 := Q7.c 1 rfl; have qw2 := Q7.c 2 rfl; have xl7 := X7.lt; have ql7 := Q7.lt)
                  | (refine app2 slE w7 (by rfl) (.tmp 66) (.tmp 68) (by rfl) w6.heap.size _ _ _ (by rfl) own7 (eeC (⟨u2, .slice a1' n1' k1', st2, .slice a2' n2' k2', bo2, ti2⟩, ex)) 1 w7.heap.size (by rfl) rfl (by rfl) HONE.out (by decide) (by omega) (by omega) hz7 ?_; intro v11 w11 o11 g11 f11; obtain ⟨ub, uk, rfl, _, _, _⟩ := own_reads o11)
                  )
                go_roundw
                case rel => exact ⟨kk + 1, N, lo ++ [(⟨u2, .slice a1' n1' k1', st2, .slice a2' n2' k2', bo2, ti2⟩, ex)], by omega, by go_num, rfl, by omega, HCT, HST, by simp; omega, own_eq o11 (by simp) (by rw [cellsK_app]; simp [cellsK]), below_own hbw7 own7 g11 hz7 (Nat.le_refl _)⟩
                case measure => simp [intOf]; omega
          · obtain rfl : kk = lp.length := by omega
            have hN := HN.out
            rw [List.take_length] at hN
            have hLO := HLO.out
            rw [List.take_length] at hLO
            have hoth : lo.map (·.2) = (l.map (·.2)).filter (fun e => !urlB e.u url) := by
              rw [hLO, map_filter_en lp _ HLP.out (fun e => !urlB e.u url), put_others]
            have HOTH := Lib.hid hoth
            have HCNT : Hid (N = ((lp.map (·.2)).filter (fun e => ansB e url rq)).length) := Lib.hid (by
              rw [← hN, ← map_filter_en lp _ rfl (fun e => ansB e url rq), List.length_map])
            have HLR : Hid (∀ x ∈ lo, Rd w6 x.1 x.2) := Lib.hid (fun x hx => by rw [hLO] at hx; exact HRP.out x (List.mem_filter.1 hx).1)
            have HLZ : Hid (∀ x ∈ lo, x.2.va.length ≤ 1000000 ∧ x.2.hd.length ≤ 1000000) := Lib.hid (fun x hx => by
              rw [hLO] at hx
              have := HKP.out x (List.mem_filter.1 hx).1
              exact ⟨this.1.1, this.2.1⟩)
            have HC0 := Lib.hid (ee_cells HV.out rfl)
            have HBA := Lib.hid (HB6.out.trans (hbw.mono HB6.out.size))
            have HUP := Lib.hid hbw
            have HOWA := Lib.hid hown
            obtain ⟨nA, hnA⟩ : ∃ nA, wr.heap.size = nA := ⟨_, rfl⟩
            have hBA : Below nA wr wr := Below.refl _ wr
            have HNA := Lib.hid hnA
            have qA := Qw.c 0 rfl
            have HQw := Lib.hid Qw
            have Cw := C6.next hbw
            clear c0
            have c0 := Cw.c 0 rfl
            have cwl := Cw.lt
            obtain ⟨oa, oc, rfl, _⟩ := own_reads hown
            clear hN hLO hoth HN HLO hown hbw hnA
            go_wp2_with fail
            go_loopw [11, 74] (fun bv iv w2 => ∃ (kk : Nat) (lb : List Ee), kk ≤ l.length ∧ iv = .int .i64 kk ∧ Hid (lb = (l.take kk).filter (fun x => !urlB x.2.u url)) ∧ lb.length ≤ kk ∧ w2.ownsRow nA 40 6 bv lb.length (cellsK eeC lb) ∧ Below nA wr w2) (fun _ iv _ => l.length - (intOf iv).toNat)
            case atStart => exact ⟨0, [], Nat.zero_le _, rfl, Lib.hid rfl, Nat.le_refl _, World.ownsRow_nil _ _ _ _, hBA⟩
            case round =>
              obtain ⟨kk, lb, hk, rfl, HLB, hlb, hown, hbw⟩ := hrel
              have hnz : nA ≤ wr.heap.size := by have := hbw.size; have := HNA.out; omega
              have Q2 := HQw.out.below hbw (by have := HQw.out.lt; have := HNA.out; omega)
              clear qw0 qw1 qA
              have qw0 := Q2.c 0 rfl
              have qwl2 := Q2.lt
              have hBw : Below w.heap.size w wr := HBA.out.trans (hbw.mono (by have := HBA.out.size; have := HNA.out; omega))
              by_cases hlt2 : kk < l.length
              · obtain ⟨b0, off, rfl, hb0', hcell⟩ := HC0.out (by omega)
                have cc : ∀ j u, (eeC l[kk])[j]? = some u → wr.cell? ⟨b0, off + kk * 6 + j, none⟩ = some u := fun j u hu => (brl hBw _ _ hb0').trans (hcell kk hlt2 j u hu)
                have hrd := HRD.out _ (List.getElem_mem hlt2)
                have hst := keep_snoc l (fun x => !urlB x.2.u url) kk hlt2 _ rfl
                rw [← HLB.out] at hst
                obtain ⟨y2, hy2⟩ : ∃ y2, l[kk] = y2 := ⟨_, rfl⟩
                rw [hy2] at cc hrd hst
                have hone := one6 y2 hrd.shp
                obtain ⟨⟨a1', n1', k1', f1⟩, a2', n2', k2', f2⟩ := hrd.shp
                have HONE := Lib.hid hone
                have HST0 := Lib.hid hst
                have HUE := Lib.hid hrd.u
                have hkl2 : (kk : Int) < (l.length : Int) := by omega
                have hB5 : Below nA wr (wr.alloc (.cells (eeC y2).toArray 40)) := (Below.refl _ wr).alloc hnz _
                have own5 := hown.alloc (.cells (eeC y2).toArray 40)
                have hbw5 := hbw.trans hB5
                obtain ⟨pa, pc, rfl, _⟩ := own_reads hown
                clear hcell hrd hst hy2 hone
                obtain ⟨⟨u2, vv2, st2, hh2, bo2, ti2⟩, ex⟩ := y2
                have f1 : vv2 = .slice a1' n1' k1' := f1
                have f2 : hh2 = .slice a2' n2' k2' := f2
                subst f1 f2
                obtain ⟨d0, d1, d2, d3, d4, d5⟩ := e6_mk cc
                clear cc
                have hUU : urlB u2 url = urlB ex.u url := by rw [show u2 = ex.u from HUE.out]
                have hz5 : nA ≤ (wr.alloc (.cells #[.string u2, .slice a1' n1' k1', .int .i64 st2, .slice a2' n2' k2', .string bo2, .int .i64 ti2] 40)).heap.size := by simp; omega
                cases hub : urlB ex.u url with
                | true =>
                  have hu1 : (u2.toList == url.toList) = true := by rw [hub] at hUU; exact hUU
                  have hu3 : (u2.toList != url.toList) = false := by simp only [bne]; rw [hu1]; rfl
                  have HST : Hid (lb = (l.take (kk + 1)).filter (fun x => !urlB x.2.u url)) := Lib.hid (by rw [HST0.out]; simp [hub])
                  clear hub hUU
                  go_wp2_with fail
                  go_roundw
                  case rel => exact ⟨kk + 1, lb, by omega, by go_num, HST, by omega, own5, hbw5⟩
                  case measure => simp [intOf]; omega
                | false =>
                  have hu1 : (u2.toList == url.toList) = false := by rw [hub] at hUU; exact hUU
                  have hu3 : (u2.toList != url.toList) = true := by simp only [bne]; rw [hu1]; rfl
                  have HST : Hid (lb ++ [(⟨u2, .slice a1' n1' k1', st2, .slice a2' n2' k2', bo2, ti2⟩, ex)] = (l.take (kk + 1)).filter (fun x => !urlB x.2.u url)) := Lib.hid (by rw [HST0.out]; simp [hub])
                  clear hub hUU
                  go_wp2_with (refine app2 slE _ (by rfl) (.tmp 83) (.tmp 85) (by rfl) nA _ _ _ (by rfl) own5 (eeC (⟨u2, .slice a1' n1' k1', st2, .slice a2' n2' k2', bo2, ti2⟩, ex)) 1 (wr.heap.size + 1) (by rfl) (by simp) (by rfl) HONE.out (by decide) (by omega) (by omega) hz5 ?_; intro v11 w11 o11 g11 f11; obtain ⟨ub, uk, rfl, _, _, _⟩ := own_reads o11)
                  go_roundw
                  case rel => exact ⟨kk + 1, lb ++ [(⟨u2, .slice a1' n1' k1', st2, .slice a2' n2' k2', bo2, ti2⟩, ex)], by omega, by go_num, HST, by simp; omega, own_eq o11 (by simp) (by rw [cellsK_app]; simp [cellsK]), below_own hbw5 own5 g11 hz5 (Nat.le_refl _)⟩
                  case measure => simp [intOf]; omega
              · obtain rfl : kk = l.length := by omega
                have hLB := HLB.out
                rw [List.take_length] at hLB
                have hm : lo.map (·.2) = lb.map (·.2) := by rw [HOTH.out, hLB, map_filter_en l _ rfl (fun e => !urlB e.u url)]
                have HLBR : Hid (∀ x ∈ lb, Rd w x.1 x.2) := Lib.hid (fun x hx => by rw [hLB] at hx; exact HRD.out x (List.mem_filter.1 hx).1)
                have hbA6 : Below w6.heap.size w6 wr := HUP.out.trans (hbw.mono (by have := HUP.out.size; have := HNA.out; omega))
                have CS := Lib.hid (fun (w2 : World) (hb : Below wr.heap.size wr w2) => sameL lo lb hm (.slice oa lo.length oc) _ w2 (SlK.of_own eelen (own_below (own_below HOWA.out hbw (Nat.le_of_eq HNA.out)) hb (Nat.le_refl _))) (SlK.of_own eelen (own_below hown hb (Nat.le_refl _))) (fun x hx => (HLR.out x hx).below (hbA6.trans (hb.mono hbA6.size)) (Nat.le_refl _)) (fun x hx => (HLBR.out x hx).below (hBw.trans (hb.mono hBw.size)) (Nat.le_refl _)) HLZ.out (by omega))
                have HBW := Lib.hid hBw
                have HBA6 := Lib.hid hbA6
                obtain ⟨pa, pc, rfl, _⟩ := own_reads hown
                clear hLB hm hBw hbA6 HLB
                have hN0 : ((N : Int) == 0) = true := by
                  have h1 := HCNT.out
                  rw [HLP.out, put_count] at h1
                  rw [h1]; rfl
                clear HCNT
                go_wp2_with (go_at_call 28; (with_reducible refine (CS.out _ (Below.refl _ wr)).mono ?_); rintro e w8 ⟨rfl, hb8⟩)
                go_ret
                exact ⟨rfl, HBW.out.trans (hb8.mono HBW.out.size)⟩
      | true =>
        go_enter Tryz.func7, Tryz.ntmps7
        go_upto_region 6 with (first
          | (go_at_call 10; (with_reducible refine CF.out.mono ?_); rintro e w1 ⟨rfl, hb1⟩; have C1 := C0.next hb1; have Q1 := Q0.next hb1; have E1 := E0.next hb1; have hB1 := hb0.trans (hb1.mono hb0.size); clear c0 q0 q1 q2 z0 z1 z2 z3 z4 z5; have c0 := C1.c 0 rfl; have q0 := Q1.c 0 rfl; have q1 := Q1.c 1 rfl; have q2 := Q1.c 2 rfl; have z0 := E1.c 0 rfl; have z1 := E1.c 1 rfl; have z2 := E1.c 2 rfl; have z3 := E1.c 3 rfl; have z4 := E1.c 4 rfl; have z5 := E1.c 5 rfl; have l1 := C1.lt; have m1 := Q1.lt; have o1 := E1.lt)
          | (go_at_call 20; (with_reducible refine (CW.out _ hB1).mono ?_); rintro e w2 ⟨rfl, hb2⟩; have C2 := C1.next hb2; have Q2 := Q1.next hb2; have E2 := E1.next hb2; have hB2 := hB1.trans (hb2.mono hB1.size); clear c0 q0 q1 q2 z0 z1 z2 z3 z4 z5; have c0 := C2.c 0 rfl; have q0 := Q2.c 0 rfl; have q1 := Q2.c 1 rfl; have q2 := Q2.c 2 rfl; have z0 := E2.c 0 rfl; have z1 := E2.c 1 rfl; have z2 := E2.c 2 rfl; have z3 := E2.c 3 rfl; have z4 := E2.c 4 rfl; have z5 := E2.c 5 rfl; have l2 := C2.lt; have m2 := Q2.lt; have o2 := E2.lt)
          | (go_at_call 11; (with_reducible refine (CH.out _ hB2).mono ?_); rintro e w3 ⟨rfl, hb3⟩; have C3 := C2.next hb3; have Q3 := Q2.next hb3; have E3 := E2.next hb3; have hB3 := hB2.trans (hb3.mono hB2.size); clear c0 q0 q1 q2 z0 z1 z2 z3 z4 z5; have c0 := C3.c 0 rfl; have q0 := Q3.c 0 rfl; have q1 := Q3.c 1 rfl; have q2 := Q3.c 2 rfl; have z0 := E3.c 0 rfl; have z1 := E3.c 1 rfl; have z2 := E3.c 2 rfl; have z3 := E3.c 3 rfl; have z4 := E3.c 4 rfl; have z5 := E3.c 5 rfl; have l3 := C3.lt; have m3 := Q3.lt; have o3 := E3.lt)
          | (go_at_call 23; (with_reducible refine (CC.out _ hB3).mono ?_); rintro e w4 hq; obtain ⟨jb, ja, jc, lx, rfl, hjb, hJ, hlx, hb4⟩ := hq; have C4 := C3.next hb4; have Q4 := Q3.next hb4; have E4 := E3.next hb4; have hB4 := hB3.trans (hb4.mono hB3.size); clear c0 q0 q1 q2 z0 z1 z2 z3 z4 z5; have c0 := C4.c 0 rfl; have q0 := Q4.c 0 rfl; have q1 := Q4.c 1 rfl; have q2 := Q4.c 2 rfl; have z0 := E4.c 0 rfl; have z1 := E4.c 1 rfl; have z2 := E4.c 2 rfl; have z3 := E4.c 3 rfl; have z4 := E4.c 4 rfl; have z5 := E4.c 5 rfl; have l4 := C4.lt; have m4 := Q4.lt; have o4 := E4.lt)
          )
        obtain ⟨C, hC⟩ : ∃ C, w.heap.size = C := ⟨_, rfl⟩
        obtain ⟨Q, hQ⟩ : ∃ Q, C + 1 = Q := ⟨_, rfl⟩
        obtain ⟨E, hE⟩ : ∃ E, C + 1 + 1 = E := ⟨_, rfl⟩
        obtain ⟨B, hB⟩ : ∃ B, w3.heap.size = B := ⟨_, rfl⟩
        rw [hC] at C4 Q4 E4 l3 m3 o3
        rw [hE] at E4 o3
        rw [hQ] at Q4 m3
        rw [hB] at hjb l3 m3 o3 hJ
        rw [hC, hE, hQ]
        have HCC := Lib.hid hC
        have hwB : w.heap.size ≤ B := by omega
        have hCB : C < B := l3
        have hQB : Q < B := m3
        have hEB : E < B := o3
        have HJ := Lib.hid hJ
        have HLXE := Lib.hid hlx
        have HB4 := Lib.hid hB4
        clear hC hQ hE hB hJ hlx hB4 C0 Q0 E0 C1 C2 C3 Q1 Q2 Q3 E1 E2 E3 hb0 hb1 hb2 hb3 hB1 hB2 hB3 cl ql el l1 m1 o1 l2 m2 o2 l3 m3 o3 l4 m4 o4 c0 q0 q1 q2 z0 z1 z2 z3 z4 z5
        have c0 := C4.c 0 rfl
        have q0 := Q4.c 0 rfl; have q1 := Q4.c 1 rfl; have q2 := Q4.c 2 rfl
        have z0 := E4.c 0 rfl; have z1 := E4.c 1 rfl; have z2 := E4.c 2 rfl; have z3 := E4.c 3 rfl; have z4 := E4.c 4 rfl; have z5 := E4.c 5 rfl
        have l4 := C4.lt
        have m4 := Q4.lt
        have o4 := E4.lt
        go_upto_region 7 with (first
          | (go_at_call 29; (with_reducible refine (CP.out _ _ _ _ _ _ _ HLXE.out HB4.out hjb hwB HJ.out (HH.out.below HB4.out (Nat.le_refl _)) (far_old HH.out (Nat.le_trans hwB hjb) (fun g e => Nat.le_trans hwB (own_base HJ.out.own e)))).mono ?_); rintro e w6 hq6; obtain ⟨rfl, lp, hto6, hlp⟩ := hq6; have hlow6 := hto6.lowB HJ.out hjb; obtain ⟨a6, c6, J6, -, hR6⟩ := hto6.out; have HJ6 := Lib.hid J6; have HLP := Lib.hid hlp; have HB6 := Lib.hid (HB4.out.trans (hlow6.mono hwB)); have Q6 := Q4.below hlow6 hQB; have E6 := E4.below hlow6 hEB; clear hto6 J6 hlp c0 q0 q1 q2 z0 z1 z2 z3 z4 z5 l4 m4 o4; have q0 := Q6.c 0 rfl; have q1 := Q6.c 1 rfl; have q2 := Q6.c 2 rfl; have z0 := E6.c 0 rfl; have z1 := E6.c 1 rfl; have z2 := E6.c 2 rfl; have z3 := E6.c 3 rfl; have z4 := E6.c 4 rfl; have z5 := E6.c 5 rfl; have l6 := Q6.lt; have m6 := E6.lt)
          )
        have C6 := C4.below hlow6 hCB
        have c0 := C6.c 0 rfl
        have k6 := C6.lt
        have j6 := HJ6.out.at_.c 0 rfl
        have jl6 := HJ6.out.at_.lt
        have HCP := Lib.hid (ee_cells HJ6.out.reads rfl)
        have HRP := Lib.hid HJ6.out.rd
        have HKP := Lib.hid (HKZ.out lp HLP.out).1
        have hlpl := (HKZ.out lp HLP.out).2
        clear hlow6 hR6
        go_wp2_with fail
        go_loopw [9, 10, 49] (fun nv ov iv wr => ∃ (kk N : Nat) (lo : List Ee), kk ≤ lp.length ∧ iv = .int .i64 kk ∧ nv = .int .i64 N ∧ N ≤ kk ∧ Hid (((lp.take kk).filter (fun x => ansB x.2 url rq)).length = N) ∧ Hid (lo = (lp.take kk).filter (fun x => !urlB x.2.u url)) ∧ lo.length ≤ kk ∧ wr.ownsRow w6.heap.size 40 6 ov lo.length (cellsK eeC lo) ∧ Below w6.heap.size w6 wr) (fun _ _ iv _ => lp.length - (intOf iv).toNat)
        case atStart => exact ⟨0, 0, [], Nat.zero_le _, rfl, rfl, Nat.le_refl _, Lib.hid rfl, Lib.hid rfl, Nat.le_refl _, World.ownsRow_nil _ _ _ _, Below.refl _ _⟩
        case round =>
          obtain ⟨kk, N, lo, hk, rfl, rfl, hNk, HN, HLO, hlo, hown, hbw⟩ := hrel
          have hws := hbw.size
          have Qw := Q6.next hbw
          have qw0 := Qw.c 0 rfl
          have qw1 := Qw.c 1 rfl
          have qwl := Qw.lt
          by_cases hlt : kk < lp.length
          · have hlt2 := hlt
            obtain ⟨b0, off, rfl, hb0', hcell⟩ := HCP.out (by omega)
            have cc : ∀ j u, (eeC lp[kk])[j]? = some u → wr.cell? ⟨b0, off + kk * 6 + j, none⟩ = some u := fun j u hu => (brl hbw _ _ hb0').trans (hcell kk hlt j u hu)
            have hmem : lp[kk] ∈ lp := List.getElem_mem hlt
            have hrd := (HRP.out _ hmem).below hbw (Nat.le_refl _)
            have hzz := (HKP.out _ hmem).1
            have hst := keep_snoc lp (fun x => !urlB x.2.u url) kk hlt _ rfl
            have hct := cnt_snoc lp (fun x => ansB x.2 url rq) kk hlt _ rfl
            rw [← HLO.out] at hst
            rw [HN.out] at hct
            obtain ⟨y2, hy2⟩ : ∃ y2, lp[kk] = y2 := ⟨_, rfl⟩
            rw [hy2] at cc hrd hzz hst hct
            have hone := one6 y2 hrd.shp
            obtain ⟨⟨a1', n1', k1', f1⟩, a2', n2', k2', f2⟩ := hrd.shp
            have HONE := Lib.hid hone
            have HST0 := Lib.hid hst
            have HCT0 := Lib.hid hct
            have hkl : (kk : Int) < (lp.length : Int) := by omega
            have hal := (Below.refl _ wr).alloc (Nat.le_refl _) (.cells (eeC y2).toArray 40)
            have X5 := AtL.new wr (eeC y2) 40
            have hrd5 := hrd.below hal (Nat.le_refl _)
            have q5 := (HQ.out.below HB6.out (Nat.le_refl _)).below (hbw.trans (hal.mono hws)) (Nat.le_refl _)
            have hu2 := hrd.u
            have HUE := Lib.hid hu2
            obtain ⟨R, hR⟩ : ∃ R, ansB y2.2 url rq = R := ⟨_, rfl⟩
            have CA := Lib.hid (rans_is y2 url rq (.slice sb rq.length sd) _ hrd5 q5 hzq' hzz R hR)
            have HRR := Lib.hid hR
            have Q5 := Qw.next hal
            have own5 := hown.alloc (.cells (eeC y2).toArray 40)
            have hbw5 := hbw.trans (hal.mono hws)
            obtain ⟨oa, oc, rfl, _⟩ := own_reads hown
            clear hcell hmem hrd hzz hst hct hy2 hone hrd5 q5 hu2 hR
            obtain ⟨⟨u2, vv2, st2, hh2, bo2, ti2⟩, ex⟩ := y2
            have f1 : vv2 = .slice a1' n1' k1' := f1
            have f2 : hh2 = .slice a2' n2' k2' := f2
            subst f1 f2
            obtain ⟨c0, c1, c2, c3, c4, c5⟩ := e6_mk cc
            clear cc qw0 qw1
            have qw0 := Q5.c 0 rfl; have qw1 := Q5.c 1 rfl; have qw2 := Q5.c 2 rfl
            have x0 := X5.c 0 rfl; have x1 := X5.c 1 rfl; have x2 := X5.c 2 rfl; have x3 := X5.c 3 rfl; have x4 := X5.c 4 rfl; have x5 := X5.c 5 rfl
            have xl5 := X5.lt
            have ql5 := Q5.lt
            have hUU : urlB u2 url = urlB ex.u url := by rw [show u2 = ex.u from HUE.out]
            cases hub : urlB ex.u url with
            | true =>
              have hu1 : (u2.toList == url.toList) = true := by rw [hub] at hUU; exact hUU
              have hu3 : (u2.toList != url.toList) = false := by simp only [bne]; rw [hu1]; rfl
              have HST : Hid (lo = (lp.take (kk + 1)).filter (fun x => !urlB x.2.u url)) := Lib.hid (by rw [HST0.out]; simp [hub])
              cases R with
              | true =>
                have HCT : Hid (((lp.take (kk + 1)).filter (fun x => ansB x.2 url rq)).length = N + 1) := Lib.hid (by rw [HCT0.out, HRR.out]; rfl)
                clear hub hUU
                go_wp2_with (first
                  | (go_at_call 32; (with_reducible refine CA.out.mono ?_); rintro e w7 ⟨rfl, hb7⟩; have X7 := X5.next hb7; have Q7 := Q5.next hb7; have own7 := own_below own5 hb7 (Nat.le_refl _); have hbw7 := hbw5.trans (hb7.mono hbw5.size); have hz7 := hbw7.size; clear x0 x1 x2 x3 x4 x5 qw0 qw1 qw2; have x0 := X7.c 0 rfl; have x1 := X7.c 1 rfl; have x2 := X7.c 2 rfl; have x3 := X7.c 3 rfl; have x4 := X7.c 4 rfl; have x5 := X7.c 5 rfl; have qw0 := Q7.c 0 rfl; have qw1 := Q7.c 1 rfl; have qw2 := Q7.c 2 rfl; have xl7 := X7.lt; have ql7 := Q7.lt)
                  )
                go_roundw
                case rel => exact ⟨kk + 1, N + 1, lo, by omega, by go_num, by go_num, by omega, HCT, HST, by omega, own7, hbw7⟩
                case measure => simp [intOf]; omega
              | false =>
                have HCT : Hid (((lp.take (kk + 1)).filter (fun x => ansB x.2 url rq)).length = N) := Lib.hid (by rw [HCT0.out, HRR.out]; rfl)
                clear hub hUU
                go_wp2_with (first
                  | (go_at_call 32; (with_reducible refine CA.out.mono ?_); rintro e w7 ⟨rfl, hb7⟩; have X7 := X5.next hb7; have Q7 := Q5.next hb7; have own7 := own_below own5 hb7 (Nat.le_refl _); have hbw7 := hbw5.trans (hb7.mono hbw5.size); have hz7 := hbw7.size; clear x0 x1 x2 x3 x4 x5 qw0 qw1 qw2; have x0 := X7.c 0 rfl; have x1 := X7.c 1 rfl; have x2 := X7.c 2 rfl; have x3 := X7.c 3 rfl; have x4 := X7.c 4 rfl; have x5 := X7.c 5 rfl; have qw0 := Q7.c 0 rfl; have qw1 := Q7.c 1 rfl; have qw2 := Q7.c 2 rfl; have xl7 := X7.lt; have ql7 := Q7.lt)
                  )
                go_roundw
                case rel => exact ⟨kk + 1, N, lo, by omega, by go_num, rfl, by omega, HCT, HST, by omega, own7, hbw7⟩
                case measure => simp [intOf]; omega
            | false =>
              have hu1 : (u2.toList == url.toList) = false := by rw [hub] at hUU; exact hUU
              have hu3 : (u2.toList != url.toList) = true := by simp only [bne]; rw [hu1]; rfl
              have HST : Hid (lo ++ [(⟨u2, .slice a1' n1' k1', st2, .slice a2' n2' k2', bo2, ti2⟩, ex)] = (lp.take (kk + 1)).filter (fun x => !urlB x.2.u url)) := Lib.hid (by rw [HST0.out]; simp [hub])
              cases R with
              | true => exact absurd (ans_url HRR.out) (by show ¬ urlB ex.u url = true; rw [hub]; simp)
              | false =>
                have HCT : Hid (((lp.take (kk + 1)).filter (fun x => ansB x.2 url rq)).length = N) := Lib.hid (by rw [HCT0.out, HRR.out]; rfl)
                clear hub hUU
                go_wp2_with (first
                  | (go_at_call 32; (with_reducible refine CA.out.mono ?_); rintro e w7 ⟨rfl, hb7⟩; have X7 := X5.next hb7; have Q7 := Q5.next hb7; have own7 := own_below own5 hb7 (Nat.le_refl _); have hbw7 := hbw5.trans (hb7.mono hbw5.size); have hz7 := hbw7.size; clear x0 x1 x2 x3 x4 x5 qw0 qw1 qw2; have x0 := X7.c 0 rfl; have x1 := X7.c 1 rfl; have x2 := X7.c 2 rfl; have x3 := X7.c 3 rfl; have x4 := X7.c 4 rfl; have x5 := X7.c 5 rfl; have qw0 := Q7.c 0 rfl; have qw1 := Q7.c 1 rfl; have qw2 := Q7.c 2 rfl; have xl7 := X7.lt; have ql7 := Q7.lt)
                  | (refine app2 slE w7 (by rfl) (.tmp 66) (.tmp 68) (by rfl) w6.heap.size _ _ _ (by rfl) own7 (eeC (⟨u2, .slice a1' n1' k1', st2, .slice a2' n2' k2', bo2, ti2⟩, ex)) 1 w7.heap.size (by rfl) rfl (by rfl) HONE.out (by decide) (by omega) (by omega) hz7 ?_; intro v11 w11 o11 g11 f11; obtain ⟨ub, uk, rfl, _, _, _⟩ := own_reads o11)
                  )
                go_roundw
                case rel => exact ⟨kk + 1, N, lo ++ [(⟨u2, .slice a1' n1' k1', st2, .slice a2' n2' k2', bo2, ti2⟩, ex)], by omega, by go_num, rfl, by omega, HCT, HST, by simp; omega, own_eq o11 (by simp) (by rw [cellsK_app]; simp [cellsK]), below_own hbw7 own7 g11 hz7 (Nat.le_refl _)⟩
                case measure => simp [intOf]; omega
          · obtain rfl : kk = lp.length := by omega
            have hN := HN.out
            rw [List.take_length] at hN
            have hLO := HLO.out
            rw [List.take_length] at hLO
            have hoth : lo.map (·.2) = (l.map (·.2)).filter (fun e => !urlB e.u url) := by
              rw [hLO, map_filter_en lp _ HLP.out (fun e => !urlB e.u url), put_others]
            have HOTH := Lib.hid hoth
            have HCNT : Hid (N = ((lp.map (·.2)).filter (fun e => ansB e url rq)).length) := Lib.hid (by
              rw [← hN, ← map_filter_en lp _ rfl (fun e => ansB e url rq), List.length_map])
            have HLR : Hid (∀ x ∈ lo, Rd w6 x.1 x.2) := Lib.hid (fun x hx => by rw [hLO] at hx; exact HRP.out x (List.mem_filter.1 hx).1)
            have HLZ : Hid (∀ x ∈ lo, x.2.va.length ≤ 1000000 ∧ x.2.hd.length ≤ 1000000) := Lib.hid (fun x hx => by
              rw [hLO] at hx
              have := HKP.out x (List.mem_filter.1 hx).1
              exact ⟨this.1.1, this.2.1⟩)
            have HC0 := Lib.hid (ee_cells HV.out rfl)
            have HBA := Lib.hid (HB6.out.trans (hbw.mono HB6.out.size))
            have HUP := Lib.hid hbw
            have HOWA := Lib.hid hown
            obtain ⟨nA, hnA⟩ : ∃ nA, wr.heap.size = nA := ⟨_, rfl⟩
            have hBA : Below nA wr wr := Below.refl _ wr
            have HNA := Lib.hid hnA
            have qA := Qw.c 0 rfl
            have HQw := Lib.hid Qw
            have Cw := C6.next hbw
            clear c0
            have c0 := Cw.c 0 rfl
            have cwl := Cw.lt
            obtain ⟨oa, oc, rfl, _⟩ := own_reads hown
            clear hN hLO hoth HN HLO hown hbw hnA
            go_wp2_with fail
            go_loopw [11, 74] (fun bv iv w2 => ∃ (kk : Nat) (lb : List Ee), kk ≤ l.length ∧ iv = .int .i64 kk ∧ Hid (lb = (l.take kk).filter (fun x => !urlB x.2.u url)) ∧ lb.length ≤ kk ∧ w2.ownsRow nA 40 6 bv lb.length (cellsK eeC lb) ∧ Below nA wr w2) (fun _ iv _ => l.length - (intOf iv).toNat)
            case atStart => exact ⟨0, [], Nat.zero_le _, rfl, Lib.hid rfl, Nat.le_refl _, World.ownsRow_nil _ _ _ _, hBA⟩
            case round =>
              obtain ⟨kk, lb, hk, rfl, HLB, hlb, hown, hbw⟩ := hrel
              have hnz : nA ≤ wr.heap.size := by have := hbw.size; have := HNA.out; omega
              have Q2 := HQw.out.below hbw (by have := HQw.out.lt; have := HNA.out; omega)
              clear qw0 qw1 qA
              have qw0 := Q2.c 0 rfl
              have qwl2 := Q2.lt
              have hBw : Below w.heap.size w wr := HBA.out.trans (hbw.mono (by have := HBA.out.size; have := HNA.out; omega))
              by_cases hlt2 : kk < l.length
              · obtain ⟨b0, off, rfl, hb0', hcell⟩ := HC0.out (by omega)
                have cc : ∀ j u, (eeC l[kk])[j]? = some u → wr.cell? ⟨b0, off + kk * 6 + j, none⟩ = some u := fun j u hu => (brl hBw _ _ hb0').trans (hcell kk hlt2 j u hu)
                have hrd := HRD.out _ (List.getElem_mem hlt2)
                have hst := keep_snoc l (fun x => !urlB x.2.u url) kk hlt2 _ rfl
                rw [← HLB.out] at hst
                obtain ⟨y2, hy2⟩ : ∃ y2, l[kk] = y2 := ⟨_, rfl⟩
                rw [hy2] at cc hrd hst
                have hone := one6 y2 hrd.shp
                obtain ⟨⟨a1', n1', k1', f1⟩, a2', n2', k2', f2⟩ := hrd.shp
                have HONE := Lib.hid hone
                have HST0 := Lib.hid hst
                have HUE := Lib.hid hrd.u
                have hkl2 : (kk : Int) < (l.length : Int) := by omega
                have hB5 : Below nA wr (wr.alloc (.cells (eeC y2).toArray 40)) := (Below.refl _ wr).alloc hnz _
                have own5 := hown.alloc (.cells (eeC y2).toArray 40)
                have hbw5 := hbw.trans hB5
                obtain ⟨pa, pc, rfl, _⟩ := own_reads hown
                clear hcell hrd hst hy2 hone
                obtain ⟨⟨u2, vv2, st2, hh2, bo2, ti2⟩, ex⟩ := y2
                have f1 : vv2 = .slice a1' n1' k1' := f1
                have f2 : hh2 = .slice a2' n2' k2' := f2
                subst f1 f2
                obtain ⟨d0, d1, d2, d3, d4, d5⟩ := e6_mk cc
                clear cc
                have hUU : urlB u2 url = urlB ex.u url := by rw [show u2 = ex.u from HUE.out]
                have hz5 : nA ≤ (wr.alloc (.cells #[.string u2, .slice a1' n1' k1', .int .i64 st2, .slice a2' n2' k2', .string bo2, .int .i64 ti2] 40)).heap.size := by simp; omega
                cases hub : urlB ex.u url with
                | true =>
                  have hu1 : (u2.toList == url.toList) = true := by rw [hub] at hUU; exact hUU
                  have hu3 : (u2.toList != url.toList) = false := by simp only [bne]; rw [hu1]; rfl
                  have HST : Hid (lb = (l.take (kk + 1)).filter (fun x => !urlB x.2.u url)) := Lib.hid (by rw [HST0.out]; simp [hub])
                  clear hub hUU
                  go_wp2_with fail
                  go_roundw
                  case rel => exact ⟨kk + 1, lb, by omega, by go_num, HST, by omega, own5, hbw5⟩
                  case measure => simp [intOf]; omega
                | false =>
                  have hu1 : (u2.toList == url.toList) = false := by rw [hub] at hUU; exact hUU
                  have hu3 : (u2.toList != url.toList) = true := by simp only [bne]; rw [hu1]; rfl
                  have HST : Hid (lb ++ [(⟨u2, .slice a1' n1' k1', st2, .slice a2' n2' k2', bo2, ti2⟩, ex)] = (l.take (kk + 1)).filter (fun x => !urlB x.2.u url)) := Lib.hid (by rw [HST0.out]; simp [hub])
                  clear hub hUU
                  go_wp2_with (refine app2 slE _ (by rfl) (.tmp 83) (.tmp 85) (by rfl) nA _ _ _ (by rfl) own5 (eeC (⟨u2, .slice a1' n1' k1', st2, .slice a2' n2' k2', bo2, ti2⟩, ex)) 1 (wr.heap.size + 1) (by rfl) (by simp) (by rfl) HONE.out (by decide) (by omega) (by omega) hz5 ?_; intro v11 w11 o11 g11 f11; obtain ⟨ub, uk, rfl, _, _, _⟩ := own_reads o11)
                  go_roundw
                  case rel => exact ⟨kk + 1, lb ++ [(⟨u2, .slice a1' n1' k1', st2, .slice a2' n2' k2', bo2, ti2⟩, ex)], by omega, by go_num, HST, by simp; omega, own_eq o11 (by simp) (by rw [cellsK_app]; simp [cellsK]), below_own hbw5 own5 g11 hz5 (Nat.le_refl _)⟩
                  case measure => simp [intOf]; omega
              · obtain rfl : kk = l.length := by omega
                have hLB := HLB.out
                rw [List.take_length] at hLB
                have hm : lo.map (·.2) = lb.map (·.2) := by rw [HOTH.out, hLB, map_filter_en l _ rfl (fun e => !urlB e.u url)]
                have HLBR : Hid (∀ x ∈ lb, Rd w x.1 x.2) := Lib.hid (fun x hx => by rw [hLB] at hx; exact HRD.out x (List.mem_filter.1 hx).1)
                have hbA6 : Below w6.heap.size w6 wr := HUP.out.trans (hbw.mono (by have := HUP.out.size; have := HNA.out; omega))
                have CS := Lib.hid (fun (w2 : World) (hb : Below wr.heap.size wr w2) => sameL lo lb hm (.slice oa lo.length oc) _ w2 (SlK.of_own eelen (own_below (own_below HOWA.out hbw (Nat.le_of_eq HNA.out)) hb (Nat.le_refl _))) (SlK.of_own eelen (own_below hown hb (Nat.le_refl _))) (fun x hx => (HLR.out x hx).below (hbA6.trans (hb.mono hbA6.size)) (Nat.le_refl _)) (fun x hx => (HLBR.out x hx).below (hBw.trans (hb.mono hBw.size)) (Nat.le_refl _)) HLZ.out (by omega))
                have HBW := Lib.hid hBw
                have HBA6 := Lib.hid hbA6
                obtain ⟨pa, pc, rfl, _⟩ := own_reads hown
                clear hLB hm hBw hbA6 HLB
                have hN1 : ((N : Int) == 1) = true := by
                  have h1 := HCNT.out
                  rw [HLP.out, put_count] at h1
                  rw [h1]; rfl
                obtain ⟨i, hi, x, hx, hxn, hil, _⟩ := some_last lp (l.map (·.2)) url rq _ (new_ans url rq hd st bo now) (by rw [HLP.out]; simp)
                obtain ⟨b0, off, rfl, hb0', hcell⟩ := HCP.out (by omega)
                have hxr := HRP.out x (by rw [← hx]; exact List.getElem_mem hi)
                have hbx : x.1.bo = bo := by rw [hxr.bo, hxn]
                have cb : wr.cell? ⟨b0, off + i * 6 + 4, none⟩ = some (.string bo) := (brl HBA6.out _ _ hb0').trans (hcell i hi 4 _ (by rw [hx, ← hbx]; rfl))
                have J2 := HJ6.out.below HBA6.out (Nat.le_refl _)
                have E2' := E6.next HBA6.out
                clear j6 z0 z1 z2 z3 z4 z5
                have j6 := J2.at_.c 0 rfl
                have jl2 := J2.at_.lt
                have z4 := E2'.c 4 rfl
                have el2 := E2'.lt
                have hb0w : b0 < wr.heap.size := cell_lt cb
                have hwr : IntKind.i64.wrap ((lp.length : Int) - 1) = (i : Int) := by rw [IntWalk.i64_in _ (by omega)]; omega
                have hi1 : (i : Int) < (lp.length : Int) := by omega
                have hi0 : (0 : Int) ≤ (i : Int) := by omega
                have HF3 : Hid (∀ w2 : World, Below wr.heap.size wr w2 → w2.cell? ⟨jb, 0, none⟩ = some (.slice (some ⟨b0, off, none⟩) lp.length c6) ∧ w2.cell? ⟨b0, off + i * 6 + 4, none⟩ = some (.string bo) ∧ w2.cell? ⟨E, 4, none⟩ = some (.string bo)) := Lib.hid (fun w2 hb => ⟨(brl hb _ _ jl2).trans j6, (brl hb _ _ hb0w).trans cb, (brl hb _ _ el2).trans z4⟩)
                clear HCNT hx hxn hxr hbx hcell J2
                go_upto_region 25 with fail
                go_region_held3 (fun w' => w'.cell? ⟨jb, 0, none⟩ = some (.slice (some ⟨b0, off, none⟩) lp.length c6) ∧ w'.cell? ⟨b0, off + i * 6 + 4, none⟩ = some (.string bo) ∧ w'.cell? ⟨E, 4, none⟩ = some (.string bo))
                  (first | exact HF3.out _ (Below.refl _ wr).drew | exact HF3.out _ hb8 | go_keep)
                  (first | (go_at_call 28; (with_reducible refine (CS.out _ (Below.refl _ wr).drew).mono ?_); rintro e w8 ⟨rfl, hbb8⟩; have hb8 := (Below.refl _ wr).drew.trans hbb8))
                go_wp2_with fail
                go_ret
                exact ⟨rfl, HBW.out.trans (hb8.mono HBW.out.size)⟩
end Go.Proofs.YtkobhknggamejaaGreatDoor
