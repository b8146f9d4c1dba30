/- CacheConfirm: the law. -/
import Derived.Test.YtkobhknggamejaaGreatDoorJQ
namespace Go.Proofs.YtkobhknggamejaaGreatDoor
set_option linter.unusedVariables false
set_option linter.unusedSimpArgs false
open Go.RowKit

theorem c8_mk {W w' : World} {P J C : Nat} {a b c d e f j x : Value} (h : AtL W P [a, b, c, d, e, f]) (h2 : AtL W J [j]) (h3 : AtL W C [x]) (hb : Below W.heap.size W w') : w'.cell? ⟨P, 0, none⟩ = some a ∧ w'.cell? ⟨P, 1, none⟩ = some b ∧ w'.cell? ⟨P, 2, none⟩ = some c ∧ w'.cell? ⟨P, 3, none⟩ = some d ∧ w'.cell? ⟨P, 4, none⟩ = some e ∧ w'.cell? ⟨P, 5, none⟩ = some f ∧ w'.cell? ⟨J, 0, none⟩ = some j ∧ w'.cell? ⟨C, 0, none⟩ = some x :=
  have h' := h.next hb
  ⟨h'.c 0 rfl, h'.c 1 rfl, h'.c 2 rfl, h'.c 3 rfl, h'.c 4 rfl, h'.c 5 rfl, (h2.next hb).c 0 rfl, (h3.next hb).c 0 rfl⟩
theorem slk_eeput {hs : List Hd} {u : Value} {w : World} (h : SlK hdC 2 w u hs) (g o : Nat) (y : Ee) (hf : FarV hs u g none) : SlK hdC 2 (eeput w g o y) u hs := by
  have hb : BelowBut w.heap.size g w (eeput w g o y) := by rw [eeput_eq]; exact BelowBut.setCells _ _ _ (BelowBut.refl _ _ _)
  exact slk_row h (RowBut.of_but hb) (Nat.le_refl _) hf
theorem conf_want (l : List Ee) (i : Nat) (hi : i < l.length) (y : Ee) (m : Nat) (hm : m + 1 = l.length) : (l.eraseIdx i ++ [l[i]]).set m y = l.eraseIdx i ++ [y] := by
  have h1 : (l.eraseIdx i).length = m := by rw [List.length_eraseIdx, if_pos hi]; omega
  rw [← h1, List.set_append_right _ _ (Nat.le_refl _), Nat.sub_self]
  rfl
theorem rowq_open {w : World} {l : List Ee} {e : Ending} {w' : World} (h : RowQ w l e w') (n : Nat) (hn : l.length = n) : ∃ (a : Option Addr) (c : Nat), e = .returned (.slice a n c) ∧ w'.ownsRow w.heap.size 40 6 (.slice a n c) n (cellsK eeC l) ∧ Below w.heap.size w w' := by
  subst hn; exact h
set_option maxRecDepth 20000 in
set_option maxHeartbeats 8000000 in
theorem cacheconfirm_law (l : List Ee) (v : Value) (url : ByteArray) (vr : Value) (now : Int) (rq hs : List Hd) (vh : Value) (w : World) (hM : MaxAt w) (hv : SlK eeC 6 w v l) (hr : ∀ x ∈ l, Rd w x.1 x.2) (hz : ∀ x ∈ l, WtE x.2) (hq : SlK hdC 2 w vr rq) (hzq : WtH rq) (hh : SlK hdC 2 w vh hs) (hzh : WtH hs) :
    Calls Tryz.prog 9 #[.agg #[v], .agg #[.string url, vr, .int .i64 now], vh] w fun e w' => e = .returned (.bool true) ∧ Below w.heap.size w w' := by
  obtain ⟨A, hA⟩ : ∃ A, attrB hs = A := ⟨_, rfl⟩
  have CH := Lib.hid (fun (w' : World) (hb : Below w.heap.size w w') => attrs_is hs vh w' (hh.below hb (Nat.le_refl _)) hzh A hA)
  have CCp := Lib.hid (fun (w' : World) (hb : Below w.heap.size w w') (hl : hs.length ≤ 1000000) => lcp_is hs vh w' (hh.below hb (Nat.le_refl _)) hl)
  have HH := Lib.hid hh
  obtain ⟨ha, hc, rfl, _⟩ := hh.shape
  clear hh hzh
  have hb0 : Below w.heap.size w ((w.alloc (.cells [v].toArray 35)).alloc (.cells [.string url, vr, .int .i64 now].toArray 37)) := ((Below.refl _ w).alloc (Nat.le_refl _) _).alloc (by simp) _
  have C0 := (AtL.new w [v] 35).alloc (.cells [.string url, vr, .int .i64 now].toArray 37)
  have Q0 := AtL.new (w.alloc (.cells [v].toArray 35)) [.string url, vr, .int .i64 now] 37
  rw [show (w.alloc (.cells [v].toArray 35)).heap.size = w.heap.size + 1 by simp] at Q0
  have CF := Lib.hid (fit_is43 _ (hM.below hb0 (Nat.le_refl _)))
  obtain ⟨R, hR⟩ : ∃ R, fewA (l.map (·.2)) rq = R := ⟨_, rfl⟩
  have CW := Lib.hid (fun (w' : World) (hb : Below w.heap.size w w') => few_is l v url rq vr now w' (hv.below hb (Nat.le_refl _)) (fun x hx => (hr x hx).below hb (Nat.le_refl _)) (hq.below hb (Nat.le_refl _)) hz hzq R hR)
  have HV := Lib.hid hv
  have HRD := Lib.hid hr
  have HQ := Lib.hid hq
  have HMM := Lib.hid hM
  obtain ⟨sa, sc, rfl, _⟩ := hv.shape
  obtain ⟨sb, sd, rfl, _⟩ := hq.shape
  clear hv hr hq hM hz hzq
  have c0 := C0.c 0 rfl
  have q0 := Q0.c 0 rfl; have q1 := Q0.c 1 rfl; have q2 := Q0.c 2 rfl
  have cl := C0.lt
  have ql := Q0.lt
  cases R with
  | false =>
    clear hR hA
    go_enter Tryz.func9, Tryz.ntmps9
    go_wp2_with (first
      | (go_at_call 10; (with_reducible refine CF.out.mono ?_); rintro e w1 ⟨rfl, hb1⟩; have C1 := C0.next hb1; have Q1 := Q0.next hb1; have hB1 := hb0.trans (hb1.mono hb0.size); clear c0 q0 q1 q2; have c0 := C1.c 0 rfl; have q0 := Q1.c 0 rfl; have q1 := Q1.c 1 rfl; have q2 := Q1.c 2 rfl; have l1 := C1.lt; have m1 := Q1.lt)
      | (go_at_call 20; (with_reducible refine (CW.out _ hB1).mono ?_); rintro e w2 ⟨rfl, hb2⟩; have C2 := C1.next hb2; have Q2 := Q1.next hb2; have hB2 := hB1.trans (hb2.mono hB1.size); clear c0 q0 q1 q2; have c0 := C2.c 0 rfl; have q0 := Q2.c 0 rfl; have q1 := Q2.c 1 rfl; have q2 := Q2.c 2 rfl; have l2 := C2.lt; have m2 := Q2.lt)
      )
    go_ret
    exact ⟨rfl, hB2⟩
  | true =>
    cases A with
    | false =>
      clear hR hA
      go_enter Tryz.func9, Tryz.ntmps9
      go_wp2_with (first
        | (go_at_call 10; (with_reducible refine CF.out.mono ?_); rintro e w1 ⟨rfl, hb1⟩; have C1 := C0.next hb1; have Q1 := Q0.next hb1; have hB1 := hb0.trans (hb1.mono hb0.size); clear c0 q0 q1 q2; have c0 := C1.c 0 rfl; have q0 := Q1.c 0 rfl; have q1 := Q1.c 1 rfl; have q2 := Q1.c 2 rfl; have l1 := C1.lt; have m1 := Q1.lt)
        | (go_at_call 20; (with_reducible refine (CW.out _ hB1).mono ?_); rintro e w2 ⟨rfl, hb2⟩; have C2 := C1.next hb2; have Q2 := Q1.next hb2; have hB2 := hB1.trans (hb2.mono hB1.size); clear c0 q0 q1 q2; have c0 := C2.c 0 rfl; have q0 := Q2.c 0 rfl; have q1 := Q2.c 1 rfl; have q2 := Q2.c 2 rfl; have l2 := C2.lt; have m2 := Q2.lt)
        | (go_at_call 11; (with_reducible refine (CH.out _ hB2).mono ?_); rintro e w3 ⟨rfl, hb3⟩; have C3 := C2.next hb3; have Q3 := Q2.next hb3; have hB3 := hB2.trans (hb3.mono hB2.size); clear c0 q0 q1 q2; have c0 := C3.c 0 rfl; have q0 := Q3.c 0 rfl; have q1 := Q3.c 1 rfl; have q2 := Q3.c 2 rfl; have l3 := C3.lt; have m3 := Q3.lt)
        )
      go_ret
      exact ⟨rfl, hB3⟩
    | true =>
      have hx100 : ∀ x ∈ l, x.2.hd.length ≤ 100 := fun x hx => by
        have h := (fewA_sz hR).1 _ (List.mem_map_of_mem hx)
        unfold okE at h
        rw [Bool.and_eq_true, Bool.and_eq_true] at h
        have := (attrB_sz h.2.1).2.1
        omega
      have hzh' : HdSz hs := (attrB_sz hA).1
      have hhl : hs.length ≤ 10 := (attrB_sz hA).2.1
      clear hA
      obtain ⟨hok, h12, hqq⟩ := fewA_sz hR
      have hzq' : HdSz rq := (attrB_sz hqq).1
      have hok2 : ∀ x ∈ l, HdSz x.2.va ∧ HdSz x.2.hd ∧ x.2.bo.size ≤ 500 := fun x hx => okE_sz (hok _ (List.mem_map_of_mem hx))
      have HOK := Lib.hid hok2
      have hl12 : l.length ≤ 12 := by simpa using h12
      have HLX : Hid (∀ lx : List Ee, lx.map (·.2) = l.map (·.2) → ∀ x ∈ lx, HdSz x.2.va ∧ HdSz x.2.hd) := Lib.hid (fun lx h x hx => by
        have h1 : x.2 ∈ l.map (·.2) := by rw [← h]; exact List.mem_map_of_mem hx
        obtain ⟨z, hz, he⟩ := List.mem_map.1 h1
        rw [← he]; exact ⟨(hok2 z hz).1, (hok2 z hz).2.1⟩)
      have HLN : Hid (∀ lx : List Ee, lx.map (·.2) = l.map (·.2) → lx.length ≤ 1000) := Lib.hid (fun lx h => by have := congrArg List.length h; simp at this; omega)
      have CC := Lib.hid (fun (w' : World) (hb : Below w.heap.size w w') => clone_is43 l (.slice sa l.length sc) w' (HV.out.below hb (Nat.le_refl _)) (fun x hx => (HRD.out x hx).below hb (Nat.le_refl _)) (fun x hx => ⟨(hok2 x hx).1.1, (hok2 x hx).2.1.1⟩) (by omega) _ rfl)
      clear hR hok h12 hqq hok2
      obtain ⟨R, hR⟩ := lastAt_ex (fun x : Ee => ansB x.2 url rq) l
      obtain ⟨ok, en, es, hcase, hen1, hen2, hCK⟩ := conf_any l url rq hs now (fun x hx => ⟨(HOK.out x hx).1, (HOK.out x hx).2.1⟩) (by omega) hzq' hzh' (by omega) hx100 R hR
      have HCA := Lib.hid hcase
      have HCK := Lib.hid hCK
      have CL := Lib.hid (fun (w' : World) (hb : Below w.heap.size w w') => rlast_is l (.slice sa l.length sc) url rq (.slice sb rq.length sd) w' (HV.out.below hb (Nat.le_refl _)) (fun x hx => (HRD.out x hx).below hb (Nat.le_refl _)) (fun x hx => (HOK.out x hx).1) (HQ.out.below hb (Nat.le_refl _)) hzq' (by omega) R hR)
      have HX1 := Lib.hid hx100
      clear hcase hCK hx100 hR
      go_enter Tryz.func9, Tryz.ntmps9
      go_upto_region 6 with (first
        | (go_at_call 10; (with_reducible refine CF.out.mono ?_); rintro e w1 ⟨rfl, hb1⟩; have C1 := C0.next hb1; have Q1 := Q0.next hb1; have hB1 := hb0.trans (hb1.mono hb0.size); clear c0 q0 q1 q2; have c0 := C1.c 0 rfl; have q0 := Q1.c 0 rfl; have q1 := Q1.c 1 rfl; have q2 := Q1.c 2 rfl; have l1 := C1.lt; have m1 := Q1.lt)
        | (go_at_call 20; (with_reducible refine (CW.out _ hB1).mono ?_); rintro e w2 ⟨rfl, hb2⟩; have C2 := C1.next hb2; have Q2 := Q1.next hb2; have hB2 := hB1.trans (hb2.mono hB1.size); clear c0 q0 q1 q2; have c0 := C2.c 0 rfl; have q0 := Q2.c 0 rfl; have q1 := Q2.c 1 rfl; have q2 := Q2.c 2 rfl; have l2 := C2.lt; have m2 := Q2.lt)
        | (go_at_call 11; (with_reducible refine (CH.out _ hB2).mono ?_); rintro e w3 ⟨rfl, hb3⟩; have C3 := C2.next hb3; have Q3 := Q2.next hb3; have hB3 := hB2.trans (hb3.mono hB2.size); clear c0 q0 q1 q2; have c0 := C3.c 0 rfl; have q0 := Q3.c 0 rfl; have q1 := Q3.c 1 rfl; have q2 := Q3.c 2 rfl; have l3 := C3.lt; have m3 := Q3.lt)
        | (go_at_call 23; (with_reducible refine (CC.out _ hB3).mono ?_); rintro e w4 hq4; obtain ⟨jb, ja, jc, lx, rfl, hjb, hJ, hlx, hb4⟩ := hq4; have C4 := C3.next hb4; have Q4 := Q3.next hb4; have hB4 := hB3.trans (hb4.mono hB3.size); clear c0 q0 q1 q2; have c0 := C4.c 0 rfl; have q0 := Q4.c 0 rfl; have q1 := Q4.c 1 rfl; have q2 := Q4.c 2 rfl; have l4 := C4.lt; have m4 := Q4.lt)
        )
      obtain ⟨C, hC⟩ : ∃ C, w.heap.size = C := ⟨_, rfl⟩
      obtain ⟨Q, hQ⟩ : ∃ Q, C + 1 = Q := ⟨_, rfl⟩
      obtain ⟨B, hB⟩ : ∃ B, w3.heap.size = B := ⟨_, rfl⟩
      rw [hC] at C4 Q4 l3 m3
      rw [hQ] at Q4 m3
      rw [hB] at hjb l3 m3 hJ
      rw [hC, hQ]
      have HCC := Lib.hid hC
      have hwB : w.heap.size ≤ B := by have := hB3.size; omega
      have hCB : C < B := l3
      have hQB : Q < B := m3
      have HJ := Lib.hid hJ
      have HLXE := Lib.hid hlx
      have HB4 := Lib.hid hB4
      clear hC hQ hB hJ hlx hB4 C0 Q0 C1 C2 C3 Q1 Q2 Q3 hb0 hb1 hb2 hb3 hb4 hB1 hB2 hB3 cl ql l1 m1 l2 m2 l3 m3 l4 m4 c0 q0 q1 q2
      go_cut [8, 9] from 26 to 38 (fun c8 c9 w6 => ConfAt w4 jb B ok en es c8 c9 w6)
      case first =>
        have hhm : hs.length ≤ 1000000 := by omega
        have hB4d := HB4.out.drew
        have hB4a := (HB4.out.alloc HB4.out.size (.cells zE.toArray 40)).drew
        have qd := q3_mk Q4
        have ql4 := Q4.lt
        have q0 := Q4.c 0 rfl; have q1 := Q4.c 1 rfl; have q2 := Q4.c 2 rfl
        go_region_held3 (fun w' => w'.cell? ⟨Q, 0, none⟩ = some (.string url) ∧ w'.cell? ⟨Q, 1, none⟩ = some (.slice sb rq.length sd) ∧ w'.cell? ⟨Q, 2, none⟩ = some (.int .i64 now))
          (first | with_reducible exact q3_mk Q4.drew | with_reducible exact q3_mk (Q4.alloc _).drew | with_reducible exact q3_mk Q5 | with_reducible exact q3_mk (Q5.alloc _) | with_reducible exact q3_mk Q6 | with_reducible exact q3_mk (Q6.alloc _) | exact q3_mk (atl_farE6 Q6 hPQ _ _ _ _ _ _) | go_keep)
          (first
            | (go_at_call 30; (with_reducible refine (CCp.out w4.drew hB4d hhm).mono ?_); rintro e w5 hq5; obtain ⟨xa, xk, rfl, hs5, hb5, hn5⟩ := cloq_open hq5; clear hq5; have Q5 := Q4.drew.next hb5; have h45 : Below w4.heap.size w4 w5 := (Below.refl w4.heap.size w4).drew.trans hb5; have ql5 := Q5.lt)
            | (go_at_call 30; (with_reducible refine (CCp.out (w4.alloc (.cells zE.toArray 40)).drew hB4a hhm).mono ?_); rintro e w5 hq5; obtain ⟨xa, xk, rfl, hs5, hb5, hn5⟩ := cloq_open hq5; clear hq5; have Q5 := (Q4.alloc _).drew.next hb5; have A5 := (AtL.new w4 zE 40).drew.next hb5; have h45 : Below w4.heap.size w4 w5 := ((Below.refl w4.heap.size w4).alloc (Nat.le_refl _) (.cells zE.toArray 40)).drew.trans (hb5.mono (by simp)); have hPQ := Nat.ne_of_gt ql4; have ql5 := Q5.lt)
            | (go_at_call 35; (with_reducible refine (HCK.out lx HLXE.out (HLX.out _ HLXE.out) jb B _ w5 _ _ (HJ.out.below h45 (Nat.le_refl _)) (HQ.out.below (HB4.out.trans (h45.mono HB4.out.size)) (Nat.le_refl _)) hs5).mono ?_); rintro e w6 hq6; obtain ⟨pu, a1, n1, k1, st, a2, n2, k2, bo, ti, L, rfl, hrd6, hnw6, hto6, hes6, hmem6⟩ := hq6; have hlow6 := hto6.lowB (HJ.out.below h45 (Nat.le_refl _)) hjb; have Q6 := Q5.below hlow6 hQB; first | (have HN := Lib.hid (confat_ab (ok := ok) HJ.out hjb h45 (Nat.le_refl _) A5 hrd6 hnw6 hto6 hes6 hmem6); have A6 := A5.row hto6.2 A5.lt (by have := HJ.out.at_.lt; omega) (fun e => by have := hown_lt HJ.out.own _ e; omega); have p0 := A6.c 0 rfl; have p1 := A6.c 1 rfl; have p2 := A6.c 2 rfl; have p3 := A6.c 3 rfl; have p4 := A6.c 4 rfl; have p5 := A6.c 5 rfl; have f0 := A6.f 0 rfl; have f1 := A6.f 1 rfl; have f2 := A6.f 2 rfl; have f3 := A6.f 3 rfl; have f4 := A6.f 4 rfl; have f5 := A6.f 5 rfl; have apl := A6.lt) | (have HN := Lib.hid (confat_c (ok := ok) HJ.out hjb h45 hrd6 hto6 hes6)))
            | (go_at_call 35; have h45a := h45.alloc h45.size (.cells zE.toArray 40); have A5 := AtL.new w5 zE 40; have hPQ := Nat.ne_of_gt ql5; (with_reducible refine (HCK.out lx HLXE.out (HLX.out _ HLXE.out) jb B _ (w5.alloc (.cells zE.toArray 40)) _ _ (HJ.out.below h45a (Nat.le_refl _)) (HQ.out.below (HB4.out.trans (h45a.mono HB4.out.size)) (Nat.le_refl _)) (hs5.below ((Below.refl _ w5).alloc (Nat.le_refl _) (.cells zE.toArray 40)) (Nat.le_refl _))).mono ?_); rintro e w6 hq6; obtain ⟨pu, a1, n1, k1, st, a2, n2, k2, bo, ti, L, rfl, hrd6, hnw6, hto6, hes6, hmem6⟩ := hq6; have hlow6 := hto6.lowB (HJ.out.below h45a (Nat.le_refl _)) hjb; have Q6 := (Q5.alloc (.cells zE.toArray 40)).below hlow6 hQB; have HN := Lib.hid (confat_ab (ok := ok) HJ.out hjb h45a h45.size A5 hrd6 hnw6 hto6 hes6 hmem6); have A6 := A5.row hto6.2 A5.lt (by have := HJ.out.at_.lt; have := h45.size; omega) (fun e => by have := hown_lt HJ.out.own _ e; have := h45.size; omega); have p0 := A6.c 0 rfl; have p1 := A6.c 1 rfl; have p2 := A6.c 2 rfl; have p3 := A6.c 3 rfl; have p4 := A6.c 4 rfl; have p5 := A6.c 5 rfl; have f0 := A6.f 0 rfl; have f1 := A6.f 1 rfl; have f2 := A6.f 2 rfl; have f3 := A6.f 3 rfl; have f4 := A6.f 4 rfl; have f5 := A6.f 5 rfl; have apl := A6.lt)
            | fail)
        all_goals
          go_wp2_with fail
          go_meet
          case rel => exact HN.out
      case rest =>
        obtain ⟨P, pu, a1, n1, k1, st, a2, n2, k2, bo, ti, L, la, lc, rfl, rfl, AP, hrdP, hJP, hes, hPW, hbP⟩ := hcut
        have C6 := C4.below hbP hCB
        have Q6 := Q4.below hbP hQB
        have HBP := Lib.hid (HB4.out.trans (hbP.mono hwB))
        have HRP := Lib.hid hrdP
        have HJP := Lib.hid hJP
        clear C4 Q4 hrdP hJP hbP
        have c0 := C6.c 0 rfl
        have q0 := Q6.c 0 rfl; have q1 := Q6.c 1 rfl; have q2 := Q6.c 2 rfl
        have l6 := C6.lt
        have m6 := Q6.lt
        go_upto_region 8 with (first
          | (go_at_call 36; (with_reducible refine (CL.out _ HBP.out).mono ?_); rintro e w7 ⟨rfl, hb7⟩; have C7 := C6.next hb7; have Q7 := Q6.next hb7))
        have HB7 := Lib.hid (HBP.out.trans (hb7.mono HBP.out.size))
        clear c0 q0 q1 q2 l6 m6 C6 Q6
        have c0 := C7.c 0 rfl
        have q0 := Q7.c 0 rfl; have q1 := Q7.c 1 rfl; have q2 := Q7.c 2 rfl
        have l7 := C7.lt
        have m7 := Q7.lt
        rcases HCA.out with h1 | h1
        · clear HCA
          obtain ⟨rfl, rfl, rfl, hesl⟩ := h1
          have hmm : L.map (·.2) = l.map (·.2) := by rw [hes, hesl]
          have C1 := Lib.hid (fun (w' : World) (hb : Below w7.heap.size w7 w') => sameE (⟨pu, .slice a1 n1 k1, st, .slice a2 n2 k2, bo, ti⟩, en0) (⟨⟨#[]⟩, .slice none 0 0, 0, .slice none 0 0, ⟨#[]⟩, 0⟩, en0) rfl w' ((HRP.out.below hb7 (Nat.le_refl _)).below hb (Nat.le_refl _)) (rd0 _) (Nat.zero_le _) (Nat.zero_le _))
          have J7 := HJP.out.below hb7 (Nat.le_refl _)
          have HJ7 := Lib.hid J7
          have C2 := Lib.hid (fun (w' : World) (hb : Below w7.heap.size w7 w') => sameL L l hmm (.slice la L.length lc) _ w' (HJ7.out.reads.below hb (Nat.le_refl _)) (HV.out.below (HB7.out.trans (hb.mono HB7.out.size)) (Nat.le_refl _)) (fun x hx => (HJ7.out.rd x hx).below hb (Nat.le_refl _)) (fun x hx => (HRD.out x hx).below (HB7.out.trans (hb.mono HB7.out.size)) (Nat.le_refl _)) (fun x hx => by
            have h1 : x.2 ∈ l.map (·.2) := by rw [← hmm]; exact List.mem_map_of_mem hx
            obtain ⟨z, hz, he⟩ := List.mem_map.1 h1
            rw [← he]; exact ⟨(HOK.out z hz).1.1, (HOK.out z hz).2.1.1⟩) (by have := congrArg List.length hmm; rw [List.length_map, List.length_map] at this; omega))
          have P7 := AP.next hb7
          have K7 := J7.at_
          clear hmm J7 hesl
          have p0 := P7.c 0 rfl; have p1 := P7.c 1 rfl; have p2 := P7.c 2 rfl; have p3 := P7.c 3 rfl; have p4 := P7.c 4 rfl; have p5 := P7.c 5 rfl
          have j0 := K7.c 0 rfl
          have pl7 := P7.lt
          have jl7 := K7.lt
          go_upto_region 9 with fail
          go_region_held3 (fun w' => w'.cell? ⟨P, 0, none⟩ = some (.string pu) ∧ w'.cell? ⟨P, 1, none⟩ = some (.slice a1 n1 k1) ∧ w'.cell? ⟨P, 2, none⟩ = some (.int .i64 st) ∧ w'.cell? ⟨P, 3, none⟩ = some (.slice a2 n2 k2) ∧ w'.cell? ⟨P, 4, none⟩ = some (.string bo) ∧ w'.cell? ⟨P, 5, none⟩ = some (.int .i64 ti) ∧ w'.cell? ⟨jb, 0, none⟩ = some (.slice la L.length lc) ∧ w'.cell? ⟨C, 0, none⟩ = some (.slice sa l.length sc))
            (first | exact c8_mk P7 K7 C7 (Below.refl _ w7).drew | exact c8_mk P7 K7 C7 hb8 | exact c8_mk P7 K7 C7 hb9 | go_keep)
            (first
              | (go_at_call 26; (with_reducible refine (C1.out _ (Below.refl _ w7).drew).mono ?_); rintro e w8 ⟨rfl, hbb8⟩; have hb8 : Below w7.heap.size w7 w8 := (Below.refl w7.heap.size w7).drew.trans hbb8)
              | (go_at_call 28; (with_reducible refine (C2.out _ hb8).mono ?_); rintro e w9 ⟨rfl, hbb9⟩; have hb9 := hb8.trans (hbb9.mono hb8.size)))
          go_wp2_with fail
          go_ret
          exact ⟨rfl, HB7.out.trans (hb9.mono HB7.out.size)⟩
        · clear HCA
          obtain ⟨i, hi, rfl, rfl, hen, hesl⟩ := h1
          have hmx : l[i] ∈ l := List.getElem_mem hi
          have hrdx := HRD.out _ hmx
          have hzx := HOK.out _ hmx
          obtain ⟨m, hm⟩ : ∃ m, m + 1 = l.length := ⟨l.length - 1, by omega⟩
          have hlen : (l.eraseIdx i).length = m := by rw [List.length_eraseIdx, if_pos hi]; omega
          have hwant := fun y => conf_want l i hi y m hm
          have CBk := Lib.hid (fun (w' : World) (hb : Below w.heap.size w w') => rback_is l (.slice sa l.length sc) w' (HV.out.below hb (Nat.le_refl _)) (fun x hx => (HRD.out x hx).below hb (Nat.le_refl _)) (by omega) i hi l[i] rfl)
          have hlast : (l.eraseIdx i ++ [l[i]])[m]? = some l[i] := by rw [← hlen]; simp
          obtain ⟨x, hx⟩ : ∃ x, l[i] = x := ⟨_, rfl⟩
          rw [hx] at CBk hwant hlast hrdx hzx hen
          have HLW : Hid ((l.eraseIdx i ++ [x]).length = m + 1) := Lib.hid (by rw [List.length_append, hlen]; rfl)
          obtain ⟨⟨b1, o1, j1, e1⟩, b2, o2, j2, e2⟩ := hrdx.shp
          obtain ⟨⟨xu, vv, xs, hh0, xb, xt⟩, xe⟩ := x
          have e1 : vv = .slice b1 o1 j1 := e1
          have e2 : hh0 = .slice b2 o2 j2 := e2
          subst e1 e2
          have hen : en = confE xe hs now := hen
          have HRX : Hid (Rd w (⟨xu, .slice b1 o1 j1, xs, .slice b2 o2 j2, xb, xt⟩ : Er) xe) := Lib.hid hrdx
          have hzxh : HdSz xe.hd := hzx.2.1
          have HX100 : Hid (xe.hd.length ≤ 100) := Lib.hid (by have := HX1.out _ hmx; rw [hx] at this; exact this)
          obtain ⟨M, hMg⟩ : ∃ M, mergeL xe.hd hs = M := ⟨_, rfl⟩
          have CMg := Lib.hid (fun (w' : World) (hb : Below w.heap.size w w') => (show Calls Tryz.prog 38 #[.slice b2 o2 j2, .slice ha hs.length hc] w' (CloQ w' M) by rw [← hMg]; exact rmerge_is xe.hd hs (.slice b2 o2 j2) (.slice ha hs.length hc) w' (HRX.out.hd.below hb (Nat.le_refl _)) (HH.out.below hb (Nat.le_refl _)) hzxh hzh'))
          have HMG := Lib.hid hMg
          have hml := merge_len xe.hd hs
          have hMl : M.length ≤ 1000 := by rw [← hMg]; have := hzx.2.1.1; have := HX100.out; omega
          have HEN := Lib.hid hen
          have HESL := Lib.hid hesl
          have HWANT := Lib.hid hwant
          have HLAST := Lib.hid hlast
          have HES := Lib.hid hes
          have HL1 : Hid (l.length = m + 1) := Lib.hid hm.symm
          have hin : ¬ (i : Int) < 0 := by omega
          have hm12 : m ≤ 11 := by omega
          clear hmx hrdx hzx hwant hlast hx hen hesl hes hlen hm hMg hml
          go_upto_region 11 with (go_at_call 37; (with_reducible refine (CBk.out _ HB7.out).mono ?_); rintro e w8 hq8; obtain ⟨ga, gc, rfl, how8, hb8⟩ := rowq_open hq8 _ HLW.out)
          obtain ⟨_, _, hve, hgc, hgm, hga⟩ := own_reads how8
          injection hve with v1 v2 v3
          subst v1 v3
          rcases hga with ⟨_, h0⟩ | ⟨g, rfl, hg7, hgw, hcell⟩
          · omega
          have cc : ∀ j u, (eeC ((⟨xu, .slice b1 o1 j1, xs, .slice b2 o2 j2, xb, xt⟩, xe) : Ee))[j]? = some u → w8.cell? ⟨g, m * 6 + j, none⟩ = some u := fun j u hu => by
            obtain ⟨hh1, hh2⟩ := List.getElem?_eq_some_iff.1 HLAST.out
            exact hcell _ _ (cellsK_get eelen _ m hh1 j u (by rw [hh2]; exact hu))
          have c0' := cc 0 _ rfl
          have c1' := cc 1 _ rfl
          have c2' := cc 2 _ rfl
          have c3' := cc 3 _ rfl
          have c4' := cc 4 _ rfl
          have c5' := cc 5 _ rfl
          simp only [Nat.add_zero] at c0'
          have hb8w := HB7.out.trans (hb8.mono HB7.out.size)
          have HOW8 := Lib.hid how8
          have hwr : IntKind.i64.wrap (((m + 1 : Nat) : Int) - 1) = (m : Int) := by rw [IntWalk.i64_in _ (by omega)]; omega
          have hmi : (m : Int) < ((m + 1 : Nat) : Int) := by omega
          have hmi0 : (0 : Int) ≤ (m : Int) := by omega
          clear cc hcell how8 hgc hgm
          go_upto_region 12 with fail
          have hal9 := (Below.refl _ w8).alloc (Nat.le_refl _) (.cells [.string xu, .slice b1 o1 j1, .int .i64 xs, .slice b2 o2 j2, .string xb, .int .i64 xt].toArray 40)
          have E9 := AtL.new w8 [.string xu, .slice b1 o1 j1, .int .i64 xs, .slice b2 o2 j2, .string xb, .int .i64 xt] 40
          have OW9 := own_below HOW8.out hal9 (Nat.le_refl _)
          have B9 := hb8w.trans (hal9.mono hb8w.size)
          have b79 := hb8.trans (hal9.mono hb8.size)
          have b89 := hal9
          obtain ⟨w9, hw9⟩ : ∃ w9 : World, w8.alloc (.cells [.string xu, .slice b1 o1 j1, .int .i64 xs, .slice b2 o2 j2, .string xb, .int .i64 xt].toArray 40) = w9 := ⟨_, rfl⟩
          obtain ⟨E2, hE2⟩ : ∃ E2, w8.heap.size = E2 := ⟨_, rfl⟩
          have h78 := hb8.size
          have hw78 := hb8w.size
          rw [hw9] at E9 OW9 B9 b79 b89
          rw [hE2] at E9 hgw h78 hw78
          rw [show w8.alloc (.cells #[.string xu, .slice b1 o1 j1, .int .i64 xs, .slice b2 o2 j2, .string xb, .int .i64 xt] 40) = w9 from hw9, hE2]
          have HE2 := Lib.hid hE2
          have HC8 : Hid (∀ w' : World, Below w8.heap.size w8 w' → w'.cell? ⟨g, m * 6, none⟩ = some (.string xu) ∧ w'.cell? ⟨g, m * 6 + 1, none⟩ = some (.slice b1 o1 j1) ∧ w'.cell? ⟨g, m * 6 + 2, none⟩ = some (.int .i64 xs) ∧ w'.cell? ⟨g, m * 6 + 3, none⟩ = some (.slice b2 o2 j2) ∧ w'.cell? ⟨g, m * 6 + 4, none⟩ = some (.string xb) ∧ w'.cell? ⟨g, m * 6 + 5, none⟩ = some (.int .i64 xt)) := Lib.hid (fun w' hb => by
            have k := fun (o : Nat) (u : Value) (h : w8.cell? ⟨g, o, none⟩ = some u) => (brl hb g o (by omega)).trans h
            exact ⟨k _ _ c0', k _ _ c1', k _ _ c2', k _ _ c3', k _ _ c4', k _ _ c5'⟩)
          have hgE : g ≠ E2 := Nat.ne_of_lt hgw
          clear hw9 hE2 hal9 c0' c1' c2' c3' c4' c5' c0 q0 q1 q2
          have z0 := E9.c 0 rfl; have z1 := E9.c 1 rfl; have z2 := E9.c 2 rfl; have z3 := E9.c 3 rfl; have z4 := E9.c 4 rfl; have z5 := E9.c 5 rfl; have f0 := E9.f 0 rfl; have f1 := E9.f 1 rfl; have f2 := E9.f 2 rfl; have f3 := E9.f 3 rfl; have f4 := E9.f 4 rfl; have f5 := E9.f 5 rfl
          have el9 := E9.lt
          go_upto_region 13 with (go_at_call 38; (with_reducible refine (CMg.out _ B9).mono ?_); rintro e w10 hq10; obtain ⟨ma, mc, rfl, hs10, hb10, hn10⟩ := cloq_open hq10; clear hq10 z0 z1 z2 z3 z4 z5 f0 f1 f2 f3 f4 f5; have E10 := E9.next hb10; have z3 := E10.c 3 rfl; have f3 := E10.f 3 rfl; have el10 := E10.lt)
          have HN10 : Hid (∀ b off n k, Value.slice ma M.length mc = .slice (some ⟨b, off, none⟩) n k → E2 < b) := Lib.hid (fun b off n k e => by have := hn10 b off n k e; omega)
          have E11 := E10.set 3 (.slice ma M.length mc)
          have OW11 := own_cell (o := 3) (own_below OW9 hb10 (Nat.le_refl _)) (own_ne hgE _ _) (.slice ma M.length mc)
          have s11 := slk_cell hs10 ⟨E2, 3, none⟩ (.slice ma M.length mc) (fun b off n k e => Nat.ne_of_gt (HN10.out b off n k e))
          have B11 := (B9.trans (hb10.mono B9.size)).setCell (p := ⟨E2, 3, none⟩) hw78 (.slice ma M.length mc)
          have b711 := (b79.trans (hb10.mono b79.size)).setCell (p := ⟨E2, 3, none⟩) h78 (.slice ma M.length mc)
          have b811 := (b89.trans (hb10.mono b89.size)).setCell (p := ⟨E2, 3, none⟩) (Nat.le_of_eq HE2.out) (.slice ma M.length mc)
          obtain ⟨w11, hw11⟩ : ∃ w11 : World, w10.setCell ⟨E2, 3, none⟩ (.slice ma M.length mc) = w11 := ⟨_, rfl⟩
          rw [hw11] at E11 OW11 s11 B11 b711 b811
          rw [hw11]
          have Q11 := Q7.next b711
          have q2 := Q11.c 2 rfl
          have ql11 := Q11.lt
          clear hw11 E10 z3 f3 el10 hb10 hs10 E9 OW9 B9 b79 b89 el9
          have z0 := E11.c 0 rfl; have z1 := E11.c 1 rfl; have z2 := E11.c 2 rfl; have z3 := E11.c 3 rfl; have z4 := E11.c 4 rfl; have z5 := E11.c 5 rfl; have f0 := E11.f 0 rfl; have f1 := E11.f 1 rfl; have f2 := E11.f 2 rfl; have f3 := E11.f 3 rfl; have f4 := E11.f 4 rfl; have f5 := E11.f 5 rfl
          have el11 := E11.lt
          go_upto_region 14 with fail
          have E12 := E11.set 5 (.int .i64 now)
          have OW12 := own_cell (o := 5) OW11 (own_ne hgE _ _) (.int .i64 now)
          have s12 := slk_cell s11 ⟨E2, 5, none⟩ (.int .i64 now) (fun b off n k e => Nat.ne_of_gt (HN10.out b off n k e))
          have B12 := B11.setCell (p := ⟨E2, 5, none⟩) hw78 (.int .i64 now)
          have b712 := b711.setCell (p := ⟨E2, 5, none⟩) h78 (.int .i64 now)
          have b812 := b811.setCell (p := ⟨E2, 5, none⟩) (Nat.le_of_eq HE2.out) (.int .i64 now)
          obtain ⟨w12, hw12⟩ : ∃ w12 : World, w11.setCell ⟨E2, 5, none⟩ (.int .i64 now) = w12 := ⟨_, rfl⟩
          rw [hw12] at E12 OW12 s12 B12 b712 b812
          rw [hw12]
          clear hw12 E11 OW11 s11 B11 b711 b811 z0 z1 z2 z3 z4 z5 f0 f1 f2 f3 f4 f5 el11 q2 ql11 Q11
          have z0 := E12.c 0 rfl; have z1 := E12.c 1 rfl; have z2 := E12.c 2 rfl; have z3 := E12.c 3 rfl; have z4 := E12.c 4 rfl; have z5 := E12.c 5 rfl
          have el12 := E12.lt
          obtain ⟨c0', c1', c2', c3', c4', c5'⟩ := HC8.out _ b812
          have hfr := own_free OW12
          have t0 := hfr (m * 6)
          have t1 := hfr (m * 6 + 1)
          have t2 := hfr (m * 6 + 2)
          have t3 := hfr (m * 6 + 3)
          have t4 := hfr (m * 6 + 4)
          have t5 := hfr (m * 6 + 5)
          have hgw12 : g < w12.heap.size := by omega
          clear hfr
          go_upto_region 15 with fail
          obtain ⟨Y, hY⟩ : ∃ Y : Ee, ((⟨xu, .slice b1 o1 j1, xs, .slice ma M.length mc, xb, now⟩, en) : Ee) = Y := ⟨_, rfl⟩
          have OW13 := eeown_put HLW.out OW12 m (Nat.lt_succ_self m) Y
          have E13 : AtL (eeput w12 g (m * 6) Y) E2 _ := E12.but (BelowBut.setCells (eeC Y) (m * 6) w12 (BelowBut.refl w12.heap.size g w12)) el12 (fun e => hgE e.symm)
          have s13 := slk_eeput s12 g (m * 6) Y (fun _ b off n c e => ⟨by have := HN10.out b off n c e; omega, by simp⟩)
          have B13 : Below w.heap.size w (eeput w12 g (m * 6) Y) := BelowBut.to_below (BelowBut.setCells (eeC Y) (m * 6) w12 (BelowBut.refl w12.heap.size g w12)) B12 B12.size (by have := HB7.out.size; omega)
          have b713 : Below w7.heap.size w7 (eeput w12 g (m * 6) Y) := BelowBut.to_below (BelowBut.setCells (eeC Y) (m * 6) w12 (BelowBut.refl w12.heap.size g w12)) b712 b712.size hg7
          obtain ⟨w13, hw13⟩ : ∃ w13 : World, eeput w12 g (m * 6) Y = w13 := ⟨_, rfl⟩
          rw [hw13] at OW13 E13 s13 B13 b713
          rw [HWANT.out] at OW13
          rw [show (((((w12.setCell ⟨g, m * 6, none⟩ (.string xu)).setCell ⟨g, m * 6 + 1, none⟩ (.slice b1 o1 j1)).setCell ⟨g, m * 6 + 2, none⟩ (.int .i64 xs)).setCell ⟨g, m * 6 + 3, none⟩ (.slice ma M.length mc)).setCell ⟨g, m * 6 + 4, none⟩ (.string xb)).setCell ⟨g, m * 6 + 5, none⟩ (.int .i64 now) = w13 from by rw [← hw13, ← hY]]
          have hYr : Rd w13 Y.1 Y.2 := by
            rw [← hY, HEN.out]
            exact ⟨HRX.out.u, HRX.out.st, HRX.out.bo, rfl, HRX.out.va.below B13 (Nat.le_refl _), by show SlK hdC 2 w13 (.slice ma M.length mc) (mergeL xe.hd hs); rw [HMG.out]; exact s13⟩
          have hmm : L.map (·.2) = (l.eraseIdx i ++ [Y]).map (·.2) := by
            rw [HES.out, HESL.out, List.map_append, erase_map, ← hY]; rfl
          have hsl : SlK eeC 6 w13 (.slice (some ⟨g, 0, none⟩) (m + 1) gc) (l.eraseIdx i ++ [Y]) := SlK.of_own eelen (own_eq OW13 (by have := congrArg List.length (HWANT.out Y); rw [List.length_set, HLW.out] at this; exact this) rfl)
          have J13 := HJP.out.below (hb7.trans (b713.mono hb7.size)) (Nat.le_refl _)
          have R13 := HRP.out.below (hb7.trans (b713.mono hb7.size)) (Nat.le_refl _)
          have P13 := AP.next (hb7.trans (b713.mono hb7.size))
          have hEY : Rd w13 (⟨xu, .slice b1 o1 j1, xs, .slice ma M.length mc, xb, now⟩ : Er) en := by have h := hYr; rw [← hY] at h; exact h
          have HB13 := Lib.hid B13
          have HJ13 := Lib.hid J13
          have HYR := Lib.hid hYr
          have HSL := Lib.hid hsl
          have C1 := Lib.hid (sameE (⟨pu, .slice a1 n1 k1, st, .slice a2 n2 k2, bo, ti⟩, en) (⟨xu, .slice b1 o1 j1, xs, .slice ma M.length mc, xb, now⟩, en) rfl w13 R13 hEY hen1 hen2)
          have C2 := Lib.hid (fun (w' : World) (hb : Below w13.heap.size w13 w') => sameL L (l.eraseIdx i ++ [Y]) hmm (.slice la L.length lc) _ w' (HJ13.out.reads.below hb (Nat.le_refl _)) (HSL.out.below hb (Nat.le_refl _)) (fun x hx => (HJ13.out.rd x hx).below hb (Nat.le_refl _)) (fun x hx => by
              rcases List.mem_append.1 hx with h2 | h2
              · exact (HRD.out x (List.mem_of_mem_eraseIdx h2)).below (HB13.out.trans (hb.mono HB13.out.size)) (Nat.le_refl _)
              · obtain rfl := List.mem_singleton.1 h2; exact HYR.out.below hb (Nat.le_refl _)) (fun x hx => by
              have h1 : x.2 ∈ (l.eraseIdx i ++ [Y]).map (·.2) := by rw [← hmm]; exact List.mem_map_of_mem hx
              obtain ⟨z, hz, he⟩ := List.mem_map.1 h1
              rw [← he]
              rcases List.mem_append.1 hz with h2 | h2
              · exact ⟨(HOK.out z (List.mem_of_mem_eraseIdx h2)).1.1, (HOK.out z (List.mem_of_mem_eraseIdx h2)).2.1.1⟩
              · obtain rfl := List.mem_singleton.1 h2; rw [← hY]; exact ⟨hen1, hen2⟩) (by have h1 := congrArg List.length hmm; have h2 := congrArg List.length (HWANT.out Y); rw [List.length_set, HLW.out] at h2; rw [List.length_map, List.length_map] at h1; omega))
          clear hw13 hY OW13 s13 B13 b713 hYr hmm hsl J13 R13 hEY E12 OW12 s12 B12 b712 b812 z0 z1 z2 z3 z4 z5 el12 c0' c1' c2' c3' c4' c5' t0 t1 t2 t3 t4 t5 hgw12
          have p0 := P13.c 0 rfl; have p1 := P13.c 1 rfl; have p2 := P13.c 2 rfl; have p3 := P13.c 3 rfl; have p4 := P13.c 4 rfl; have p5 := P13.c 5 rfl
          have z0 := E13.c 0 rfl; have z1 := E13.c 1 rfl; have z2 := E13.c 2 rfl; have z3 := E13.c 3 rfl; have z4 := E13.c 4 rfl; have z5 := E13.c 5 rfl
          have pl13 := P13.lt
          have el13 := E13.lt
          go_wp2_with (first
            | (go_at_call 26; (with_reducible refine C1.out.mono ?_); rintro e wa ⟨rfl, hba⟩; have Ja := HJ13.out.at_.next hba; have j0 := Ja.c 0 rfl; have jla := Ja.lt)
            | (go_at_call 28; (with_reducible refine (C2.out _ hba).mono ?_); rintro e wb ⟨rfl, hbb⟩))
          go_ret
          exact ⟨rfl, HB13.out.trans ((hba.trans (hbb.mono hba.size)).mono HB13.out.size)⟩
end Go.Proofs.YtkobhknggamejaaGreatDoor
