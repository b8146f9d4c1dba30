/- CacheUse: the law. -/
import Derived.Test.YtkobhknggamejaaGreatDoorJF1
namespace Go.Proofs.YtkobhknggamejaaGreatDoor
set_option linter.unusedVariables false
set_option linter.unusedSimpArgs false
open Go.RowKit

theorem ud_mk {W w' : World} {E D : Nat} {a b c d e f p q r s : Value} (h1 : AtL W E [a, b, c, d, e, f]) (h2 : AtL W D [p, q, r, s]) (hb : Below W.heap.size W w') : w'.cell? ⟨E, 3, none⟩ = some d ∧ w'.cell? ⟨E, 5, none⟩ = some f ∧ w'.cell? ⟨D, 0, none⟩ = some p ∧ w'.cell? ⟨D, 1, none⟩ = some q :=
  ⟨(brl hb _ _ h1.lt).trans (h1.c 3 rfl), (brl hb _ _ h1.lt).trans (h1.c 5 rfl), (brl hb _ _ h2.lt).trans (h2.c 0 rfl), (brl hb _ _ h2.lt).trans (h2.c 1 rfl)⟩
set_option maxRecDepth 20000 in
set_option maxHeartbeats 8000000 in
theorem cacheuse_law (l : List Ee) (v : Value) (url : ByteArray) (vr : Value) (now : Int) (rq : List Hd) (y : Ee) (w : World) (hM : MaxAt w) (hv : SlK eeC 6 w v l) (hr : ∀ x ∈ l, Rd w x.1 x.2) (hz : ∀ x ∈ l, WtE x.2) (hq : SlK hdC 2 w vr rq) (hzq : WtH rq) (hy : Rd w y.1 y.2) (hzy : WtE y.2) :
    Calls Tryz.prog 6 #[.agg #[v], .agg #[.string url, vr, .int .i64 now], eeA y] w fun e w' => e = .returned (.bool true) ∧ Below w.heap.size w w' := by
  have hb0 : Below w.heap.size w (((w.alloc (.cells [v].toArray 35)).alloc (.cells [.string url, vr, .int .i64 now].toArray 37)).alloc (.cells (eeC y).toArray 40)) := (((Below.refl _ w).alloc (Nat.le_refl _) _).alloc (by simp) _).alloc (by simp; omega) _
  have C0 := ((AtL.new w [v] 35).alloc (.cells [.string url, vr, .int .i64 now].toArray 37)).alloc (.cells (eeC y).toArray 40)
  have Q0 := (AtL.new (w.alloc (.cells [v].toArray 35)) [.string url, vr, .int .i64 now] 37).alloc (.cells (eeC y).toArray 40)
  rw [show (w.alloc (.cells [v].toArray 35)).heap.size = w.heap.size + 1 by simp] at Q0
  have E0 := AtL.new ((w.alloc (.cells [v].toArray 35)).alloc (.cells [.string url, vr, .int .i64 now].toArray 37)) (eeC y) 40
  rw [show ((w.alloc (.cells [v].toArray 35)).alloc (.cells [.string url, vr, .int .i64 now].toArray 37)).heap.size = w.heap.size + 1 + 1 by simp] at E0
  have CF := Lib.hid (fit_is43 _ (hM.below hb0 (Nat.le_refl _)))
  obtain ⟨R, hR⟩ : ∃ R, fewA (l.map (·.2)) rq = R := ⟨_, rfl⟩
  obtain ⟨A, hA⟩ : ∃ A, attrB y.2.hd = A := ⟨_, rfl⟩
  have CW := Lib.hid (fun (w' : World) (hb : Below w.heap.size w w') => few_is l v url rq vr now w' (hv.below hb (Nat.le_refl _)) (fun x hx => (hr x hx).below hb (Nat.le_refl _)) (hq.below hb (Nat.le_refl _)) hz hzq R hR)
  have CH := Lib.hid (fun (w' : World) (hb : Below w.heap.size w w') => attrs_is y.2.hd y.1.hv w' (hy.hd.below hb (Nat.le_refl _)) hzy.2.1 A hA)
  have HV := Lib.hid hv
  have HRD := Lib.hid hr
  have HQ := Lib.hid hq
  have HMM := Lib.hid hM
  have HH : Hid (SlK hdC 2 w y.1.hv y.2.hd) := Lib.hid hy.hd
  have HYD : Hid (y.1.st = y.2.st ∧ y.1.bo = y.2.bo ∧ y.1.ti = y.2.ti) := Lib.hid ⟨hy.st, hy.bo, hy.ti⟩
  obtain ⟨sa, sc, rfl, _⟩ := hv.shape
  obtain ⟨sb, sd, rfl, _⟩ := hq.shape
  obtain ⟨⟨a1, n1, k1, e1⟩, a2, n2, k2, e2⟩ := hy.shp
  obtain ⟨⟨u, vv, st, hh, bo, ti⟩, ⟨u', va, st', hd, bo', ti'⟩⟩ := y
  have e1 : vv = .slice a1 n1 k1 := e1
  have e2 : hh = .slice a2 n2 k2 := e2
  subst e1 e2
  have hzy2 : WtH hd := hzy.2.1
  clear hv hr hq hy hM hz hzy
  have c0 := C0.c 0 rfl
  have q0 := Q0.c 0 rfl; have q1 := Q0.c 1 rfl; have q2 := Q0.c 2 rfl
  have z0 := E0.c 0 rfl; have z1 := E0.c 1 rfl; have z2 := E0.c 2 rfl; have z3 := E0.c 3 rfl; have z4 := E0.c 4 rfl; have z5 := E0.c 5 rfl
  have cl := C0.lt
  have ql := Q0.lt
  have el := E0.lt
  cases R with
  | false =>
    clear hR hA CH
    go_enter Tryz.func6, Tryz.ntmps6
    go_wp2_with (first
      | (go_at_call 10; (with_reducible refine CF.out.mono ?_); rintro e w1 ⟨rfl, hb1⟩; have C1 := C0.next hb1; have Q1 := Q0.next hb1; have E1 := E0.next hb1; have hB1 := hb0.trans (hb1.mono hb0.size); clear c0 q0 q1 q2 z0 z1 z2 z3 z4 z5; have c0 := C1.c 0 rfl; have q0 := Q1.c 0 rfl; have q1 := Q1.c 1 rfl; have q2 := Q1.c 2 rfl; have z0 := E1.c 0 rfl; have z1 := E1.c 1 rfl; have z2 := E1.c 2 rfl; have z3 := E1.c 3 rfl; have z4 := E1.c 4 rfl; have z5 := E1.c 5 rfl; have l1 := C1.lt; have m1 := Q1.lt; have o1 := E1.lt)
      | (go_at_call 20; (with_reducible refine (CW.out _ hB1).mono ?_); rintro e w2 ⟨rfl, hb2⟩; have C2 := C1.next hb2; have Q2 := Q1.next hb2; have E2 := E1.next hb2; have hB2 := hB1.trans (hb2.mono hB1.size); clear c0 q0 q1 q2 z0 z1 z2 z3 z4 z5; have c0 := C2.c 0 rfl; have q0 := Q2.c 0 rfl; have q1 := Q2.c 1 rfl; have q2 := Q2.c 2 rfl; have z0 := E2.c 0 rfl; have z1 := E2.c 1 rfl; have z2 := E2.c 2 rfl; have z3 := E2.c 3 rfl; have z4 := E2.c 4 rfl; have z5 := E2.c 5 rfl; have l2 := C2.lt; have m2 := Q2.lt; have o2 := E2.lt)
      )
    go_ret
    exact ⟨rfl, hB2⟩
  | true =>
    cases A with
    | false =>
      clear hR hA
      go_enter Tryz.func6, Tryz.ntmps6
      go_wp2_with (first
        | (go_at_call 10; (with_reducible refine CF.out.mono ?_); rintro e w1 ⟨rfl, hb1⟩; have C1 := C0.next hb1; have Q1 := Q0.next hb1; have E1 := E0.next hb1; have hB1 := hb0.trans (hb1.mono hb0.size); clear c0 q0 q1 q2 z0 z1 z2 z3 z4 z5; have c0 := C1.c 0 rfl; have q0 := Q1.c 0 rfl; have q1 := Q1.c 1 rfl; have q2 := Q1.c 2 rfl; have z0 := E1.c 0 rfl; have z1 := E1.c 1 rfl; have z2 := E1.c 2 rfl; have z3 := E1.c 3 rfl; have z4 := E1.c 4 rfl; have z5 := E1.c 5 rfl; have l1 := C1.lt; have m1 := Q1.lt; have o1 := E1.lt)
        | (go_at_call 20; (with_reducible refine (CW.out _ hB1).mono ?_); rintro e w2 ⟨rfl, hb2⟩; have C2 := C1.next hb2; have Q2 := Q1.next hb2; have E2 := E1.next hb2; have hB2 := hB1.trans (hb2.mono hB1.size); clear c0 q0 q1 q2 z0 z1 z2 z3 z4 z5; have c0 := C2.c 0 rfl; have q0 := Q2.c 0 rfl; have q1 := Q2.c 1 rfl; have q2 := Q2.c 2 rfl; have z0 := E2.c 0 rfl; have z1 := E2.c 1 rfl; have z2 := E2.c 2 rfl; have z3 := E2.c 3 rfl; have z4 := E2.c 4 rfl; have z5 := E2.c 5 rfl; have l2 := C2.lt; have m2 := Q2.lt; have o2 := E2.lt)
        | (go_at_call 11; (with_reducible refine (CH.out _ hB2).mono ?_); rintro e w3 ⟨rfl, hb3⟩; have C3 := C2.next hb3; have Q3 := Q2.next hb3; have E3 := E2.next hb3; have hB3 := hB2.trans (hb3.mono hB2.size); clear c0 q0 q1 q2 z0 z1 z2 z3 z4 z5; have c0 := C3.c 0 rfl; have q0 := Q3.c 0 rfl; have q1 := Q3.c 1 rfl; have q2 := Q3.c 2 rfl; have z0 := E3.c 0 rfl; have z1 := E3.c 1 rfl; have z2 := E3.c 2 rfl; have z3 := E3.c 3 rfl; have z4 := E3.c 4 rfl; have z5 := E3.c 5 rfl; have l3 := C3.lt; have m3 := Q3.lt; have o3 := E3.lt)
        )
      go_ret
      exact ⟨rfl, hB3⟩
    | true =>
      by_cases g1 : now < 0
      · have g1' : decide (now < 0) = true := decide_eq_true g1
        clear hR hA
        go_enter Tryz.func6, Tryz.ntmps6
        go_wp2_with (first
          | (go_at_call 10; (with_reducible refine CF.out.mono ?_); rintro e w1 ⟨rfl, hb1⟩; have C1 := C0.next hb1; have Q1 := Q0.next hb1; have E1 := E0.next hb1; have hB1 := hb0.trans (hb1.mono hb0.size); clear c0 q0 q1 q2 z0 z1 z2 z3 z4 z5; have c0 := C1.c 0 rfl; have q0 := Q1.c 0 rfl; have q1 := Q1.c 1 rfl; have q2 := Q1.c 2 rfl; have z0 := E1.c 0 rfl; have z1 := E1.c 1 rfl; have z2 := E1.c 2 rfl; have z3 := E1.c 3 rfl; have z4 := E1.c 4 rfl; have z5 := E1.c 5 rfl; have l1 := C1.lt; have m1 := Q1.lt; have o1 := E1.lt)
          | (go_at_call 20; (with_reducible refine (CW.out _ hB1).mono ?_); rintro e w2 ⟨rfl, hb2⟩; have C2 := C1.next hb2; have Q2 := Q1.next hb2; have E2 := E1.next hb2; have hB2 := hB1.trans (hb2.mono hB1.size); clear c0 q0 q1 q2 z0 z1 z2 z3 z4 z5; have c0 := C2.c 0 rfl; have q0 := Q2.c 0 rfl; have q1 := Q2.c 1 rfl; have q2 := Q2.c 2 rfl; have z0 := E2.c 0 rfl; have z1 := E2.c 1 rfl; have z2 := E2.c 2 rfl; have z3 := E2.c 3 rfl; have z4 := E2.c 4 rfl; have z5 := E2.c 5 rfl; have l2 := C2.lt; have m2 := Q2.lt; have o2 := E2.lt)
          | (go_at_call 11; (with_reducible refine (CH.out _ hB2).mono ?_); rintro e w3 ⟨rfl, hb3⟩; have C3 := C2.next hb3; have Q3 := Q2.next hb3; have E3 := E2.next hb3; have hB3 := hB2.trans (hb3.mono hB2.size); clear c0 q0 q1 q2 z0 z1 z2 z3 z4 z5; have c0 := C3.c 0 rfl; have q0 := Q3.c 0 rfl; have q1 := Q3.c 1 rfl; have q2 := Q3.c 2 rfl; have z0 := E3.c 0 rfl; have z1 := E3.c 1 rfl; have z2 := E3.c 2 rfl; have z3 := E3.c 3 rfl; have z4 := E3.c 4 rfl; have z5 := E3.c 5 rfl; have l3 := C3.lt; have m3 := Q3.lt; have o3 := E3.lt)
          )
        go_ret
        exact ⟨rfl, hB3⟩
      by_cases g2 : (1125899906842624 : Int) < now
      · have g2' : ¬ now < 0 := g1
        clear hR hA
        go_enter Tryz.func6, Tryz.ntmps6
        go_wp2_with (first
          | (go_at_call 10; (with_reducible refine CF.out.mono ?_); rintro e w1 ⟨rfl, hb1⟩; have C1 := C0.next hb1; have Q1 := Q0.next hb1; have E1 := E0.next hb1; have hB1 := hb0.trans (hb1.mono hb0.size); clear c0 q0 q1 q2 z0 z1 z2 z3 z4 z5; have c0 := C1.c 0 rfl; have q0 := Q1.c 0 rfl; have q1 := Q1.c 1 rfl; have q2 := Q1.c 2 rfl; have z0 := E1.c 0 rfl; have z1 := E1.c 1 rfl; have z2 := E1.c 2 rfl; have z3 := E1.c 3 rfl; have z4 := E1.c 4 rfl; have z5 := E1.c 5 rfl; have l1 := C1.lt; have m1 := Q1.lt; have o1 := E1.lt)
          | (go_at_call 20; (with_reducible refine (CW.out _ hB1).mono ?_); rintro e w2 ⟨rfl, hb2⟩; have C2 := C1.next hb2; have Q2 := Q1.next hb2; have E2 := E1.next hb2; have hB2 := hB1.trans (hb2.mono hB1.size); clear c0 q0 q1 q2 z0 z1 z2 z3 z4 z5; have c0 := C2.c 0 rfl; have q0 := Q2.c 0 rfl; have q1 := Q2.c 1 rfl; have q2 := Q2.c 2 rfl; have z0 := E2.c 0 rfl; have z1 := E2.c 1 rfl; have z2 := E2.c 2 rfl; have z3 := E2.c 3 rfl; have z4 := E2.c 4 rfl; have z5 := E2.c 5 rfl; have l2 := C2.lt; have m2 := Q2.lt; have o2 := E2.lt)
          | (go_at_call 11; (with_reducible refine (CH.out _ hB2).mono ?_); rintro e w3 ⟨rfl, hb3⟩; have C3 := C2.next hb3; have Q3 := Q2.next hb3; have E3 := E2.next hb3; have hB3 := hB2.trans (hb3.mono hB2.size); clear c0 q0 q1 q2 z0 z1 z2 z3 z4 z5; have c0 := C3.c 0 rfl; have q0 := Q3.c 0 rfl; have q1 := Q3.c 1 rfl; have q2 := Q3.c 2 rfl; have z0 := E3.c 0 rfl; have z1 := E3.c 1 rfl; have z2 := E3.c 2 rfl; have z3 := E3.c 3 rfl; have z4 := E3.c 4 rfl; have z5 := E3.c 5 rfl; have l3 := C3.lt; have m3 := Q3.lt; have o3 := E3.lt)
          )
        go_ret
        exact ⟨rfl, hB3⟩
      by_cases g3 : ti < 0
      · have g3' := g3
        clear hR hA
        go_enter Tryz.func6, Tryz.ntmps6
        go_wp2_with (first
          | (go_at_call 10; (with_reducible refine CF.out.mono ?_); rintro e w1 ⟨rfl, hb1⟩; have C1 := C0.next hb1; have Q1 := Q0.next hb1; have E1 := E0.next hb1; have hB1 := hb0.trans (hb1.mono hb0.size); clear c0 q0 q1 q2 z0 z1 z2 z3 z4 z5; have c0 := C1.c 0 rfl; have q0 := Q1.c 0 rfl; have q1 := Q1.c 1 rfl; have q2 := Q1.c 2 rfl; have z0 := E1.c 0 rfl; have z1 := E1.c 1 rfl; have z2 := E1.c 2 rfl; have z3 := E1.c 3 rfl; have z4 := E1.c 4 rfl; have z5 := E1.c 5 rfl; have l1 := C1.lt; have m1 := Q1.lt; have o1 := E1.lt)
          | (go_at_call 20; (with_reducible refine (CW.out _ hB1).mono ?_); rintro e w2 ⟨rfl, hb2⟩; have C2 := C1.next hb2; have Q2 := Q1.next hb2; have E2 := E1.next hb2; have hB2 := hB1.trans (hb2.mono hB1.size); clear c0 q0 q1 q2 z0 z1 z2 z3 z4 z5; have c0 := C2.c 0 rfl; have q0 := Q2.c 0 rfl; have q1 := Q2.c 1 rfl; have q2 := Q2.c 2 rfl; have z0 := E2.c 0 rfl; have z1 := E2.c 1 rfl; have z2 := E2.c 2 rfl; have z3 := E2.c 3 rfl; have z4 := E2.c 4 rfl; have z5 := E2.c 5 rfl; have l2 := C2.lt; have m2 := Q2.lt; have o2 := E2.lt)
          | (go_at_call 11; (with_reducible refine (CH.out _ hB2).mono ?_); rintro e w3 ⟨rfl, hb3⟩; have C3 := C2.next hb3; have Q3 := Q2.next hb3; have E3 := E2.next hb3; have hB3 := hB2.trans (hb3.mono hB2.size); clear c0 q0 q1 q2 z0 z1 z2 z3 z4 z5; have c0 := C3.c 0 rfl; have q0 := Q3.c 0 rfl; have q1 := Q3.c 1 rfl; have q2 := Q3.c 2 rfl; have z0 := E3.c 0 rfl; have z1 := E3.c 1 rfl; have z2 := E3.c 2 rfl; have z3 := E3.c 3 rfl; have z4 := E3.c 4 rfl; have z5 := E3.c 5 rfl; have l3 := C3.lt; have m3 := Q3.lt; have o3 := E3.lt)
          )
        go_ret
        exact ⟨rfl, hB3⟩
      by_cases g4 : (1125899906842624 : Int) < ti
      · have g4' := g4
        clear hR hA
        go_enter Tryz.func6, Tryz.ntmps6
        go_wp2_with (first
          | (go_at_call 10; (with_reducible refine CF.out.mono ?_); rintro e w1 ⟨rfl, hb1⟩; have C1 := C0.next hb1; have Q1 := Q0.next hb1; have E1 := E0.next hb1; have hB1 := hb0.trans (hb1.mono hb0.size); clear c0 q0 q1 q2 z0 z1 z2 z3 z4 z5; have c0 := C1.c 0 rfl; have q0 := Q1.c 0 rfl; have q1 := Q1.c 1 rfl; have q2 := Q1.c 2 rfl; have z0 := E1.c 0 rfl; have z1 := E1.c 1 rfl; have z2 := E1.c 2 rfl; have z3 := E1.c 3 rfl; have z4 := E1.c 4 rfl; have z5 := E1.c 5 rfl; have l1 := C1.lt; have m1 := Q1.lt; have o1 := E1.lt)
          | (go_at_call 20; (with_reducible refine (CW.out _ hB1).mono ?_); rintro e w2 ⟨rfl, hb2⟩; have C2 := C1.next hb2; have Q2 := Q1.next hb2; have E2 := E1.next hb2; have hB2 := hB1.trans (hb2.mono hB1.size); clear c0 q0 q1 q2 z0 z1 z2 z3 z4 z5; have c0 := C2.c 0 rfl; have q0 := Q2.c 0 rfl; have q1 := Q2.c 1 rfl; have q2 := Q2.c 2 rfl; have z0 := E2.c 0 rfl; have z1 := E2.c 1 rfl; have z2 := E2.c 2 rfl; have z3 := E2.c 3 rfl; have z4 := E2.c 4 rfl; have z5 := E2.c 5 rfl; have l2 := C2.lt; have m2 := Q2.lt; have o2 := E2.lt)
          | (go_at_call 11; (with_reducible refine (CH.out _ hB2).mono ?_); rintro e w3 ⟨rfl, hb3⟩; have C3 := C2.next hb3; have Q3 := Q2.next hb3; have E3 := E2.next hb3; have hB3 := hB2.trans (hb3.mono hB2.size); clear c0 q0 q1 q2 z0 z1 z2 z3 z4 z5; have c0 := C3.c 0 rfl; have q0 := Q3.c 0 rfl; have q1 := Q3.c 1 rfl; have q2 := Q3.c 2 rfl; have z0 := E3.c 0 rfl; have z1 := E3.c 1 rfl; have z2 := E3.c 2 rfl; have z3 := E3.c 3 rfl; have z4 := E3.c 4 rfl; have z5 := E3.c 5 rfl; have l3 := C3.lt; have m3 := Q3.lt; have o3 := E3.lt)
          )
        go_ret
        exact ⟨rfl, hB3⟩
      obtain ⟨hok, h12, hqq⟩ := fewA_sz hR
      have hzq' : HdSz rq := (attrB_sz hqq).1
      have hzh : HdSz hd := (attrB_sz hA).1
      have hok2 : ∀ x ∈ l, HdSz x.2.va ∧ HdSz x.2.hd ∧ x.2.bo.size ≤ 500 := fun x hx => okE_sz (hok _ (List.mem_map_of_mem hx))
      have HOK := Lib.hid hok2
      have hl12 : l.length ≤ 12 := by simpa using h12
      have HLX : Hid (∀ lx : List Ee, lx.map (·.2) = l.map (·.2) → ∀ x ∈ lx, HdSz x.2.va ∧ HdSz x.2.hd) := Lib.hid (fun lx h x hx => by
        have h1 : x.2 ∈ l.map (·.2) := by rw [← h]; exact List.mem_map_of_mem hx
        obtain ⟨z, hz, he⟩ := List.mem_map.1 h1
        rw [← he]; exact ⟨(hok2 z hz).1, (hok2 z hz).2.1⟩)
      have HLN : Hid (∀ lx : List Ee, lx.map (·.2) = l.map (·.2) → lx.length ≤ 1000) := Lib.hid (fun lx h => by have := congrArg List.length h; simp at this; omega)
      have CC := Lib.hid (fun (w' : World) (hb : Below w.heap.size w w') => clone_is43 l (.slice sa l.length sc) w' (HV.out.below hb (Nat.le_refl _)) (fun x hx => (HRD.out x hx).below hb (Nat.le_refl _)) (fun x hx => ⟨(hok2 x hx).1.1, (hok2 x hx).2.1.1⟩) (by omega) _ rfl)
      clear hR hA hok h12 hqq hok2
      obtain ⟨S, hS⟩ : ∃ S, storL st rq hd = S := ⟨_, rfl⟩
      have CP := Lib.hid (fun (w' : World) (jb B : Nat) (a : Option Addr) (k : Nat) (lx : List Ee) (vh : Value) (hlx : lx.map (·.2) = l.map (·.2)) (hb : Below w.heap.size w w') (hjB : B ≤ jb) (hwB : w.heap.size ≤ B) (hJ : CaIn w' jb B (.slice a lx.length k) lx) (hh : SlK hdC 2 w' vh hd) (hfh : FarV hd vh jb (Value.slice a lx.length k).ownBlock) =>
        put_any jb B _ lx w' (HMM.out.below hb (Nat.le_refl _)) (Nat.lt_of_lt_of_le HMM.out.lt hwB) hjB hJ (fun x hx => (HLX.out lx hlx x hx).1) (HLN.out lx hlx) url rq hd (.slice sb rq.length sd) vh (HQ.out.below hb (Nat.le_refl _)) hh hzq' hzh (far_old HQ.out (Nat.le_trans hwB hjB) (fun g e => Nat.le_trans hwB (own_base hJ.own e))) hfh st bo now S hS _ (by rw [hlx]))
      have hsum : (now : Int) + ti ≤ 2251799813685248 := by omega
      have hsum0 : (0 : Int) ≤ now + ti := by omega
      have HKZ : Hid (∀ lp : List Ee, lp.map (·.2) = putEs (l.map (·.2)) url rq st hd bo now S → (∀ x ∈ lp, HdSz x.2.va ∧ HdSz x.2.hd) ∧ lp.length ≤ 1000) := Lib.hid (fun lp hlp => by
        refine ⟨fun x hx => ?_, ?_⟩
        · have h1 : x.2 ∈ putEs (l.map (·.2)) url rq st hd bo now S := by rw [← hlp]; exact List.mem_map_of_mem hx
          rcases List.mem_append.1 h1 with h2 | h2
          · obtain ⟨z, hz, he⟩ := List.mem_map.1 (List.mem_filter.1 h2).1
            rw [← he]; exact ⟨(HOK.out z hz).1, (HOK.out z hz).2.1⟩
          · cases S with
            | false => simp at h2
            | true =>
              have h2 : x.2 = ⟨url, varyE rq hd, st, hd, bo, now⟩ := by simpa using h2
              rw [h2]; exact ⟨HdSz.vary hzq' hzh, hzh⟩
        · have h1 := congrArg List.length hlp
          have h2 : (keepE (l.map (·.2)) url rq).length ≤ (l.map (·.2)).length := List.length_filter_le _ _
          rw [List.length_map, List.length_append] at h1
          rw [List.length_map] at h2
          have h3 : (if S = true then [(⟨url, varyE rq hd, st, hd, bo, now⟩ : En)] else []).length ≤ 1 := by split <;> simp
          omega)
      cases S with
      | false =>
        have CK := Lib.hid (fun (w' : World) (a : Option Addr) (k : Nat) (jb B : Nat) (lp : List Ee) (hb : Below w.heap.size w w') (hJ : CaIn w' jb B (.slice a lp.length k) lp) (hlp : lp.map (·.2) = putEs (l.map (·.2)) url rq st hd bo now false) =>
          ask_no jb B _ lp w' (HMM.out.below hb (Nat.le_refl _)) hJ (HKZ.out lp hlp).1 (HKZ.out lp hlp).2 url rq (.slice sb rq.length sd) (HQ.out.below hb (Nat.le_refl _)) hzq' (now + ti) (-1) (none_last lp (l.map (·.2)) url rq (by rw [hlp]; simp)) _ rfl (.inl rfl))
        clear hS
        go_enter Tryz.func6, Tryz.ntmps6
        go_upto_region 6 with (first
          | (go_at_call 10; (with_reducible refine CF.out.mono ?_); rintro e w1 ⟨rfl, hb1⟩; have C1 := C0.next hb1; have Q1 := Q0.next hb1; have E1 := E0.next hb1; have hB1 := hb0.trans (hb1.mono hb0.size); clear c0 q0 q1 q2 z0 z1 z2 z3 z4 z5; have c0 := C1.c 0 rfl; have q0 := Q1.c 0 rfl; have q1 := Q1.c 1 rfl; have q2 := Q1.c 2 rfl; have z0 := E1.c 0 rfl; have z1 := E1.c 1 rfl; have z2 := E1.c 2 rfl; have z3 := E1.c 3 rfl; have z4 := E1.c 4 rfl; have z5 := E1.c 5 rfl; have l1 := C1.lt; have m1 := Q1.lt; have o1 := E1.lt)
          | (go_at_call 20; (with_reducible refine (CW.out _ hB1).mono ?_); rintro e w2 ⟨rfl, hb2⟩; have C2 := C1.next hb2; have Q2 := Q1.next hb2; have E2 := E1.next hb2; have hB2 := hB1.trans (hb2.mono hB1.size); clear c0 q0 q1 q2 z0 z1 z2 z3 z4 z5; have c0 := C2.c 0 rfl; have q0 := Q2.c 0 rfl; have q1 := Q2.c 1 rfl; have q2 := Q2.c 2 rfl; have z0 := E2.c 0 rfl; have z1 := E2.c 1 rfl; have z2 := E2.c 2 rfl; have z3 := E2.c 3 rfl; have z4 := E2.c 4 rfl; have z5 := E2.c 5 rfl; have l2 := C2.lt; have m2 := Q2.lt; have o2 := E2.lt)
          | (go_at_call 11; (with_reducible refine (CH.out _ hB2).mono ?_); rintro e w3 ⟨rfl, hb3⟩; have C3 := C2.next hb3; have Q3 := Q2.next hb3; have E3 := E2.next hb3; have hB3 := hB2.trans (hb3.mono hB2.size); clear c0 q0 q1 q2 z0 z1 z2 z3 z4 z5; have c0 := C3.c 0 rfl; have q0 := Q3.c 0 rfl; have q1 := Q3.c 1 rfl; have q2 := Q3.c 2 rfl; have z0 := E3.c 0 rfl; have z1 := E3.c 1 rfl; have z2 := E3.c 2 rfl; have z3 := E3.c 3 rfl; have z4 := E3.c 4 rfl; have z5 := E3.c 5 rfl; have l3 := C3.lt; have m3 := Q3.lt; have o3 := E3.lt)
          | (go_at_call 23; (with_reducible refine (CC.out _ hB3).mono ?_); rintro e w4 hq; obtain ⟨jb, ja, jc, lx, rfl, hjb, hJ, hlx, hb4⟩ := hq; have C4 := C3.next hb4; have Q4 := Q3.next hb4; have E4 := E3.next hb4; have hB4 := hB3.trans (hb4.mono hB3.size); clear c0 q0 q1 q2 z0 z1 z2 z3 z4 z5; have c0 := C4.c 0 rfl; have q0 := Q4.c 0 rfl; have q1 := Q4.c 1 rfl; have q2 := Q4.c 2 rfl; have z0 := E4.c 0 rfl; have z1 := E4.c 1 rfl; have z2 := E4.c 2 rfl; have z3 := E4.c 3 rfl; have z4 := E4.c 4 rfl; have z5 := E4.c 5 rfl; have l4 := C4.lt; have m4 := Q4.lt; have o4 := E4.lt)
          )
        obtain ⟨C, hC⟩ : ∃ C, w.heap.size = C := ⟨_, rfl⟩
        obtain ⟨Q, hQ⟩ : ∃ Q, C + 1 = Q := ⟨_, rfl⟩
        obtain ⟨E, hE⟩ : ∃ E, C + 1 + 1 = E := ⟨_, rfl⟩
        obtain ⟨B, hB⟩ : ∃ B, w3.heap.size = B := ⟨_, rfl⟩
        rw [hC] at C4 Q4 E4 l3 m3 o3
        rw [hE] at E4 o3
        rw [hQ] at Q4 m3
        rw [hB] at hjb l3 m3 o3 hJ
        rw [hC, hE, hQ]
        have HCC := Lib.hid hC
        have hwB : w.heap.size ≤ B := by omega
        have hCB : C < B := l3
        have hQB : Q < B := m3
        have hEB : E < B := o3
        have HJ := Lib.hid hJ
        have HLXE := Lib.hid hlx
        have HB4 := Lib.hid hB4
        clear hC hQ hE hB hJ hlx hB4 C0 Q0 E0 C1 C2 C3 Q1 Q2 Q3 E1 E2 E3 hb0 hb1 hb2 hb3 hB1 hB2 hB3 cl ql el l1 m1 o1 l2 m2 o2 l3 m3 o3 l4 m4 o4 c0 q0 q1 q2 z0 z1 z2 z3 z4 z5
        have c0 := C4.c 0 rfl
        have q0 := Q4.c 0 rfl; have q1 := Q4.c 1 rfl; have q2 := Q4.c 2 rfl
        have z0 := E4.c 0 rfl; have z1 := E4.c 1 rfl; have z2 := E4.c 2 rfl; have z3 := E4.c 3 rfl; have z4 := E4.c 4 rfl; have z5 := E4.c 5 rfl
        have l4 := C4.lt
        have m4 := Q4.lt
        have o4 := E4.lt
        go_wp2_with (first
          | (go_at_call 29; (with_reducible refine (CP.out _ _ _ _ _ _ _ HLXE.out HB4.out hjb hwB HJ.out (HH.out.below HB4.out (Nat.le_refl _)) (far_old HH.out (Nat.le_trans hwB hjb) (fun g e => Nat.le_trans hwB (own_base HJ.out.own e)))).mono ?_); rintro e w6 hq6; obtain ⟨rfl, lp, hto6, hlp⟩ := hq6; have hlow6 := hto6.lowB HJ.out hjb; obtain ⟨a6, c6, J6, -, hR6⟩ := hto6.out; have HJ6 := Lib.hid J6; have HLP := Lib.hid hlp; have HB6 := Lib.hid (HB4.out.trans (hlow6.mono hwB)); have Q6 := Q4.below hlow6 hQB; have E6 := E4.below hlow6 hEB; clear hto6 J6 hlp c0 q0 q1 q2 z0 z1 z2 z3 z4 z5 l4 m4 o4; have q0 := Q6.c 0 rfl; have q1 := Q6.c 1 rfl; have q2 := Q6.c 2 rfl; have z0 := E6.c 0 rfl; have z1 := E6.c 1 rfl; have z2 := E6.c 2 rfl; have z3 := E6.c 3 rfl; have z4 := E6.c 4 rfl; have z5 := E6.c 5 rfl; have l6 := Q6.lt; have m6 := E6.lt)
          | (go_at_call 24; (with_reducible refine (CK.out _ _ _ _ _ _ HB6.out HJ6.out HLP.out).mono ?_); rintro e w7 hq7; obtain ⟨r7, u7, rfl, hrd7, hsl7, hto7⟩ := hq7; obtain ⟨ua7, uc7, rfl, _⟩ := hsl7.shape; have hsh7 := Rd.shp (x := (r7, en0)) hrd7; have hlow7 := hto7.lowB HJ6.out hjb; have HB7 := Lib.hid (HB6.out.trans (hlow7.mono hwB)); obtain ⟨⟨a8, n8, k8, e8⟩, a9, n9, k9, e9⟩ := hsh7; obtain ⟨ru, rv, rs, rh, rb, rt⟩ := r7; have e8 : rv = .slice a8 n8 k8 := e8; have e9 : rh = .slice a9 n9 k9 := e9; subst e8 e9; clear hto7 hrd7))
        go_ret
        exact ⟨rfl, HB7.out.alloc HB7.out.size _⟩
      | true =>
        have hns := stor_ns hS
        obtain ⟨D, hD⟩ : ∃ D, dirL rq = D := ⟨_, rfl⟩
        rw [hD] at hns
        have hdb := dirL_bd rq
        rw [hD] at hdb
        obtain ⟨d1, d2, d3, d4⟩ := D
        have hns : d1 = false := hns
        subst hns
        have hda : -1 ≤ d4 := hdb.1
        have hdc : d4 < 1000000000 := hdb.2
        obtain ⟨F, hF⟩ : ∃ F, lifeL hd = F := ⟨_, rfl⟩
        have hlb := lifeL_bd hd
        rw [hF] at hlb
        have hti : ti = ti' := HYD.out.2.2
        obtain ⟨U, hU⟩ : ∃ U, (decide (ti < F) && (!d2 && (decide (d4 < 0) || decide (ti ≤ 1000 * d4)))) = U := ⟨_, rfl⟩
        have hUse : useB ⟨false, d2, d3, d4⟩ ⟨url, varyE rq hd, st, hd, bo, now⟩ (now + ti) = U := by
          unfold useB freshE
          show (decide (ageE now (now + ti) < lifeL hd) && _) = U
          rw [age_sum now ti ⟨by omega, by omega⟩ ⟨by omega, by omega⟩, hF, ← hU]
        have CK := Lib.hid (fun (w' : World) (a : Option Addr) (k : Nat) (jb B : Nat) (lp : List Ee) (hb : Below w.heap.size w w') (hJ : CaIn w' jb B (.slice a lp.length k) lp) (hlp : lp.map (·.2) = putEs (l.map (·.2)) url rq st hd bo now true) => by
          obtain ⟨i, hi, x, hx, hxn, _, hla⟩ := some_last lp (l.map (·.2)) url rq _ (new_ans url rq hd st bo now) (by rw [hlp]; simp)
          have := ask_U jb B _ lp w' (HMM.out.below hb (Nat.le_refl _)) hJ (HKZ.out lp hlp).1 (HKZ.out lp hlp).2 url rq (.slice sb rq.length sd) (HQ.out.below hb (Nat.le_refl _)) hzq' (now + ti) i hi x hx hla d2 d3 d4 hD U (by rw [hxn]; exact hUse)
          rw [hxn] at this
          exact this)
        have CD := Lib.hid (fun (w' : World) (hb : Below w.heap.size w w') => dir_is rq (.slice sb rq.length sd) w' (HMM.out.below hb (Nat.le_refl _)) (HQ.out.below hb (Nat.le_refl _)) hzq' ⟨false, d2, d3, d4⟩ hD)
        have CL := Lib.hid (fun (w' : World) (hb : Below w.heap.size w w') => life_is hd (.slice a2 n2 k2) w' (HMM.out.below hb (Nat.le_refl _)) (HH.out.below hb (Nat.le_refl _)) hzh F hF)
        have HU := Lib.hid hU
        have HTI := Lib.hid hti
        clear hS hD hdb hF hU hUse hti
        by_cases x1 : F ≤ ti
        · obtain rfl : U = false := by rw [← HU.out, show decide (ti < F) = false from decide_eq_false (by omega)]; rfl
          have x1' : ¬ ti < F := by omega
          have x1d : decide (F ≤ ti) = true := decide_eq_true x1
          go_enter Tryz.func6, Tryz.ntmps6
          go_upto_region 6 with (first
            | (go_at_call 10; (with_reducible refine CF.out.mono ?_); rintro e w1 ⟨rfl, hb1⟩; have C1 := C0.next hb1; have Q1 := Q0.next hb1; have E1 := E0.next hb1; have hB1 := hb0.trans (hb1.mono hb0.size); clear c0 q0 q1 q2 z0 z1 z2 z3 z4 z5; have c0 := C1.c 0 rfl; have q0 := Q1.c 0 rfl; have q1 := Q1.c 1 rfl; have q2 := Q1.c 2 rfl; have z0 := E1.c 0 rfl; have z1 := E1.c 1 rfl; have z2 := E1.c 2 rfl; have z3 := E1.c 3 rfl; have z4 := E1.c 4 rfl; have z5 := E1.c 5 rfl; have l1 := C1.lt; have m1 := Q1.lt; have o1 := E1.lt)
            | (go_at_call 20; (with_reducible refine (CW.out _ hB1).mono ?_); rintro e w2 ⟨rfl, hb2⟩; have C2 := C1.next hb2; have Q2 := Q1.next hb2; have E2 := E1.next hb2; have hB2 := hB1.trans (hb2.mono hB1.size); clear c0 q0 q1 q2 z0 z1 z2 z3 z4 z5; have c0 := C2.c 0 rfl; have q0 := Q2.c 0 rfl; have q1 := Q2.c 1 rfl; have q2 := Q2.c 2 rfl; have z0 := E2.c 0 rfl; have z1 := E2.c 1 rfl; have z2 := E2.c 2 rfl; have z3 := E2.c 3 rfl; have z4 := E2.c 4 rfl; have z5 := E2.c 5 rfl; have l2 := C2.lt; have m2 := Q2.lt; have o2 := E2.lt)
            | (go_at_call 11; (with_reducible refine (CH.out _ hB2).mono ?_); rintro e w3 ⟨rfl, hb3⟩; have C3 := C2.next hb3; have Q3 := Q2.next hb3; have E3 := E2.next hb3; have hB3 := hB2.trans (hb3.mono hB2.size); clear c0 q0 q1 q2 z0 z1 z2 z3 z4 z5; have c0 := C3.c 0 rfl; have q0 := Q3.c 0 rfl; have q1 := Q3.c 1 rfl; have q2 := Q3.c 2 rfl; have z0 := E3.c 0 rfl; have z1 := E3.c 1 rfl; have z2 := E3.c 2 rfl; have z3 := E3.c 3 rfl; have z4 := E3.c 4 rfl; have z5 := E3.c 5 rfl; have l3 := C3.lt; have m3 := Q3.lt; have o3 := E3.lt)
            | (go_at_call 23; (with_reducible refine (CC.out _ hB3).mono ?_); rintro e w4 hq; obtain ⟨jb, ja, jc, lx, rfl, hjb, hJ, hlx, hb4⟩ := hq; have C4 := C3.next hb4; have Q4 := Q3.next hb4; have E4 := E3.next hb4; have hB4 := hB3.trans (hb4.mono hB3.size); clear c0 q0 q1 q2 z0 z1 z2 z3 z4 z5; have c0 := C4.c 0 rfl; have q0 := Q4.c 0 rfl; have q1 := Q4.c 1 rfl; have q2 := Q4.c 2 rfl; have z0 := E4.c 0 rfl; have z1 := E4.c 1 rfl; have z2 := E4.c 2 rfl; have z3 := E4.c 3 rfl; have z4 := E4.c 4 rfl; have z5 := E4.c 5 rfl; have l4 := C4.lt; have m4 := Q4.lt; have o4 := E4.lt)
            )
          obtain ⟨C, hC⟩ : ∃ C, w.heap.size = C := ⟨_, rfl⟩
          obtain ⟨Q, hQ⟩ : ∃ Q, C + 1 = Q := ⟨_, rfl⟩
          obtain ⟨E, hE⟩ : ∃ E, C + 1 + 1 = E := ⟨_, rfl⟩
          obtain ⟨B, hB⟩ : ∃ B, w3.heap.size = B := ⟨_, rfl⟩
          rw [hC] at C4 Q4 E4 l3 m3 o3
          rw [hE] at E4 o3
          rw [hQ] at Q4 m3
          rw [hB] at hjb l3 m3 o3 hJ
          rw [hC, hE, hQ]
          have HCC := Lib.hid hC
          have hwB : w.heap.size ≤ B := by omega
          have hCB : C < B := l3
          have hQB : Q < B := m3
          have hEB : E < B := o3
          have HJ := Lib.hid hJ
          have HLXE := Lib.hid hlx
          have HB4 := Lib.hid hB4
          clear hC hQ hE hB hJ hlx hB4 C0 Q0 E0 C1 C2 C3 Q1 Q2 Q3 E1 E2 E3 hb0 hb1 hb2 hb3 hB1 hB2 hB3 cl ql el l1 m1 o1 l2 m2 o2 l3 m3 o3 l4 m4 o4 c0 q0 q1 q2 z0 z1 z2 z3 z4 z5
          have c0 := C4.c 0 rfl
          have q0 := Q4.c 0 rfl; have q1 := Q4.c 1 rfl; have q2 := Q4.c 2 rfl
          have z0 := E4.c 0 rfl; have z1 := E4.c 1 rfl; have z2 := E4.c 2 rfl; have z3 := E4.c 3 rfl; have z4 := E4.c 4 rfl; have z5 := E4.c 5 rfl
          have l4 := C4.lt
          have m4 := Q4.lt
          have o4 := E4.lt
          go_upto_region 8 with (first
            | (go_at_call 29; (with_reducible refine (CP.out _ _ _ _ _ _ _ HLXE.out HB4.out hjb hwB HJ.out (HH.out.below HB4.out (Nat.le_refl _)) (far_old HH.out (Nat.le_trans hwB hjb) (fun g e => Nat.le_trans hwB (own_base HJ.out.own e)))).mono ?_); rintro e w6 hq6; obtain ⟨rfl, lp, hto6, hlp⟩ := hq6; have hlow6 := hto6.lowB HJ.out hjb; obtain ⟨a6, c6, J6, -, hR6⟩ := hto6.out; have HJ6 := Lib.hid J6; have HLP := Lib.hid hlp; have HB6 := Lib.hid (HB4.out.trans (hlow6.mono hwB)); have Q6 := Q4.below hlow6 hQB; have E6 := E4.below hlow6 hEB; clear hto6 J6 hlp c0 q0 q1 q2 z0 z1 z2 z3 z4 z5 l4 m4 o4; have q0 := Q6.c 0 rfl; have q1 := Q6.c 1 rfl; have q2 := Q6.c 2 rfl; have z0 := E6.c 0 rfl; have z1 := E6.c 1 rfl; have z2 := E6.c 2 rfl; have z3 := E6.c 3 rfl; have z4 := E6.c 4 rfl; have z5 := E6.c 5 rfl; have l6 := Q6.lt; have m6 := E6.lt)
            | (go_at_call 24; (with_reducible refine (CK.out _ _ _ _ _ _ HB6.out HJ6.out HLP.out).mono ?_); rintro e w7 hq7; obtain ⟨r7, kd, ua7, un7, uc7, rfl, hsh7, hk7t, hk7f, lq, hto7⟩ := hq7; have HKT := Lib.hid hk7t; have HKF := Lib.hid hk7f; clear hk7t hk7f; have hlow7 := hto7.lowB HJ6.out hjb; have Q7 := Q6.below hlow7 hQB; have E7 := E6.below hlow7 hEB; have HB7 := Lib.hid (HB6.out.trans (hlow7.mono hwB)); obtain ⟨⟨a8, n8, k8, e8⟩, a9, n9, k9, e9⟩ := hsh7; obtain ⟨ru, rv, rs, rh, rb, rt⟩ := r7; have e8 : rv = .slice a8 n8 k8 := e8; have e9 : rh = .slice a9 n9 k9 := e9; subst e8 e9; clear hto7 q0 q1 q2 z0 z1 z2 z3 z4 z5 l6 m6; have q0 := Q7.c 0 rfl; have q1 := Q7.c 1 rfl; have q2 := Q7.c 2 rfl; have z0 := E7.c 0 rfl; have z1 := E7.c 1 rfl; have z2 := E7.c 2 rfl; have z3 := E7.c 3 rfl; have z4 := E7.c 4 rfl; have z5 := E7.c 5 rfl; have l7 := Q7.lt; have m7 := E7.lt)
            )
          have P8 := AtL.new w7 [.int .i64 kd, .string ru, .slice a8 n8 k8, .int .i64 rs, .slice a9 n9 k9, .string rb, .int .i64 rt, .slice ua7 un7 uc7] 45
          have Q8 := Q7.alloc (.cells #[.int .i64 kd, .string ru, .slice a8 n8 k8, .int .i64 rs, .slice a9 n9 k9, .string rb, .int .i64 rt, .slice ua7 un7 uc7] 45)
          have E8 := E7.alloc (.cells #[.int .i64 kd, .string ru, .slice a8 n8 k8, .int .i64 rs, .slice a9 n9 k9, .string rb, .int .i64 rt, .slice ua7 un7 uc7] 45)
          have B8 := HB7.out.alloc HB7.out.size (.cells #[.int .i64 kd, .string ru, .slice a8 n8 k8, .int .i64 rs, .slice a9 n9 k9, .string rb, .int .i64 rt, .slice ua7 un7 uc7] 45)
          obtain ⟨w8, hw8⟩ : ∃ w8 : World, w7.alloc (.cells #[.int .i64 kd, .string ru, .slice a8 n8 k8, .int .i64 rs, .slice a9 n9 k9, .string rb, .int .i64 rt, .slice ua7 un7 uc7] 45) = w8 := ⟨_, rfl⟩
          obtain ⟨P, hP⟩ : ∃ P, w7.heap.size = P := ⟨_, rfl⟩
          rw [show w7.alloc (.cells [.int .i64 kd, .string ru, .slice a8 n8 k8, .int .i64 rs, .slice a9 n9 k9, .string rb, .int .i64 rt, .slice ua7 un7 uc7].toArray 45) = w8 from hw8] at P8
          rw [hw8] at Q8 E8 B8
          rw [hP] at P8
          rw [hw8, hP]
          have HB8 := Lib.hid B8
          clear hw8 hP B8 q0 q1 q2 z0 z1 z2 z3 z4 z5 l7 m7
          have q0 := Q8.c 0 rfl; have q1 := Q8.c 1 rfl; have q2 := Q8.c 2 rfl
          have z0 := E8.c 0 rfl; have z1 := E8.c 1 rfl; have z2 := E8.c 2 rfl; have z3 := E8.c 3 rfl; have z4 := E8.c 4 rfl; have z5 := E8.c 5 rfl
          have p0 := P8.c 0 rfl; have p1 := P8.c 1 rfl; have p2 := P8.c 2 rfl; have p3 := P8.c 3 rfl; have p4 := P8.c 4 rfl; have p5 := P8.c 5 rfl; have p6 := P8.c 6 rfl; have p7 := P8.c 7 rfl
          have l8 := Q8.lt
          have m8 := E8.lt
          have n8' := P8.lt
          go_upto_region 11 with (go_at_call 14; (with_reducible refine (CD.out _ HB8.out).mono ?_); rintro e w9 ⟨rfl, hb9⟩; have Q9 := Q8.next hb9; have E9 := E8.next hb9; have P9 := P8.next hb9; have D9 := AtL.new w9 [.bool false, .bool d2, .bool d3, .int .i64 d4] 28; have HB9a := Lib.hid (HB8.out.trans (hb9.mono HB8.out.size)))
          have E10 := E9.alloc (.cells #[.bool false, .bool d2, .bool d3, .int .i64 d4] 28)
          have P10 := P9.alloc (.cells #[.bool false, .bool d2, .bool d3, .int .i64 d4] 28)
          have B10 := HB9a.out.alloc HB9a.out.size (.cells #[.bool false, .bool d2, .bool d3, .int .i64 d4] 28)
          obtain ⟨w10, hw10⟩ : ∃ w10 : World, w9.alloc (.cells #[.bool false, .bool d2, .bool d3, .int .i64 d4] 28) = w10 := ⟨_, rfl⟩
          obtain ⟨DB, hDB⟩ : ∃ DB, w9.heap.size = DB := ⟨_, rfl⟩
          rw [show w9.alloc (.cells [.bool false, .bool d2, .bool d3, .int .i64 d4].toArray 28) = w10 from hw10] at D9
          rw [hw10] at E10 P10 B10
          rw [hDB] at D9
          rw [hw10, hDB]
          have HB10 := Lib.hid B10
          clear hw10 hDB B10 q0 q1 q2 z0 z1 z2 z3 z4 z5 p0 p1 p2 p3 p4 p5 p6 p7 l8 m8 n8' Q8 Q9
          have z0 := E10.c 0 rfl; have z1 := E10.c 1 rfl; have z2 := E10.c 2 rfl; have z3 := E10.c 3 rfl; have z4 := E10.c 4 rfl; have z5 := E10.c 5 rfl
          have p0 := P10.c 0 rfl; have p1 := P10.c 1 rfl; have p2 := P10.c 2 rfl; have p3 := P10.c 3 rfl; have p4 := P10.c 4 rfl; have p5 := P10.c 5 rfl; have p6 := P10.c 6 rfl; have p7 := P10.c 7 rfl
          have y0 := D9.c 0 rfl; have y1 := D9.c 1 rfl; have y2 := D9.c 2 rfl; have y3 := D9.c 3 rfl
          have m10 := E10.lt
          have n10 := P10.lt
          have o10 := D9.lt
          refine wp_region_held_drew (S := (fun w' => w'.cell? ⟨E, 3, none⟩ = some (.slice a2 n2 k2) ∧ w'.cell? ⟨E, 5, none⟩ = some (.int .i64 ti) ∧ w'.cell? ⟨DB, 0, none⟩ = some (.bool false) ∧ w'.cell? ⟨DB, 1, none⟩ = some (.bool d2))) (by kernel_rfl) ?_ (fun hHeld => ?_)
          · exact ud_mk E10 D9 (Below.refl _ w10).drew
          refine wpAnyH_take (i := 0) (oi := _) (v := ?vq1_0) (by simp only [List.getElem?_toArray, List.getElem?_cons_succ, List.getElem?_cons_zero]; rfl) (by kernel_rfl) (by kernel_rfl) (by kernel_rfl) (by intro _ _ _ h; exact h) (Or.inl ⟨by rfl, ?hyq1_0⟩) (by assumption) ?restq1_0
          case hyq1_0 => ((intro w hSw; (try dsimp only at hSw); go_simp); try (with_reducible rfl))
          try simp only [Act.put, List.setIfInBounds_toArray, List.set_cons_zero, List.set_cons_succ]
          refine wpAnyH_take (i := 1) (oi := _) (v := ?vq1_1) (by simp only [List.getElem?_toArray, List.getElem?_cons_succ, List.getElem?_cons_zero]; rfl) (by kernel_rfl) (by kernel_rfl) (by kernel_rfl) (by intro _ _ _ h; exact h) (Or.inl ⟨by rfl, ?hyq1_1⟩) (by assumption) ?restq1_1
          case hyq1_1 => ((intro w hSw; (try dsimp only at hSw); go_simp); try (with_reducible rfl))
          try simp only [Act.put, List.setIfInBounds_toArray, List.set_cons_zero, List.set_cons_succ]
          refine wpAnyH_take (i := 2) (oi := _) (v := ?vq1_2) (by simp only [List.getElem?_toArray, List.getElem?_cons_succ, List.getElem?_cons_zero]; rfl) (by kernel_rfl) (by kernel_rfl) (by kernel_rfl) (by intro _ _ _ h; exact h) (Or.inl ⟨by rfl, ?hyq1_2⟩) (by assumption) ?restq1_2
          case hyq1_2 => ((intro w hSw; (try dsimp only at hSw); go_simp); try (with_reducible rfl))
          try simp only [Act.put, List.setIfInBounds_toArray, List.set_cons_zero, List.set_cons_succ]
          refine wpAnyH_take (i := 3) (oi := _) (v := ?vq1_3) (by simp only [List.getElem?_toArray, List.getElem?_cons_succ, List.getElem?_cons_zero]; rfl) (by kernel_rfl) (by kernel_rfl) (by kernel_rfl) (by intro _ _ _ h; exact h) (Or.inl ⟨by rfl, ?hyq1_3⟩) (by assumption) ?restq1_3
          case hyq1_3 => ((intro w hSw; (try dsimp only at hSw); go_simp); try (with_reducible rfl))
          try simp only [Act.put, List.setIfInBounds_toArray, List.set_cons_zero, List.set_cons_succ]
          refine wpAnyH_ready (rs := [4]) (by kernel_rfl) (by simp) ?_
          refine AllReadyH.cons rfl (fun K hK => ?_) AllReadyH.nil
          go_simp
          go_wp2_with (go_at_call 16; (with_reducible refine (CL.out _ HB10.out.drew).mono ?_); rintro e w11 ⟨rfl, hbb11⟩; have hb11 := (Below.refl _ w10).drew.trans hbb11)
          refine hK.out _ _ ?_ (fun hHeld2 => ?_)
          · exact ud_mk E10 D9 hb11
          clear hK K hHeld
          have hHeld := hHeld2
          clear hHeld2
          refine wpAnyH_take (i := 5) (oi := _) (v := ?vq1_5) (by simp only [List.getElem?_toArray, List.getElem?_cons_succ, List.getElem?_cons_zero]; rfl) (by kernel_rfl) (by kernel_rfl) (by kernel_rfl) (by intro _ _ _ h; exact h) (Or.inl ⟨by rfl, ?hyq1_5⟩) (by assumption) ?restq1_5
          case hyq1_5 => ((intro w hSw; (try dsimp only at hSw); go_simp); try (with_reducible rfl))
          try simp only [Act.put, List.setIfInBounds_toArray, List.set_cons_zero, List.set_cons_succ]
          refine wpAnyH_take (i := 6) (oi := _) (v := ?vq1_6) (by simp only [List.getElem?_toArray, List.getElem?_cons_succ, List.getElem?_cons_zero]; rfl) (by kernel_rfl) (by kernel_rfl) (by kernel_rfl) (by intro _ _ _ h; exact h) (Or.inl ⟨by rfl, ?hyq1_6⟩) (by assumption) ?restq1_6
          case hyq1_6 => ((intro w hSw; (try dsimp only at hSw); go_simp); try (with_reducible rfl))
          try simp only [Act.put, List.setIfInBounds_toArray, List.set_cons_zero, List.set_cons_succ]
          refine wpAnyH_take (i := 7) (oi := _) (v := undef) (by simp only [List.getElem?_toArray, List.getElem?_cons_succ, List.getElem?_cons_zero]; rfl) (by kernel_rfl) (by kernel_rfl) (by kernel_rfl) (by intro _ _ _ h; exact h) (Or.inr ⟨by rfl, rfl⟩) (by assumption) ?_
          try simp only [Act.put, List.setIfInBounds_toArray, List.set_cons_zero, List.set_cons_succ]
          refine wpAnyH_take (i := 8) (oi := _) (v := undef) (by simp only [List.getElem?_toArray, List.getElem?_cons_succ, List.getElem?_cons_zero]; rfl) (by kernel_rfl) (by kernel_rfl) (by kernel_rfl) (by intro _ _ _ h; exact h) (Or.inr ⟨by rfl, rfl⟩) (by assumption) ?_
          try simp only [Act.put, List.setIfInBounds_toArray, List.set_cons_zero, List.set_cons_succ]
          refine wpAnyH_take (i := 9) (oi := _) (v := ?vq1_9) (by simp only [List.getElem?_toArray, List.getElem?_cons_succ, List.getElem?_cons_zero]; rfl) (by kernel_rfl) (by kernel_rfl) (by kernel_rfl) (by intro _ _ _ h; exact h) (Or.inl ⟨by rfl, ?hyq1_9⟩) (by assumption) ?restq1_9
          case hyq1_9 => ((intro w hSw; (try dsimp only at hSw); go_simp); try (with_reducible rfl))
          try simp only [Act.put, List.setIfInBounds_toArray, List.set_cons_zero, List.set_cons_succ]
          refine wpAnyH_take (i := 10) (oi := _) (v := ?vq1_10) (by simp only [List.getElem?_toArray, List.getElem?_cons_succ, List.getElem?_cons_zero]; rfl) (by kernel_rfl) (by kernel_rfl) (by kernel_rfl) (by intro _ _ _ h; exact h) (Or.inl ⟨by rfl, ?hyq1_10⟩) (by assumption) ?restq1_10
          case hyq1_10 => ((intro w hSw; (try dsimp only at hSw); go_simp); try (with_reducible rfl))
          try simp only [Act.put, List.setIfInBounds_toArray, List.set_cons_zero, List.set_cons_succ]
          refine wpAnyH_take (i := 11) (oi := _) (v := undef) (by simp only [List.getElem?_toArray, List.getElem?_cons_succ, List.getElem?_cons_zero]; rfl) (by kernel_rfl) (by kernel_rfl) (by kernel_rfl) (by intro _ _ _ h; exact h) (Or.inr ⟨by rfl, rfl⟩) (by assumption) ?_
          try simp only [Act.put, List.setIfInBounds_toArray, List.set_cons_zero, List.set_cons_succ]
          refine wpAnyH_take (i := 12) (oi := _) (v := undef) (by simp only [List.getElem?_toArray, List.getElem?_cons_succ, List.getElem?_cons_zero]; rfl) (by kernel_rfl) (by kernel_rfl) (by kernel_rfl) (by intro _ _ _ h; exact h) (Or.inr ⟨by rfl, rfl⟩) (by assumption) ?_
          try simp only [Act.put, List.setIfInBounds_toArray, List.set_cons_zero, List.set_cons_succ]
          refine wpAnyH_take (i := 13) (oi := _) (v := ?vq1_13) (by simp only [List.getElem?_toArray, List.getElem?_cons_succ, List.getElem?_cons_zero]; rfl) (by kernel_rfl) (by kernel_rfl) (by kernel_rfl) (by intro _ _ _ h; exact h) (Or.inl ⟨by rfl, ?hyq1_13⟩) (by assumption) ?restq1_13
          case hyq1_13 => ((intro w hSw; (try dsimp only at hSw); go_simp); try (with_reducible rfl))
          try simp only [Act.put, List.setIfInBounds_toArray, List.set_cons_zero, List.set_cons_succ]
          refine wpAnyH_take (i := 14) (oi := _) (v := ?vq1_14) (by simp only [List.getElem?_toArray, List.getElem?_cons_succ, List.getElem?_cons_zero]; rfl) (by kernel_rfl) (by kernel_rfl) (by kernel_rfl) (by intro _ _ _ h; exact h) (Or.inl ⟨by rfl, ?hyq1_14⟩) (by assumption) ?restq1_14
          case hyq1_14 => ((intro w hSw; (try dsimp only at hSw); go_simp); try (with_reducible rfl))
          try simp only [Act.put, List.setIfInBounds_toArray, List.set_cons_zero, List.set_cons_succ]
          refine wpAnyH_done (by kernel_rfl) ?_ _
          have E11 := E10.next hb11
          have P11 := P10.next hb11
          have D11 := D9.next hb11
          have HB9 := Lib.hid (HB10.out.trans (hb11.mono HB10.out.size))
          clear z0 z1 z2 z3 z4 z5 p0 p1 p2 p3 p4 p5 p6 p7 y0 y1 y2 y3 hHeld
          have z0 := E11.c 0 rfl; have z1 := E11.c 1 rfl; have z2 := E11.c 2 rfl; have z3 := E11.c 3 rfl; have z4 := E11.c 4 rfl; have z5 := E11.c 5 rfl
          have p0 := P11.c 0 rfl; have p1 := P11.c 1 rfl; have p2 := P11.c 2 rfl; have p3 := P11.c 3 rfl; have p4 := P11.c 4 rfl; have p5 := P11.c 5 rfl; have p6 := P11.c 6 rfl; have p7 := P11.c 7 rfl
          have y0 := D11.c 0 rfl; have y1 := D11.c 1 rfl; have y2 := D11.c 2 rfl; have y3 := D11.c 3 rfl
          have m11 := E11.lt
          have n11 := P11.lt
          have o11 := D11.lt
          have hk2 : ((kd : Int) == 2) = false := by rcases HKF.out (by trivial) with h | h <;> rw [h] <;> rfl
          have hk3 : ((kd : Int) != 2) = true := by rcases HKF.out (by trivial) with h | h <;> rw [h] <;> rfl
          go_wp2_with fail
          go_ret
          exact ⟨rfl, HB9.out⟩
        · have x1' : ti < F := by omega
          have x1d : decide (F ≤ ti) = false := decide_eq_false x1
          have hUF : (!d2 && (decide (d4 < 0) || decide (ti ≤ 1000 * d4))) = U := by rw [← HU.out, decide_eq_true x1', Bool.true_and]
          clear HU
          cases d2 with
          | true =>
            obtain rfl : U = false := by rw [← hUF]; rfl
            clear hUF
            go_enter Tryz.func6, Tryz.ntmps6
            go_upto_region 6 with (first
              | (go_at_call 10; (with_reducible refine CF.out.mono ?_); rintro e w1 ⟨rfl, hb1⟩; have C1 := C0.next hb1; have Q1 := Q0.next hb1; have E1 := E0.next hb1; have hB1 := hb0.trans (hb1.mono hb0.size); clear c0 q0 q1 q2 z0 z1 z2 z3 z4 z5; have c0 := C1.c 0 rfl; have q0 := Q1.c 0 rfl; have q1 := Q1.c 1 rfl; have q2 := Q1.c 2 rfl; have z0 := E1.c 0 rfl; have z1 := E1.c 1 rfl; have z2 := E1.c 2 rfl; have z3 := E1.c 3 rfl; have z4 := E1.c 4 rfl; have z5 := E1.c 5 rfl; have l1 := C1.lt; have m1 := Q1.lt; have o1 := E1.lt)
              | (go_at_call 20; (with_reducible refine (CW.out _ hB1).mono ?_); rintro e w2 ⟨rfl, hb2⟩; have C2 := C1.next hb2; have Q2 := Q1.next hb2; have E2 := E1.next hb2; have hB2 := hB1.trans (hb2.mono hB1.size); clear c0 q0 q1 q2 z0 z1 z2 z3 z4 z5; have c0 := C2.c 0 rfl; have q0 := Q2.c 0 rfl; have q1 := Q2.c 1 rfl; have q2 := Q2.c 2 rfl; have z0 := E2.c 0 rfl; have z1 := E2.c 1 rfl; have z2 := E2.c 2 rfl; have z3 := E2.c 3 rfl; have z4 := E2.c 4 rfl; have z5 := E2.c 5 rfl; have l2 := C2.lt; have m2 := Q2.lt; have o2 := E2.lt)
              | (go_at_call 11; (with_reducible refine (CH.out _ hB2).mono ?_); rintro e w3 ⟨rfl, hb3⟩; have C3 := C2.next hb3; have Q3 := Q2.next hb3; have E3 := E2.next hb3; have hB3 := hB2.trans (hb3.mono hB2.size); clear c0 q0 q1 q2 z0 z1 z2 z3 z4 z5; have c0 := C3.c 0 rfl; have q0 := Q3.c 0 rfl; have q1 := Q3.c 1 rfl; have q2 := Q3.c 2 rfl; have z0 := E3.c 0 rfl; have z1 := E3.c 1 rfl; have z2 := E3.c 2 rfl; have z3 := E3.c 3 rfl; have z4 := E3.c 4 rfl; have z5 := E3.c 5 rfl; have l3 := C3.lt; have m3 := Q3.lt; have o3 := E3.lt)
              | (go_at_call 23; (with_reducible refine (CC.out _ hB3).mono ?_); rintro e w4 hq; obtain ⟨jb, ja, jc, lx, rfl, hjb, hJ, hlx, hb4⟩ := hq; have C4 := C3.next hb4; have Q4 := Q3.next hb4; have E4 := E3.next hb4; have hB4 := hB3.trans (hb4.mono hB3.size); clear c0 q0 q1 q2 z0 z1 z2 z3 z4 z5; have c0 := C4.c 0 rfl; have q0 := Q4.c 0 rfl; have q1 := Q4.c 1 rfl; have q2 := Q4.c 2 rfl; have z0 := E4.c 0 rfl; have z1 := E4.c 1 rfl; have z2 := E4.c 2 rfl; have z3 := E4.c 3 rfl; have z4 := E4.c 4 rfl; have z5 := E4.c 5 rfl; have l4 := C4.lt; have m4 := Q4.lt; have o4 := E4.lt)
              )
            obtain ⟨C, hC⟩ : ∃ C, w.heap.size = C := ⟨_, rfl⟩
            obtain ⟨Q, hQ⟩ : ∃ Q, C + 1 = Q := ⟨_, rfl⟩
            obtain ⟨E, hE⟩ : ∃ E, C + 1 + 1 = E := ⟨_, rfl⟩
            obtain ⟨B, hB⟩ : ∃ B, w3.heap.size = B := ⟨_, rfl⟩
            rw [hC] at C4 Q4 E4 l3 m3 o3
            rw [hE] at E4 o3
            rw [hQ] at Q4 m3
            rw [hB] at hjb l3 m3 o3 hJ
            rw [hC, hE, hQ]
            have HCC := Lib.hid hC
            have hwB : w.heap.size ≤ B := by omega
            have hCB : C < B := l3
            have hQB : Q < B := m3
            have hEB : E < B := o3
            have HJ := Lib.hid hJ
            have HLXE := Lib.hid hlx
            have HB4 := Lib.hid hB4
            clear hC hQ hE hB hJ hlx hB4 C0 Q0 E0 C1 C2 C3 Q1 Q2 Q3 E1 E2 E3 hb0 hb1 hb2 hb3 hB1 hB2 hB3 cl ql el l1 m1 o1 l2 m2 o2 l3 m3 o3 l4 m4 o4 c0 q0 q1 q2 z0 z1 z2 z3 z4 z5
            have c0 := C4.c 0 rfl
            have q0 := Q4.c 0 rfl; have q1 := Q4.c 1 rfl; have q2 := Q4.c 2 rfl
            have z0 := E4.c 0 rfl; have z1 := E4.c 1 rfl; have z2 := E4.c 2 rfl; have z3 := E4.c 3 rfl; have z4 := E4.c 4 rfl; have z5 := E4.c 5 rfl
            have l4 := C4.lt
            have m4 := Q4.lt
            have o4 := E4.lt
            go_upto_region 8 with (first
              | (go_at_call 29; (with_reducible refine (CP.out _ _ _ _ _ _ _ HLXE.out HB4.out hjb hwB HJ.out (HH.out.below HB4.out (Nat.le_refl _)) (far_old HH.out (Nat.le_trans hwB hjb) (fun g e => Nat.le_trans hwB (own_base HJ.out.own e)))).mono ?_); rintro e w6 hq6; obtain ⟨rfl, lp, hto6, hlp⟩ := hq6; have hlow6 := hto6.lowB HJ.out hjb; obtain ⟨a6, c6, J6, -, hR6⟩ := hto6.out; have HJ6 := Lib.hid J6; have HLP := Lib.hid hlp; have HB6 := Lib.hid (HB4.out.trans (hlow6.mono hwB)); have Q6 := Q4.below hlow6 hQB; have E6 := E4.below hlow6 hEB; clear hto6 J6 hlp c0 q0 q1 q2 z0 z1 z2 z3 z4 z5 l4 m4 o4; have q0 := Q6.c 0 rfl; have q1 := Q6.c 1 rfl; have q2 := Q6.c 2 rfl; have z0 := E6.c 0 rfl; have z1 := E6.c 1 rfl; have z2 := E6.c 2 rfl; have z3 := E6.c 3 rfl; have z4 := E6.c 4 rfl; have z5 := E6.c 5 rfl; have l6 := Q6.lt; have m6 := E6.lt)
              | (go_at_call 24; (with_reducible refine (CK.out _ _ _ _ _ _ HB6.out HJ6.out HLP.out).mono ?_); rintro e w7 hq7; obtain ⟨r7, kd, ua7, un7, uc7, rfl, hsh7, hk7t, hk7f, lq, hto7⟩ := hq7; have HKT := Lib.hid hk7t; have HKF := Lib.hid hk7f; clear hk7t hk7f; have hlow7 := hto7.lowB HJ6.out hjb; have Q7 := Q6.below hlow7 hQB; have E7 := E6.below hlow7 hEB; have HB7 := Lib.hid (HB6.out.trans (hlow7.mono hwB)); obtain ⟨⟨a8, n8, k8, e8⟩, a9, n9, k9, e9⟩ := hsh7; obtain ⟨ru, rv, rs, rh, rb, rt⟩ := r7; have e8 : rv = .slice a8 n8 k8 := e8; have e9 : rh = .slice a9 n9 k9 := e9; subst e8 e9; clear hto7 q0 q1 q2 z0 z1 z2 z3 z4 z5 l6 m6; have q0 := Q7.c 0 rfl; have q1 := Q7.c 1 rfl; have q2 := Q7.c 2 rfl; have z0 := E7.c 0 rfl; have z1 := E7.c 1 rfl; have z2 := E7.c 2 rfl; have z3 := E7.c 3 rfl; have z4 := E7.c 4 rfl; have z5 := E7.c 5 rfl; have l7 := Q7.lt; have m7 := E7.lt)
              )
            have P8 := AtL.new w7 [.int .i64 kd, .string ru, .slice a8 n8 k8, .int .i64 rs, .slice a9 n9 k9, .string rb, .int .i64 rt, .slice ua7 un7 uc7] 45
            have Q8 := Q7.alloc (.cells #[.int .i64 kd, .string ru, .slice a8 n8 k8, .int .i64 rs, .slice a9 n9 k9, .string rb, .int .i64 rt, .slice ua7 un7 uc7] 45)
            have E8 := E7.alloc (.cells #[.int .i64 kd, .string ru, .slice a8 n8 k8, .int .i64 rs, .slice a9 n9 k9, .string rb, .int .i64 rt, .slice ua7 un7 uc7] 45)
            have B8 := HB7.out.alloc HB7.out.size (.cells #[.int .i64 kd, .string ru, .slice a8 n8 k8, .int .i64 rs, .slice a9 n9 k9, .string rb, .int .i64 rt, .slice ua7 un7 uc7] 45)
            obtain ⟨w8, hw8⟩ : ∃ w8 : World, w7.alloc (.cells #[.int .i64 kd, .string ru, .slice a8 n8 k8, .int .i64 rs, .slice a9 n9 k9, .string rb, .int .i64 rt, .slice ua7 un7 uc7] 45) = w8 := ⟨_, rfl⟩
            obtain ⟨P, hP⟩ : ∃ P, w7.heap.size = P := ⟨_, rfl⟩
            rw [show w7.alloc (.cells [.int .i64 kd, .string ru, .slice a8 n8 k8, .int .i64 rs, .slice a9 n9 k9, .string rb, .int .i64 rt, .slice ua7 un7 uc7].toArray 45) = w8 from hw8] at P8
            rw [hw8] at Q8 E8 B8
            rw [hP] at P8
            rw [hw8, hP]
            have HB8 := Lib.hid B8
            clear hw8 hP B8 q0 q1 q2 z0 z1 z2 z3 z4 z5 l7 m7
            have q0 := Q8.c 0 rfl; have q1 := Q8.c 1 rfl; have q2 := Q8.c 2 rfl
            have z0 := E8.c 0 rfl; have z1 := E8.c 1 rfl; have z2 := E8.c 2 rfl; have z3 := E8.c 3 rfl; have z4 := E8.c 4 rfl; have z5 := E8.c 5 rfl
            have p0 := P8.c 0 rfl; have p1 := P8.c 1 rfl; have p2 := P8.c 2 rfl; have p3 := P8.c 3 rfl; have p4 := P8.c 4 rfl; have p5 := P8.c 5 rfl; have p6 := P8.c 6 rfl; have p7 := P8.c 7 rfl
            have l8 := Q8.lt
            have m8 := E8.lt
            have n8' := P8.lt
            go_upto_region 11 with (go_at_call 14; (with_reducible refine (CD.out _ HB8.out).mono ?_); rintro e w9 ⟨rfl, hb9⟩; have Q9 := Q8.next hb9; have E9 := E8.next hb9; have P9 := P8.next hb9; have D9 := AtL.new w9 [.bool false, .bool true, .bool d3, .int .i64 d4] 28; have HB9a := Lib.hid (HB8.out.trans (hb9.mono HB8.out.size)))
            have E10 := E9.alloc (.cells #[.bool false, .bool true, .bool d3, .int .i64 d4] 28)
            have P10 := P9.alloc (.cells #[.bool false, .bool true, .bool d3, .int .i64 d4] 28)
            have B10 := HB9a.out.alloc HB9a.out.size (.cells #[.bool false, .bool true, .bool d3, .int .i64 d4] 28)
            obtain ⟨w10, hw10⟩ : ∃ w10 : World, w9.alloc (.cells #[.bool false, .bool true, .bool d3, .int .i64 d4] 28) = w10 := ⟨_, rfl⟩
            obtain ⟨DB, hDB⟩ : ∃ DB, w9.heap.size = DB := ⟨_, rfl⟩
            rw [show w9.alloc (.cells [.bool false, .bool true, .bool d3, .int .i64 d4].toArray 28) = w10 from hw10] at D9
            rw [hw10] at E10 P10 B10
            rw [hDB] at D9
            rw [hw10, hDB]
            have HB10 := Lib.hid B10
            clear hw10 hDB B10 q0 q1 q2 z0 z1 z2 z3 z4 z5 p0 p1 p2 p3 p4 p5 p6 p7 l8 m8 n8' Q8 Q9
            have z0 := E10.c 0 rfl; have z1 := E10.c 1 rfl; have z2 := E10.c 2 rfl; have z3 := E10.c 3 rfl; have z4 := E10.c 4 rfl; have z5 := E10.c 5 rfl
            have p0 := P10.c 0 rfl; have p1 := P10.c 1 rfl; have p2 := P10.c 2 rfl; have p3 := P10.c 3 rfl; have p4 := P10.c 4 rfl; have p5 := P10.c 5 rfl; have p6 := P10.c 6 rfl; have p7 := P10.c 7 rfl
            have y0 := D9.c 0 rfl; have y1 := D9.c 1 rfl; have y2 := D9.c 2 rfl; have y3 := D9.c 3 rfl
            have m10 := E10.lt
            have n10 := P10.lt
            have o10 := D9.lt
            refine wp_region_held_drew (S := (fun w' => w'.cell? ⟨E, 3, none⟩ = some (.slice a2 n2 k2) ∧ w'.cell? ⟨E, 5, none⟩ = some (.int .i64 ti) ∧ w'.cell? ⟨DB, 0, none⟩ = some (.bool false) ∧ w'.cell? ⟨DB, 1, none⟩ = some (.bool true))) (by kernel_rfl) ?_ (fun hHeld => ?_)
            · exact ud_mk E10 D9 (Below.refl _ w10).drew
            refine wpAnyH_take (i := 0) (oi := _) (v := ?vq2_0) (by simp only [List.getElem?_toArray, List.getElem?_cons_succ, List.getElem?_cons_zero]; rfl) (by kernel_rfl) (by kernel_rfl) (by kernel_rfl) (by intro _ _ _ h; exact h) (Or.inl ⟨by rfl, ?hyq2_0⟩) (by assumption) ?restq2_0
            case hyq2_0 => ((intro w hSw; (try dsimp only at hSw); go_simp); try (with_reducible rfl))
            try simp only [Act.put, List.setIfInBounds_toArray, List.set_cons_zero, List.set_cons_succ]
            refine wpAnyH_take (i := 1) (oi := _) (v := ?vq2_1) (by simp only [List.getElem?_toArray, List.getElem?_cons_succ, List.getElem?_cons_zero]; rfl) (by kernel_rfl) (by kernel_rfl) (by kernel_rfl) (by intro _ _ _ h; exact h) (Or.inl ⟨by rfl, ?hyq2_1⟩) (by assumption) ?restq2_1
            case hyq2_1 => ((intro w hSw; (try dsimp only at hSw); go_simp); try (with_reducible rfl))
            try simp only [Act.put, List.setIfInBounds_toArray, List.set_cons_zero, List.set_cons_succ]
            refine wpAnyH_take (i := 2) (oi := _) (v := ?vq2_2) (by simp only [List.getElem?_toArray, List.getElem?_cons_succ, List.getElem?_cons_zero]; rfl) (by kernel_rfl) (by kernel_rfl) (by kernel_rfl) (by intro _ _ _ h; exact h) (Or.inl ⟨by rfl, ?hyq2_2⟩) (by assumption) ?restq2_2
            case hyq2_2 => ((intro w hSw; (try dsimp only at hSw); go_simp); try (with_reducible rfl))
            try simp only [Act.put, List.setIfInBounds_toArray, List.set_cons_zero, List.set_cons_succ]
            refine wpAnyH_take (i := 3) (oi := _) (v := ?vq2_3) (by simp only [List.getElem?_toArray, List.getElem?_cons_succ, List.getElem?_cons_zero]; rfl) (by kernel_rfl) (by kernel_rfl) (by kernel_rfl) (by intro _ _ _ h; exact h) (Or.inl ⟨by rfl, ?hyq2_3⟩) (by assumption) ?restq2_3
            case hyq2_3 => ((intro w hSw; (try dsimp only at hSw); go_simp); try (with_reducible rfl))
            try simp only [Act.put, List.setIfInBounds_toArray, List.set_cons_zero, List.set_cons_succ]
            refine wpAnyH_ready (rs := [4]) (by kernel_rfl) (by simp) ?_
            refine AllReadyH.cons rfl (fun K hK => ?_) AllReadyH.nil
            go_simp
            go_wp2_with (go_at_call 16; (with_reducible refine (CL.out _ HB10.out.drew).mono ?_); rintro e w11 ⟨rfl, hbb11⟩; have hb11 := (Below.refl _ w10).drew.trans hbb11)
            refine hK.out _ _ ?_ (fun hHeld2 => ?_)
            · exact ud_mk E10 D9 hb11
            clear hK K hHeld
            have hHeld := hHeld2
            clear hHeld2
            refine wpAnyH_take (i := 5) (oi := _) (v := ?vq2_5) (by simp only [List.getElem?_toArray, List.getElem?_cons_succ, List.getElem?_cons_zero]; rfl) (by kernel_rfl) (by kernel_rfl) (by kernel_rfl) (by intro _ _ _ h; exact h) (Or.inl ⟨by rfl, ?hyq2_5⟩) (by assumption) ?restq2_5
            case hyq2_5 => ((intro w hSw; (try dsimp only at hSw); go_simp); try (with_reducible rfl))
            try simp only [Act.put, List.setIfInBounds_toArray, List.set_cons_zero, List.set_cons_succ]
            refine wpAnyH_take (i := 6) (oi := _) (v := ?vq2_6) (by simp only [List.getElem?_toArray, List.getElem?_cons_succ, List.getElem?_cons_zero]; rfl) (by kernel_rfl) (by kernel_rfl) (by kernel_rfl) (by intro _ _ _ h; exact h) (Or.inl ⟨by rfl, ?hyq2_6⟩) (by assumption) ?restq2_6
            case hyq2_6 => ((intro w hSw; (try dsimp only at hSw); go_simp); try (with_reducible rfl))
            try simp only [Act.put, List.setIfInBounds_toArray, List.set_cons_zero, List.set_cons_succ]
            refine wpAnyH_take (i := 7) (oi := _) (v := ?vq2_7) (by simp only [List.getElem?_toArray, List.getElem?_cons_succ, List.getElem?_cons_zero]; rfl) (by kernel_rfl) (by kernel_rfl) (by kernel_rfl) (by intro _ _ _ h; exact h) (Or.inl ⟨by rfl, ?hyq2_7⟩) (by assumption) ?restq2_7
            case hyq2_7 => ((intro w hSw; (try dsimp only at hSw); go_simp); try (with_reducible rfl))
            try simp only [Act.put, List.setIfInBounds_toArray, List.set_cons_zero, List.set_cons_succ]
            refine wpAnyH_take (i := 8) (oi := _) (v := ?vq2_8) (by simp only [List.getElem?_toArray, List.getElem?_cons_succ, List.getElem?_cons_zero]; rfl) (by kernel_rfl) (by kernel_rfl) (by kernel_rfl) (by intro _ _ _ h; exact h) (Or.inl ⟨by rfl, ?hyq2_8⟩) (by assumption) ?restq2_8
            case hyq2_8 => ((intro w hSw; (try dsimp only at hSw); go_simp); try (with_reducible rfl))
            try simp only [Act.put, List.setIfInBounds_toArray, List.set_cons_zero, List.set_cons_succ]
            refine wpAnyH_take (i := 9) (oi := _) (v := ?vq2_9) (by simp only [List.getElem?_toArray, List.getElem?_cons_succ, List.getElem?_cons_zero]; rfl) (by kernel_rfl) (by kernel_rfl) (by kernel_rfl) (by intro _ _ _ h; exact h) (Or.inl ⟨by rfl, ?hyq2_9⟩) (by assumption) ?restq2_9
            case hyq2_9 => ((intro w hSw; (try dsimp only at hSw); go_simp); try (with_reducible rfl))
            try simp only [Act.put, List.setIfInBounds_toArray, List.set_cons_zero, List.set_cons_succ]
            refine wpAnyH_take (i := 10) (oi := _) (v := ?vq2_10) (by simp only [List.getElem?_toArray, List.getElem?_cons_succ, List.getElem?_cons_zero]; rfl) (by kernel_rfl) (by kernel_rfl) (by kernel_rfl) (by intro _ _ _ h; exact h) (Or.inl ⟨by rfl, ?hyq2_10⟩) (by assumption) ?restq2_10
            case hyq2_10 => ((intro w hSw; (try dsimp only at hSw); go_simp); try (with_reducible rfl))
            try simp only [Act.put, List.setIfInBounds_toArray, List.set_cons_zero, List.set_cons_succ]
            refine wpAnyH_take (i := 11) (oi := _) (v := undef) (by simp only [List.getElem?_toArray, List.getElem?_cons_succ, List.getElem?_cons_zero]; rfl) (by kernel_rfl) (by kernel_rfl) (by kernel_rfl) (by intro _ _ _ h; exact h) (Or.inr ⟨by rfl, rfl⟩) (by assumption) ?_
            try simp only [Act.put, List.setIfInBounds_toArray, List.set_cons_zero, List.set_cons_succ]
            refine wpAnyH_take (i := 12) (oi := _) (v := undef) (by simp only [List.getElem?_toArray, List.getElem?_cons_succ, List.getElem?_cons_zero]; rfl) (by kernel_rfl) (by kernel_rfl) (by kernel_rfl) (by intro _ _ _ h; exact h) (Or.inr ⟨by rfl, rfl⟩) (by assumption) ?_
            try simp only [Act.put, List.setIfInBounds_toArray, List.set_cons_zero, List.set_cons_succ]
            refine wpAnyH_take (i := 13) (oi := _) (v := ?vq2_13) (by simp only [List.getElem?_toArray, List.getElem?_cons_succ, List.getElem?_cons_zero]; rfl) (by kernel_rfl) (by kernel_rfl) (by kernel_rfl) (by intro _ _ _ h; exact h) (Or.inl ⟨by rfl, ?hyq2_13⟩) (by assumption) ?restq2_13
            case hyq2_13 => ((intro w hSw; (try dsimp only at hSw); go_simp); try (with_reducible rfl))
            try simp only [Act.put, List.setIfInBounds_toArray, List.set_cons_zero, List.set_cons_succ]
            refine wpAnyH_take (i := 14) (oi := _) (v := ?vq2_14) (by simp only [List.getElem?_toArray, List.getElem?_cons_succ, List.getElem?_cons_zero]; rfl) (by kernel_rfl) (by kernel_rfl) (by kernel_rfl) (by intro _ _ _ h; exact h) (Or.inl ⟨by rfl, ?hyq2_14⟩) (by assumption) ?restq2_14
            case hyq2_14 => ((intro w hSw; (try dsimp only at hSw); go_simp); try (with_reducible rfl))
            try simp only [Act.put, List.setIfInBounds_toArray, List.set_cons_zero, List.set_cons_succ]
            refine wpAnyH_done (by kernel_rfl) ?_ _
            have E11 := E10.next hb11
            have P11 := P10.next hb11
            have D11 := D9.next hb11
            have HB9 := Lib.hid (HB10.out.trans (hb11.mono HB10.out.size))
            clear z0 z1 z2 z3 z4 z5 p0 p1 p2 p3 p4 p5 p6 p7 y0 y1 y2 y3 hHeld
            have z0 := E11.c 0 rfl; have z1 := E11.c 1 rfl; have z2 := E11.c 2 rfl; have z3 := E11.c 3 rfl; have z4 := E11.c 4 rfl; have z5 := E11.c 5 rfl
            have p0 := P11.c 0 rfl; have p1 := P11.c 1 rfl; have p2 := P11.c 2 rfl; have p3 := P11.c 3 rfl; have p4 := P11.c 4 rfl; have p5 := P11.c 5 rfl; have p6 := P11.c 6 rfl; have p7 := P11.c 7 rfl
            have y0 := D11.c 0 rfl; have y1 := D11.c 1 rfl; have y2 := D11.c 2 rfl; have y3 := D11.c 3 rfl
            have m11 := E11.lt
            have n11 := P11.lt
            have o11 := D11.lt
            have hk2 : ((kd : Int) == 2) = false := by rcases HKF.out (by trivial) with h | h <;> rw [h] <;> rfl
            have hk3 : ((kd : Int) != 2) = true := by rcases HKF.out (by trivial) with h | h <;> rw [h] <;> rfl
            go_wp2_with fail
            go_ret
            exact ⟨rfl, HB9.out⟩
          | false =>
            by_cases x4 : d4 < 0
            · have x4d : decide (d4 < 0) = true := decide_eq_true x4
              obtain rfl : U = true := by rw [← hUF, x4d]; rfl
              clear hUF
              go_enter Tryz.func6, Tryz.ntmps6
              go_upto_region 6 with (first
                | (go_at_call 10; (with_reducible refine CF.out.mono ?_); rintro e w1 ⟨rfl, hb1⟩; have C1 := C0.next hb1; have Q1 := Q0.next hb1; have E1 := E0.next hb1; have hB1 := hb0.trans (hb1.mono hb0.size); clear c0 q0 q1 q2 z0 z1 z2 z3 z4 z5; have c0 := C1.c 0 rfl; have q0 := Q1.c 0 rfl; have q1 := Q1.c 1 rfl; have q2 := Q1.c 2 rfl; have z0 := E1.c 0 rfl; have z1 := E1.c 1 rfl; have z2 := E1.c 2 rfl; have z3 := E1.c 3 rfl; have z4 := E1.c 4 rfl; have z5 := E1.c 5 rfl; have l1 := C1.lt; have m1 := Q1.lt; have o1 := E1.lt)
                | (go_at_call 20; (with_reducible refine (CW.out _ hB1).mono ?_); rintro e w2 ⟨rfl, hb2⟩; have C2 := C1.next hb2; have Q2 := Q1.next hb2; have E2 := E1.next hb2; have hB2 := hB1.trans (hb2.mono hB1.size); clear c0 q0 q1 q2 z0 z1 z2 z3 z4 z5; have c0 := C2.c 0 rfl; have q0 := Q2.c 0 rfl; have q1 := Q2.c 1 rfl; have q2 := Q2.c 2 rfl; have z0 := E2.c 0 rfl; have z1 := E2.c 1 rfl; have z2 := E2.c 2 rfl; have z3 := E2.c 3 rfl; have z4 := E2.c 4 rfl; have z5 := E2.c 5 rfl; have l2 := C2.lt; have m2 := Q2.lt; have o2 := E2.lt)
                | (go_at_call 11; (with_reducible refine (CH.out _ hB2).mono ?_); rintro e w3 ⟨rfl, hb3⟩; have C3 := C2.next hb3; have Q3 := Q2.next hb3; have E3 := E2.next hb3; have hB3 := hB2.trans (hb3.mono hB2.size); clear c0 q0 q1 q2 z0 z1 z2 z3 z4 z5; have c0 := C3.c 0 rfl; have q0 := Q3.c 0 rfl; have q1 := Q3.c 1 rfl; have q2 := Q3.c 2 rfl; have z0 := E3.c 0 rfl; have z1 := E3.c 1 rfl; have z2 := E3.c 2 rfl; have z3 := E3.c 3 rfl; have z4 := E3.c 4 rfl; have z5 := E3.c 5 rfl; have l3 := C3.lt; have m3 := Q3.lt; have o3 := E3.lt)
                | (go_at_call 23; (with_reducible refine (CC.out _ hB3).mono ?_); rintro e w4 hq; obtain ⟨jb, ja, jc, lx, rfl, hjb, hJ, hlx, hb4⟩ := hq; have C4 := C3.next hb4; have Q4 := Q3.next hb4; have E4 := E3.next hb4; have hB4 := hB3.trans (hb4.mono hB3.size); clear c0 q0 q1 q2 z0 z1 z2 z3 z4 z5; have c0 := C4.c 0 rfl; have q0 := Q4.c 0 rfl; have q1 := Q4.c 1 rfl; have q2 := Q4.c 2 rfl; have z0 := E4.c 0 rfl; have z1 := E4.c 1 rfl; have z2 := E4.c 2 rfl; have z3 := E4.c 3 rfl; have z4 := E4.c 4 rfl; have z5 := E4.c 5 rfl; have l4 := C4.lt; have m4 := Q4.lt; have o4 := E4.lt)
                )
              obtain ⟨C, hC⟩ : ∃ C, w.heap.size = C := ⟨_, rfl⟩
              obtain ⟨Q, hQ⟩ : ∃ Q, C + 1 = Q := ⟨_, rfl⟩
              obtain ⟨E, hE⟩ : ∃ E, C + 1 + 1 = E := ⟨_, rfl⟩
              obtain ⟨B, hB⟩ : ∃ B, w3.heap.size = B := ⟨_, rfl⟩
              rw [hC] at C4 Q4 E4 l3 m3 o3
              rw [hE] at E4 o3
              rw [hQ] at Q4 m3
              rw [hB] at hjb l3 m3 o3 hJ
              rw [hC, hE, hQ]
              have HCC := Lib.hid hC
              have hwB : w.heap.size ≤ B := by omega
              have hCB : C < B := l3
              have hQB : Q < B := m3
              have hEB : E < B := o3
              have HJ := Lib.hid hJ
              have HLXE := Lib.hid hlx
              have HB4 := Lib.hid hB4
              clear hC hQ hE hB hJ hlx hB4 C0 Q0 E0 C1 C2 C3 Q1 Q2 Q3 E1 E2 E3 hb0 hb1 hb2 hb3 hB1 hB2 hB3 cl ql el l1 m1 o1 l2 m2 o2 l3 m3 o3 l4 m4 o4 c0 q0 q1 q2 z0 z1 z2 z3 z4 z5
              have c0 := C4.c 0 rfl
              have q0 := Q4.c 0 rfl; have q1 := Q4.c 1 rfl; have q2 := Q4.c 2 rfl
              have z0 := E4.c 0 rfl; have z1 := E4.c 1 rfl; have z2 := E4.c 2 rfl; have z3 := E4.c 3 rfl; have z4 := E4.c 4 rfl; have z5 := E4.c 5 rfl
              have l4 := C4.lt
              have m4 := Q4.lt
              have o4 := E4.lt
              go_upto_region 8 with (first
                | (go_at_call 29; (with_reducible refine (CP.out _ _ _ _ _ _ _ HLXE.out HB4.out hjb hwB HJ.out (HH.out.below HB4.out (Nat.le_refl _)) (far_old HH.out (Nat.le_trans hwB hjb) (fun g e => Nat.le_trans hwB (own_base HJ.out.own e)))).mono ?_); rintro e w6 hq6; obtain ⟨rfl, lp, hto6, hlp⟩ := hq6; have hlow6 := hto6.lowB HJ.out hjb; obtain ⟨a6, c6, J6, -, hR6⟩ := hto6.out; have HJ6 := Lib.hid J6; have HLP := Lib.hid hlp; have HB6 := Lib.hid (HB4.out.trans (hlow6.mono hwB)); have Q6 := Q4.below hlow6 hQB; have E6 := E4.below hlow6 hEB; clear hto6 J6 hlp c0 q0 q1 q2 z0 z1 z2 z3 z4 z5 l4 m4 o4; have q0 := Q6.c 0 rfl; have q1 := Q6.c 1 rfl; have q2 := Q6.c 2 rfl; have z0 := E6.c 0 rfl; have z1 := E6.c 1 rfl; have z2 := E6.c 2 rfl; have z3 := E6.c 3 rfl; have z4 := E6.c 4 rfl; have z5 := E6.c 5 rfl; have l6 := Q6.lt; have m6 := E6.lt)
                | (go_at_call 24; (with_reducible refine (CK.out _ _ _ _ _ _ HB6.out HJ6.out HLP.out).mono ?_); rintro e w7 hq7; obtain ⟨r7, kd, ua7, un7, uc7, rfl, hsh7, hk7t, hk7f, lq, hto7⟩ := hq7; have HKT := Lib.hid hk7t; have HKF := Lib.hid hk7f; clear hk7t hk7f; have hlow7 := hto7.lowB HJ6.out hjb; have Q7 := Q6.below hlow7 hQB; have E7 := E6.below hlow7 hEB; have HB7 := Lib.hid (HB6.out.trans (hlow7.mono hwB)); obtain ⟨⟨a8, n8, k8, e8⟩, a9, n9, k9, e9⟩ := hsh7; obtain ⟨ru, rv, rs, rh, rb, rt⟩ := r7; have e8 : rv = .slice a8 n8 k8 := e8; have e9 : rh = .slice a9 n9 k9 := e9; subst e8 e9; clear hto7 q0 q1 q2 z0 z1 z2 z3 z4 z5 l6 m6; have q0 := Q7.c 0 rfl; have q1 := Q7.c 1 rfl; have q2 := Q7.c 2 rfl; have z0 := E7.c 0 rfl; have z1 := E7.c 1 rfl; have z2 := E7.c 2 rfl; have z3 := E7.c 3 rfl; have z4 := E7.c 4 rfl; have z5 := E7.c 5 rfl; have l7 := Q7.lt; have m7 := E7.lt)
                )
              have P8 := AtL.new w7 [.int .i64 kd, .string ru, .slice a8 n8 k8, .int .i64 rs, .slice a9 n9 k9, .string rb, .int .i64 rt, .slice ua7 un7 uc7] 45
              have Q8 := Q7.alloc (.cells #[.int .i64 kd, .string ru, .slice a8 n8 k8, .int .i64 rs, .slice a9 n9 k9, .string rb, .int .i64 rt, .slice ua7 un7 uc7] 45)
              have E8 := E7.alloc (.cells #[.int .i64 kd, .string ru, .slice a8 n8 k8, .int .i64 rs, .slice a9 n9 k9, .string rb, .int .i64 rt, .slice ua7 un7 uc7] 45)
              have B8 := HB7.out.alloc HB7.out.size (.cells #[.int .i64 kd, .string ru, .slice a8 n8 k8, .int .i64 rs, .slice a9 n9 k9, .string rb, .int .i64 rt, .slice ua7 un7 uc7] 45)
              obtain ⟨w8, hw8⟩ : ∃ w8 : World, w7.alloc (.cells #[.int .i64 kd, .string ru, .slice a8 n8 k8, .int .i64 rs, .slice a9 n9 k9, .string rb, .int .i64 rt, .slice ua7 un7 uc7] 45) = w8 := ⟨_, rfl⟩
              obtain ⟨P, hP⟩ : ∃ P, w7.heap.size = P := ⟨_, rfl⟩
              rw [show w7.alloc (.cells [.int .i64 kd, .string ru, .slice a8 n8 k8, .int .i64 rs, .slice a9 n9 k9, .string rb, .int .i64 rt, .slice ua7 un7 uc7].toArray 45) = w8 from hw8] at P8
              rw [hw8] at Q8 E8 B8
              rw [hP] at P8
              rw [hw8, hP]
              have HB8 := Lib.hid B8
              clear hw8 hP B8 q0 q1 q2 z0 z1 z2 z3 z4 z5 l7 m7
              have q0 := Q8.c 0 rfl; have q1 := Q8.c 1 rfl; have q2 := Q8.c 2 rfl
              have z0 := E8.c 0 rfl; have z1 := E8.c 1 rfl; have z2 := E8.c 2 rfl; have z3 := E8.c 3 rfl; have z4 := E8.c 4 rfl; have z5 := E8.c 5 rfl
              have p0 := P8.c 0 rfl; have p1 := P8.c 1 rfl; have p2 := P8.c 2 rfl; have p3 := P8.c 3 rfl; have p4 := P8.c 4 rfl; have p5 := P8.c 5 rfl; have p6 := P8.c 6 rfl; have p7 := P8.c 7 rfl
              have l8 := Q8.lt
              have m8 := E8.lt
              have n8' := P8.lt
              go_upto_region 11 with (go_at_call 14; (with_reducible refine (CD.out _ HB8.out).mono ?_); rintro e w9 ⟨rfl, hb9⟩; have Q9 := Q8.next hb9; have E9 := E8.next hb9; have P9 := P8.next hb9; have D9 := AtL.new w9 [.bool false, .bool false, .bool d3, .int .i64 d4] 28; have HB9a := Lib.hid (HB8.out.trans (hb9.mono HB8.out.size)))
              have E10 := E9.alloc (.cells #[.bool false, .bool false, .bool d3, .int .i64 d4] 28)
              have P10 := P9.alloc (.cells #[.bool false, .bool false, .bool d3, .int .i64 d4] 28)
              have B10 := HB9a.out.alloc HB9a.out.size (.cells #[.bool false, .bool false, .bool d3, .int .i64 d4] 28)
              obtain ⟨w10, hw10⟩ : ∃ w10 : World, w9.alloc (.cells #[.bool false, .bool false, .bool d3, .int .i64 d4] 28) = w10 := ⟨_, rfl⟩
              obtain ⟨DB, hDB⟩ : ∃ DB, w9.heap.size = DB := ⟨_, rfl⟩
              rw [show w9.alloc (.cells [.bool false, .bool false, .bool d3, .int .i64 d4].toArray 28) = w10 from hw10] at D9
              rw [hw10] at E10 P10 B10
              rw [hDB] at D9
              rw [hw10, hDB]
              have HB10 := Lib.hid B10
              clear hw10 hDB B10 q0 q1 q2 z0 z1 z2 z3 z4 z5 p0 p1 p2 p3 p4 p5 p6 p7 l8 m8 n8' Q8 Q9
              have z0 := E10.c 0 rfl; have z1 := E10.c 1 rfl; have z2 := E10.c 2 rfl; have z3 := E10.c 3 rfl; have z4 := E10.c 4 rfl; have z5 := E10.c 5 rfl
              have p0 := P10.c 0 rfl; have p1 := P10.c 1 rfl; have p2 := P10.c 2 rfl; have p3 := P10.c 3 rfl; have p4 := P10.c 4 rfl; have p5 := P10.c 5 rfl; have p6 := P10.c 6 rfl; have p7 := P10.c 7 rfl
              have y0 := D9.c 0 rfl; have y1 := D9.c 1 rfl; have y2 := D9.c 2 rfl; have y3 := D9.c 3 rfl
              have m10 := E10.lt
              have n10 := P10.lt
              have o10 := D9.lt
              refine wp_region_held_drew (S := (fun w' => w'.cell? ⟨E, 3, none⟩ = some (.slice a2 n2 k2) ∧ w'.cell? ⟨E, 5, none⟩ = some (.int .i64 ti) ∧ w'.cell? ⟨DB, 0, none⟩ = some (.bool false) ∧ w'.cell? ⟨DB, 1, none⟩ = some (.bool false))) (by kernel_rfl) ?_ (fun hHeld => ?_)
              · exact ud_mk E10 D9 (Below.refl _ w10).drew
              refine wpAnyH_take (i := 0) (oi := _) (v := ?vq3_0) (by simp only [List.getElem?_toArray, List.getElem?_cons_succ, List.getElem?_cons_zero]; rfl) (by kernel_rfl) (by kernel_rfl) (by kernel_rfl) (by intro _ _ _ h; exact h) (Or.inl ⟨by rfl, ?hyq3_0⟩) (by assumption) ?restq3_0
              case hyq3_0 => ((intro w hSw; (try dsimp only at hSw); go_simp); try (with_reducible rfl))
              try simp only [Act.put, List.setIfInBounds_toArray, List.set_cons_zero, List.set_cons_succ]
              refine wpAnyH_take (i := 1) (oi := _) (v := ?vq3_1) (by simp only [List.getElem?_toArray, List.getElem?_cons_succ, List.getElem?_cons_zero]; rfl) (by kernel_rfl) (by kernel_rfl) (by kernel_rfl) (by intro _ _ _ h; exact h) (Or.inl ⟨by rfl, ?hyq3_1⟩) (by assumption) ?restq3_1
              case hyq3_1 => ((intro w hSw; (try dsimp only at hSw); go_simp); try (with_reducible rfl))
              try simp only [Act.put, List.setIfInBounds_toArray, List.set_cons_zero, List.set_cons_succ]
              refine wpAnyH_take (i := 2) (oi := _) (v := ?vq3_2) (by simp only [List.getElem?_toArray, List.getElem?_cons_succ, List.getElem?_cons_zero]; rfl) (by kernel_rfl) (by kernel_rfl) (by kernel_rfl) (by intro _ _ _ h; exact h) (Or.inl ⟨by rfl, ?hyq3_2⟩) (by assumption) ?restq3_2
              case hyq3_2 => ((intro w hSw; (try dsimp only at hSw); go_simp); try (with_reducible rfl))
              try simp only [Act.put, List.setIfInBounds_toArray, List.set_cons_zero, List.set_cons_succ]
              refine wpAnyH_take (i := 3) (oi := _) (v := ?vq3_3) (by simp only [List.getElem?_toArray, List.getElem?_cons_succ, List.getElem?_cons_zero]; rfl) (by kernel_rfl) (by kernel_rfl) (by kernel_rfl) (by intro _ _ _ h; exact h) (Or.inl ⟨by rfl, ?hyq3_3⟩) (by assumption) ?restq3_3
              case hyq3_3 => ((intro w hSw; (try dsimp only at hSw); go_simp); try (with_reducible rfl))
              try simp only [Act.put, List.setIfInBounds_toArray, List.set_cons_zero, List.set_cons_succ]
              refine wpAnyH_ready (rs := [4]) (by kernel_rfl) (by simp) ?_
              refine AllReadyH.cons rfl (fun K hK => ?_) AllReadyH.nil
              go_simp
              go_wp2_with (go_at_call 16; (with_reducible refine (CL.out _ HB10.out.drew).mono ?_); rintro e w11 ⟨rfl, hbb11⟩; have hb11 := (Below.refl _ w10).drew.trans hbb11)
              refine hK.out _ _ ?_ (fun hHeld2 => ?_)
              · exact ud_mk E10 D9 hb11
              clear hK K hHeld
              have hHeld := hHeld2
              clear hHeld2
              refine wpAnyH_take (i := 5) (oi := _) (v := ?vq3_5) (by simp only [List.getElem?_toArray, List.getElem?_cons_succ, List.getElem?_cons_zero]; rfl) (by kernel_rfl) (by kernel_rfl) (by kernel_rfl) (by intro _ _ _ h; exact h) (Or.inl ⟨by rfl, ?hyq3_5⟩) (by assumption) ?restq3_5
              case hyq3_5 => ((intro w hSw; (try dsimp only at hSw); go_simp); try (with_reducible rfl))
              try simp only [Act.put, List.setIfInBounds_toArray, List.set_cons_zero, List.set_cons_succ]
              refine wpAnyH_take (i := 6) (oi := _) (v := ?vq3_6) (by simp only [List.getElem?_toArray, List.getElem?_cons_succ, List.getElem?_cons_zero]; rfl) (by kernel_rfl) (by kernel_rfl) (by kernel_rfl) (by intro _ _ _ h; exact h) (Or.inl ⟨by rfl, ?hyq3_6⟩) (by assumption) ?restq3_6
              case hyq3_6 => ((intro w hSw; (try dsimp only at hSw); go_simp); try (with_reducible rfl))
              try simp only [Act.put, List.setIfInBounds_toArray, List.set_cons_zero, List.set_cons_succ]
              refine wpAnyH_take (i := 7) (oi := _) (v := ?vq3_7) (by simp only [List.getElem?_toArray, List.getElem?_cons_succ, List.getElem?_cons_zero]; rfl) (by kernel_rfl) (by kernel_rfl) (by kernel_rfl) (by intro _ _ _ h; exact h) (Or.inl ⟨by rfl, ?hyq3_7⟩) (by assumption) ?restq3_7
              case hyq3_7 => ((intro w hSw; (try dsimp only at hSw); go_simp); try (with_reducible rfl))
              try simp only [Act.put, List.setIfInBounds_toArray, List.set_cons_zero, List.set_cons_succ]
              refine wpAnyH_take (i := 8) (oi := _) (v := ?vq3_8) (by simp only [List.getElem?_toArray, List.getElem?_cons_succ, List.getElem?_cons_zero]; rfl) (by kernel_rfl) (by kernel_rfl) (by kernel_rfl) (by intro _ _ _ h; exact h) (Or.inl ⟨by rfl, ?hyq3_8⟩) (by assumption) ?restq3_8
              case hyq3_8 => ((intro w hSw; (try dsimp only at hSw); go_simp); try (with_reducible rfl))
              try simp only [Act.put, List.setIfInBounds_toArray, List.set_cons_zero, List.set_cons_succ]
              refine wpAnyH_take (i := 9) (oi := _) (v := ?vq3_9) (by simp only [List.getElem?_toArray, List.getElem?_cons_succ, List.getElem?_cons_zero]; rfl) (by kernel_rfl) (by kernel_rfl) (by kernel_rfl) (by intro _ _ _ h; exact h) (Or.inl ⟨by rfl, ?hyq3_9⟩) (by assumption) ?restq3_9
              case hyq3_9 => ((intro w hSw; (try dsimp only at hSw); go_simp); try (with_reducible rfl))
              try simp only [Act.put, List.setIfInBounds_toArray, List.set_cons_zero, List.set_cons_succ]
              refine wpAnyH_take (i := 10) (oi := _) (v := ?vq3_10) (by simp only [List.getElem?_toArray, List.getElem?_cons_succ, List.getElem?_cons_zero]; rfl) (by kernel_rfl) (by kernel_rfl) (by kernel_rfl) (by intro _ _ _ h; exact h) (Or.inl ⟨by rfl, ?hyq3_10⟩) (by assumption) ?restq3_10
              case hyq3_10 => ((intro w hSw; (try dsimp only at hSw); go_simp); try (with_reducible rfl))
              try simp only [Act.put, List.setIfInBounds_toArray, List.set_cons_zero, List.set_cons_succ]
              refine wpAnyH_take (i := 11) (oi := _) (v := ?vq3_11) (by simp only [List.getElem?_toArray, List.getElem?_cons_succ, List.getElem?_cons_zero]; rfl) (by kernel_rfl) (by kernel_rfl) (by kernel_rfl) (by intro _ _ _ h; exact h) (Or.inl ⟨by rfl, ?hyq3_11⟩) (by assumption) ?restq3_11
              case hyq3_11 => ((intro w hSw; (try dsimp only at hSw); go_simp); try (with_reducible rfl))
              try simp only [Act.put, List.setIfInBounds_toArray, List.set_cons_zero, List.set_cons_succ]
              refine wpAnyH_take (i := 12) (oi := _) (v := ?vq3_12) (by simp only [List.getElem?_toArray, List.getElem?_cons_succ, List.getElem?_cons_zero]; rfl) (by kernel_rfl) (by kernel_rfl) (by kernel_rfl) (by intro _ _ _ h; exact h) (Or.inl ⟨by rfl, ?hyq3_12⟩) (by assumption) ?restq3_12
              case hyq3_12 => ((intro w hSw; (try dsimp only at hSw); go_simp); try (with_reducible rfl))
              try simp only [Act.put, List.setIfInBounds_toArray, List.set_cons_zero, List.set_cons_succ]
              refine wpAnyH_take (i := 13) (oi := _) (v := ?vq3_13) (by simp only [List.getElem?_toArray, List.getElem?_cons_succ, List.getElem?_cons_zero]; rfl) (by kernel_rfl) (by kernel_rfl) (by kernel_rfl) (by intro _ _ _ h; exact h) (Or.inl ⟨by rfl, ?hyq3_13⟩) (by assumption) ?restq3_13
              case hyq3_13 => ((intro w hSw; (try dsimp only at hSw); go_simp); try (with_reducible rfl))
              try simp only [Act.put, List.setIfInBounds_toArray, List.set_cons_zero, List.set_cons_succ]
              refine wpAnyH_take (i := 14) (oi := _) (v := ?vq3_14) (by simp only [List.getElem?_toArray, List.getElem?_cons_succ, List.getElem?_cons_zero]; rfl) (by kernel_rfl) (by kernel_rfl) (by kernel_rfl) (by intro _ _ _ h; exact h) (Or.inl ⟨by rfl, ?hyq3_14⟩) (by assumption) ?restq3_14
              case hyq3_14 => ((intro w hSw; (try dsimp only at hSw); go_simp); try (with_reducible rfl))
              try simp only [Act.put, List.setIfInBounds_toArray, List.set_cons_zero, List.set_cons_succ]
              refine wpAnyH_done (by kernel_rfl) ?_ _
              have E11 := E10.next hb11
              have P11 := P10.next hb11
              have D11 := D9.next hb11
              have HB9 := Lib.hid (HB10.out.trans (hb11.mono HB10.out.size))
              clear z0 z1 z2 z3 z4 z5 p0 p1 p2 p3 p4 p5 p6 p7 y0 y1 y2 y3 hHeld
              have z0 := E11.c 0 rfl; have z1 := E11.c 1 rfl; have z2 := E11.c 2 rfl; have z3 := E11.c 3 rfl; have z4 := E11.c 4 rfl; have z5 := E11.c 5 rfl
              have p0 := P11.c 0 rfl; have p1 := P11.c 1 rfl; have p2 := P11.c 2 rfl; have p3 := P11.c 3 rfl; have p4 := P11.c 4 rfl; have p5 := P11.c 5 rfl; have p6 := P11.c 6 rfl; have p7 := P11.c 7 rfl
              have y0 := D11.c 0 rfl; have y1 := D11.c 1 rfl; have y2 := D11.c 2 rfl; have y3 := D11.c 3 rfl
              have m11 := E11.lt
              have n11 := P11.lt
              have o11 := D11.lt
              obtain ⟨rfl, hb7, hs7⟩ := HKT.out (by trivial)
              have hb7 : rb = bo := hb7
              have hs7 : rs = st := hs7
              subst hb7 hs7
              go_wp2_with fail
              go_ret
              exact ⟨rfl, HB9.out⟩
            · have x4d : decide (d4 < 0) = false := decide_eq_false x4
              have x40 : (0 : Int) ≤ d4 := by omega
              by_cases x5 : ti ≤ 1000 * d4
              · have x5d : decide (ti ≤ 1000 * d4) = true := decide_eq_true x5
                obtain rfl : U = true := by rw [← hUF, x4d, x5d]; rfl
                clear hUF
                go_enter Tryz.func6, Tryz.ntmps6
                go_upto_region 6 with (first
                  | (go_at_call 10; (with_reducible refine CF.out.mono ?_); rintro e w1 ⟨rfl, hb1⟩; have C1 := C0.next hb1; have Q1 := Q0.next hb1; have E1 := E0.next hb1; have hB1 := hb0.trans (hb1.mono hb0.size); clear c0 q0 q1 q2 z0 z1 z2 z3 z4 z5; have c0 := C1.c 0 rfl; have q0 := Q1.c 0 rfl; have q1 := Q1.c 1 rfl; have q2 := Q1.c 2 rfl; have z0 := E1.c 0 rfl; have z1 := E1.c 1 rfl; have z2 := E1.c 2 rfl; have z3 := E1.c 3 rfl; have z4 := E1.c 4 rfl; have z5 := E1.c 5 rfl; have l1 := C1.lt; have m1 := Q1.lt; have o1 := E1.lt)
                  | (go_at_call 20; (with_reducible refine (CW.out _ hB1).mono ?_); rintro e w2 ⟨rfl, hb2⟩; have C2 := C1.next hb2; have Q2 := Q1.next hb2; have E2 := E1.next hb2; have hB2 := hB1.trans (hb2.mono hB1.size); clear c0 q0 q1 q2 z0 z1 z2 z3 z4 z5; have c0 := C2.c 0 rfl; have q0 := Q2.c 0 rfl; have q1 := Q2.c 1 rfl; have q2 := Q2.c 2 rfl; have z0 := E2.c 0 rfl; have z1 := E2.c 1 rfl; have z2 := E2.c 2 rfl; have z3 := E2.c 3 rfl; have z4 := E2.c 4 rfl; have z5 := E2.c 5 rfl; have l2 := C2.lt; have m2 := Q2.lt; have o2 := E2.lt)
                  | (go_at_call 11; (with_reducible refine (CH.out _ hB2).mono ?_); rintro e w3 ⟨rfl, hb3⟩; have C3 := C2.next hb3; have Q3 := Q2.next hb3; have E3 := E2.next hb3; have hB3 := hB2.trans (hb3.mono hB2.size); clear c0 q0 q1 q2 z0 z1 z2 z3 z4 z5; have c0 := C3.c 0 rfl; have q0 := Q3.c 0 rfl; have q1 := Q3.c 1 rfl; have q2 := Q3.c 2 rfl; have z0 := E3.c 0 rfl; have z1 := E3.c 1 rfl; have z2 := E3.c 2 rfl; have z3 := E3.c 3 rfl; have z4 := E3.c 4 rfl; have z5 := E3.c 5 rfl; have l3 := C3.lt; have m3 := Q3.lt; have o3 := E3.lt)
                  | (go_at_call 23; (with_reducible refine (CC.out _ hB3).mono ?_); rintro e w4 hq; obtain ⟨jb, ja, jc, lx, rfl, hjb, hJ, hlx, hb4⟩ := hq; have C4 := C3.next hb4; have Q4 := Q3.next hb4; have E4 := E3.next hb4; have hB4 := hB3.trans (hb4.mono hB3.size); clear c0 q0 q1 q2 z0 z1 z2 z3 z4 z5; have c0 := C4.c 0 rfl; have q0 := Q4.c 0 rfl; have q1 := Q4.c 1 rfl; have q2 := Q4.c 2 rfl; have z0 := E4.c 0 rfl; have z1 := E4.c 1 rfl; have z2 := E4.c 2 rfl; have z3 := E4.c 3 rfl; have z4 := E4.c 4 rfl; have z5 := E4.c 5 rfl; have l4 := C4.lt; have m4 := Q4.lt; have o4 := E4.lt)
                  )
                obtain ⟨C, hC⟩ : ∃ C, w.heap.size = C := ⟨_, rfl⟩
                obtain ⟨Q, hQ⟩ : ∃ Q, C + 1 = Q := ⟨_, rfl⟩
                obtain ⟨E, hE⟩ : ∃ E, C + 1 + 1 = E := ⟨_, rfl⟩
                obtain ⟨B, hB⟩ : ∃ B, w3.heap.size = B := ⟨_, rfl⟩
                rw [hC] at C4 Q4 E4 l3 m3 o3
                rw [hE] at E4 o3
                rw [hQ] at Q4 m3
                rw [hB] at hjb l3 m3 o3 hJ
                rw [hC, hE, hQ]
                have HCC := Lib.hid hC
                have hwB : w.heap.size ≤ B := by omega
                have hCB : C < B := l3
                have hQB : Q < B := m3
                have hEB : E < B := o3
                have HJ := Lib.hid hJ
                have HLXE := Lib.hid hlx
                have HB4 := Lib.hid hB4
                clear hC hQ hE hB hJ hlx hB4 C0 Q0 E0 C1 C2 C3 Q1 Q2 Q3 E1 E2 E3 hb0 hb1 hb2 hb3 hB1 hB2 hB3 cl ql el l1 m1 o1 l2 m2 o2 l3 m3 o3 l4 m4 o4 c0 q0 q1 q2 z0 z1 z2 z3 z4 z5
                have c0 := C4.c 0 rfl
                have q0 := Q4.c 0 rfl; have q1 := Q4.c 1 rfl; have q2 := Q4.c 2 rfl
                have z0 := E4.c 0 rfl; have z1 := E4.c 1 rfl; have z2 := E4.c 2 rfl; have z3 := E4.c 3 rfl; have z4 := E4.c 4 rfl; have z5 := E4.c 5 rfl
                have l4 := C4.lt
                have m4 := Q4.lt
                have o4 := E4.lt
                go_upto_region 8 with (first
                  | (go_at_call 29; (with_reducible refine (CP.out _ _ _ _ _ _ _ HLXE.out HB4.out hjb hwB HJ.out (HH.out.below HB4.out (Nat.le_refl _)) (far_old HH.out (Nat.le_trans hwB hjb) (fun g e => Nat.le_trans hwB (own_base HJ.out.own e)))).mono ?_); rintro e w6 hq6; obtain ⟨rfl, lp, hto6, hlp⟩ := hq6; have hlow6 := hto6.lowB HJ.out hjb; obtain ⟨a6, c6, J6, -, hR6⟩ := hto6.out; have HJ6 := Lib.hid J6; have HLP := Lib.hid hlp; have HB6 := Lib.hid (HB4.out.trans (hlow6.mono hwB)); have Q6 := Q4.below hlow6 hQB; have E6 := E4.below hlow6 hEB; clear hto6 J6 hlp c0 q0 q1 q2 z0 z1 z2 z3 z4 z5 l4 m4 o4; have q0 := Q6.c 0 rfl; have q1 := Q6.c 1 rfl; have q2 := Q6.c 2 rfl; have z0 := E6.c 0 rfl; have z1 := E6.c 1 rfl; have z2 := E6.c 2 rfl; have z3 := E6.c 3 rfl; have z4 := E6.c 4 rfl; have z5 := E6.c 5 rfl; have l6 := Q6.lt; have m6 := E6.lt)
                  | (go_at_call 24; (with_reducible refine (CK.out _ _ _ _ _ _ HB6.out HJ6.out HLP.out).mono ?_); rintro e w7 hq7; obtain ⟨r7, kd, ua7, un7, uc7, rfl, hsh7, hk7t, hk7f, lq, hto7⟩ := hq7; have HKT := Lib.hid hk7t; have HKF := Lib.hid hk7f; clear hk7t hk7f; have hlow7 := hto7.lowB HJ6.out hjb; have Q7 := Q6.below hlow7 hQB; have E7 := E6.below hlow7 hEB; have HB7 := Lib.hid (HB6.out.trans (hlow7.mono hwB)); obtain ⟨⟨a8, n8, k8, e8⟩, a9, n9, k9, e9⟩ := hsh7; obtain ⟨ru, rv, rs, rh, rb, rt⟩ := r7; have e8 : rv = .slice a8 n8 k8 := e8; have e9 : rh = .slice a9 n9 k9 := e9; subst e8 e9; clear hto7 q0 q1 q2 z0 z1 z2 z3 z4 z5 l6 m6; have q0 := Q7.c 0 rfl; have q1 := Q7.c 1 rfl; have q2 := Q7.c 2 rfl; have z0 := E7.c 0 rfl; have z1 := E7.c 1 rfl; have z2 := E7.c 2 rfl; have z3 := E7.c 3 rfl; have z4 := E7.c 4 rfl; have z5 := E7.c 5 rfl; have l7 := Q7.lt; have m7 := E7.lt)
                  )
                have P8 := AtL.new w7 [.int .i64 kd, .string ru, .slice a8 n8 k8, .int .i64 rs, .slice a9 n9 k9, .string rb, .int .i64 rt, .slice ua7 un7 uc7] 45
                have Q8 := Q7.alloc (.cells #[.int .i64 kd, .string ru, .slice a8 n8 k8, .int .i64 rs, .slice a9 n9 k9, .string rb, .int .i64 rt, .slice ua7 un7 uc7] 45)
                have E8 := E7.alloc (.cells #[.int .i64 kd, .string ru, .slice a8 n8 k8, .int .i64 rs, .slice a9 n9 k9, .string rb, .int .i64 rt, .slice ua7 un7 uc7] 45)
                have B8 := HB7.out.alloc HB7.out.size (.cells #[.int .i64 kd, .string ru, .slice a8 n8 k8, .int .i64 rs, .slice a9 n9 k9, .string rb, .int .i64 rt, .slice ua7 un7 uc7] 45)
                obtain ⟨w8, hw8⟩ : ∃ w8 : World, w7.alloc (.cells #[.int .i64 kd, .string ru, .slice a8 n8 k8, .int .i64 rs, .slice a9 n9 k9, .string rb, .int .i64 rt, .slice ua7 un7 uc7] 45) = w8 := ⟨_, rfl⟩
                obtain ⟨P, hP⟩ : ∃ P, w7.heap.size = P := ⟨_, rfl⟩
                rw [show w7.alloc (.cells [.int .i64 kd, .string ru, .slice a8 n8 k8, .int .i64 rs, .slice a9 n9 k9, .string rb, .int .i64 rt, .slice ua7 un7 uc7].toArray 45) = w8 from hw8] at P8
                rw [hw8] at Q8 E8 B8
                rw [hP] at P8
                rw [hw8, hP]
                have HB8 := Lib.hid B8
                clear hw8 hP B8 q0 q1 q2 z0 z1 z2 z3 z4 z5 l7 m7
                have q0 := Q8.c 0 rfl; have q1 := Q8.c 1 rfl; have q2 := Q8.c 2 rfl
                have z0 := E8.c 0 rfl; have z1 := E8.c 1 rfl; have z2 := E8.c 2 rfl; have z3 := E8.c 3 rfl; have z4 := E8.c 4 rfl; have z5 := E8.c 5 rfl
                have p0 := P8.c 0 rfl; have p1 := P8.c 1 rfl; have p2 := P8.c 2 rfl; have p3 := P8.c 3 rfl; have p4 := P8.c 4 rfl; have p5 := P8.c 5 rfl; have p6 := P8.c 6 rfl; have p7 := P8.c 7 rfl
                have l8 := Q8.lt
                have m8 := E8.lt
                have n8' := P8.lt
                go_upto_region 11 with (go_at_call 14; (with_reducible refine (CD.out _ HB8.out).mono ?_); rintro e w9 ⟨rfl, hb9⟩; have Q9 := Q8.next hb9; have E9 := E8.next hb9; have P9 := P8.next hb9; have D9 := AtL.new w9 [.bool false, .bool false, .bool d3, .int .i64 d4] 28; have HB9a := Lib.hid (HB8.out.trans (hb9.mono HB8.out.size)))
                have E10 := E9.alloc (.cells #[.bool false, .bool false, .bool d3, .int .i64 d4] 28)
                have P10 := P9.alloc (.cells #[.bool false, .bool false, .bool d3, .int .i64 d4] 28)
                have B10 := HB9a.out.alloc HB9a.out.size (.cells #[.bool false, .bool false, .bool d3, .int .i64 d4] 28)
                obtain ⟨w10, hw10⟩ : ∃ w10 : World, w9.alloc (.cells #[.bool false, .bool false, .bool d3, .int .i64 d4] 28) = w10 := ⟨_, rfl⟩
                obtain ⟨DB, hDB⟩ : ∃ DB, w9.heap.size = DB := ⟨_, rfl⟩
                rw [show w9.alloc (.cells [.bool false, .bool false, .bool d3, .int .i64 d4].toArray 28) = w10 from hw10] at D9
                rw [hw10] at E10 P10 B10
                rw [hDB] at D9
                rw [hw10, hDB]
                have HB10 := Lib.hid B10
                clear hw10 hDB B10 q0 q1 q2 z0 z1 z2 z3 z4 z5 p0 p1 p2 p3 p4 p5 p6 p7 l8 m8 n8' Q8 Q9
                have z0 := E10.c 0 rfl; have z1 := E10.c 1 rfl; have z2 := E10.c 2 rfl; have z3 := E10.c 3 rfl; have z4 := E10.c 4 rfl; have z5 := E10.c 5 rfl
                have p0 := P10.c 0 rfl; have p1 := P10.c 1 rfl; have p2 := P10.c 2 rfl; have p3 := P10.c 3 rfl; have p4 := P10.c 4 rfl; have p5 := P10.c 5 rfl; have p6 := P10.c 6 rfl; have p7 := P10.c 7 rfl
                have y0 := D9.c 0 rfl; have y1 := D9.c 1 rfl; have y2 := D9.c 2 rfl; have y3 := D9.c 3 rfl
                have m10 := E10.lt
                have n10 := P10.lt
                have o10 := D9.lt
                refine wp_region_held_drew (S := (fun w' => w'.cell? ⟨E, 3, none⟩ = some (.slice a2 n2 k2) ∧ w'.cell? ⟨E, 5, none⟩ = some (.int .i64 ti) ∧ w'.cell? ⟨DB, 0, none⟩ = some (.bool false) ∧ w'.cell? ⟨DB, 1, none⟩ = some (.bool false))) (by kernel_rfl) ?_ (fun hHeld => ?_)
                · exact ud_mk E10 D9 (Below.refl _ w10).drew
                refine wpAnyH_take (i := 0) (oi := _) (v := ?vq4_0) (by simp only [List.getElem?_toArray, List.getElem?_cons_succ, List.getElem?_cons_zero]; rfl) (by kernel_rfl) (by kernel_rfl) (by kernel_rfl) (by intro _ _ _ h; exact h) (Or.inl ⟨by rfl, ?hyq4_0⟩) (by assumption) ?restq4_0
                case hyq4_0 => ((intro w hSw; (try dsimp only at hSw); go_simp); try (with_reducible rfl))
                try simp only [Act.put, List.setIfInBounds_toArray, List.set_cons_zero, List.set_cons_succ]
                refine wpAnyH_take (i := 1) (oi := _) (v := ?vq4_1) (by simp only [List.getElem?_toArray, List.getElem?_cons_succ, List.getElem?_cons_zero]; rfl) (by kernel_rfl) (by kernel_rfl) (by kernel_rfl) (by intro _ _ _ h; exact h) (Or.inl ⟨by rfl, ?hyq4_1⟩) (by assumption) ?restq4_1
                case hyq4_1 => ((intro w hSw; (try dsimp only at hSw); go_simp); try (with_reducible rfl))
                try simp only [Act.put, List.setIfInBounds_toArray, List.set_cons_zero, List.set_cons_succ]
                refine wpAnyH_take (i := 2) (oi := _) (v := ?vq4_2) (by simp only [List.getElem?_toArray, List.getElem?_cons_succ, List.getElem?_cons_zero]; rfl) (by kernel_rfl) (by kernel_rfl) (by kernel_rfl) (by intro _ _ _ h; exact h) (Or.inl ⟨by rfl, ?hyq4_2⟩) (by assumption) ?restq4_2
                case hyq4_2 => ((intro w hSw; (try dsimp only at hSw); go_simp); try (with_reducible rfl))
                try simp only [Act.put, List.setIfInBounds_toArray, List.set_cons_zero, List.set_cons_succ]
                refine wpAnyH_take (i := 3) (oi := _) (v := ?vq4_3) (by simp only [List.getElem?_toArray, List.getElem?_cons_succ, List.getElem?_cons_zero]; rfl) (by kernel_rfl) (by kernel_rfl) (by kernel_rfl) (by intro _ _ _ h; exact h) (Or.inl ⟨by rfl, ?hyq4_3⟩) (by assumption) ?restq4_3
                case hyq4_3 => ((intro w hSw; (try dsimp only at hSw); go_simp); try (with_reducible rfl))
                try simp only [Act.put, List.setIfInBounds_toArray, List.set_cons_zero, List.set_cons_succ]
                refine wpAnyH_ready (rs := [4]) (by kernel_rfl) (by simp) ?_
                refine AllReadyH.cons rfl (fun K hK => ?_) AllReadyH.nil
                go_simp
                go_wp2_with (go_at_call 16; (with_reducible refine (CL.out _ HB10.out.drew).mono ?_); rintro e w11 ⟨rfl, hbb11⟩; have hb11 := (Below.refl _ w10).drew.trans hbb11)
                refine hK.out _ _ ?_ (fun hHeld2 => ?_)
                · exact ud_mk E10 D9 hb11
                clear hK K hHeld
                have hHeld := hHeld2
                clear hHeld2
                refine wpAnyH_take (i := 5) (oi := _) (v := ?vq4_5) (by simp only [List.getElem?_toArray, List.getElem?_cons_succ, List.getElem?_cons_zero]; rfl) (by kernel_rfl) (by kernel_rfl) (by kernel_rfl) (by intro _ _ _ h; exact h) (Or.inl ⟨by rfl, ?hyq4_5⟩) (by assumption) ?restq4_5
                case hyq4_5 => ((intro w hSw; (try dsimp only at hSw); go_simp); try (with_reducible rfl))
                try simp only [Act.put, List.setIfInBounds_toArray, List.set_cons_zero, List.set_cons_succ]
                refine wpAnyH_take (i := 6) (oi := _) (v := ?vq4_6) (by simp only [List.getElem?_toArray, List.getElem?_cons_succ, List.getElem?_cons_zero]; rfl) (by kernel_rfl) (by kernel_rfl) (by kernel_rfl) (by intro _ _ _ h; exact h) (Or.inl ⟨by rfl, ?hyq4_6⟩) (by assumption) ?restq4_6
                case hyq4_6 => ((intro w hSw; (try dsimp only at hSw); go_simp); try (with_reducible rfl))
                try simp only [Act.put, List.setIfInBounds_toArray, List.set_cons_zero, List.set_cons_succ]
                refine wpAnyH_take (i := 7) (oi := _) (v := ?vq4_7) (by simp only [List.getElem?_toArray, List.getElem?_cons_succ, List.getElem?_cons_zero]; rfl) (by kernel_rfl) (by kernel_rfl) (by kernel_rfl) (by intro _ _ _ h; exact h) (Or.inl ⟨by rfl, ?hyq4_7⟩) (by assumption) ?restq4_7
                case hyq4_7 => ((intro w hSw; (try dsimp only at hSw); go_simp); try (with_reducible rfl))
                try simp only [Act.put, List.setIfInBounds_toArray, List.set_cons_zero, List.set_cons_succ]
                refine wpAnyH_take (i := 8) (oi := _) (v := ?vq4_8) (by simp only [List.getElem?_toArray, List.getElem?_cons_succ, List.getElem?_cons_zero]; rfl) (by kernel_rfl) (by kernel_rfl) (by kernel_rfl) (by intro _ _ _ h; exact h) (Or.inl ⟨by rfl, ?hyq4_8⟩) (by assumption) ?restq4_8
                case hyq4_8 => ((intro w hSw; (try dsimp only at hSw); go_simp); try (with_reducible rfl))
                try simp only [Act.put, List.setIfInBounds_toArray, List.set_cons_zero, List.set_cons_succ]
                refine wpAnyH_take (i := 9) (oi := _) (v := ?vq4_9) (by simp only [List.getElem?_toArray, List.getElem?_cons_succ, List.getElem?_cons_zero]; rfl) (by kernel_rfl) (by kernel_rfl) (by kernel_rfl) (by intro _ _ _ h; exact h) (Or.inl ⟨by rfl, ?hyq4_9⟩) (by assumption) ?restq4_9
                case hyq4_9 => ((intro w hSw; (try dsimp only at hSw); go_simp); try (with_reducible rfl))
                try simp only [Act.put, List.setIfInBounds_toArray, List.set_cons_zero, List.set_cons_succ]
                refine wpAnyH_take (i := 10) (oi := _) (v := ?vq4_10) (by simp only [List.getElem?_toArray, List.getElem?_cons_succ, List.getElem?_cons_zero]; rfl) (by kernel_rfl) (by kernel_rfl) (by kernel_rfl) (by intro _ _ _ h; exact h) (Or.inl ⟨by rfl, ?hyq4_10⟩) (by assumption) ?restq4_10
                case hyq4_10 => ((intro w hSw; (try dsimp only at hSw); go_simp); try (with_reducible rfl))
                try simp only [Act.put, List.setIfInBounds_toArray, List.set_cons_zero, List.set_cons_succ]
                refine wpAnyH_take (i := 11) (oi := _) (v := ?vq4_11) (by simp only [List.getElem?_toArray, List.getElem?_cons_succ, List.getElem?_cons_zero]; rfl) (by kernel_rfl) (by kernel_rfl) (by kernel_rfl) (by intro _ _ _ h; exact h) (Or.inl ⟨by rfl, ?hyq4_11⟩) (by assumption) ?restq4_11
                case hyq4_11 => ((intro w hSw; (try dsimp only at hSw); go_simp); try (with_reducible rfl))
                try simp only [Act.put, List.setIfInBounds_toArray, List.set_cons_zero, List.set_cons_succ]
                refine wpAnyH_take (i := 12) (oi := _) (v := ?vq4_12) (by simp only [List.getElem?_toArray, List.getElem?_cons_succ, List.getElem?_cons_zero]; rfl) (by kernel_rfl) (by kernel_rfl) (by kernel_rfl) (by intro _ _ _ h; exact h) (Or.inl ⟨by rfl, ?hyq4_12⟩) (by assumption) ?restq4_12
                case hyq4_12 => ((intro w hSw; (try dsimp only at hSw); go_simp); try (with_reducible rfl))
                try simp only [Act.put, List.setIfInBounds_toArray, List.set_cons_zero, List.set_cons_succ]
                refine wpAnyH_take (i := 13) (oi := _) (v := ?vq4_13) (by simp only [List.getElem?_toArray, List.getElem?_cons_succ, List.getElem?_cons_zero]; rfl) (by kernel_rfl) (by kernel_rfl) (by kernel_rfl) (by intro _ _ _ h; exact h) (Or.inl ⟨by rfl, ?hyq4_13⟩) (by assumption) ?restq4_13
                case hyq4_13 => ((intro w hSw; (try dsimp only at hSw); go_simp); try (with_reducible rfl))
                try simp only [Act.put, List.setIfInBounds_toArray, List.set_cons_zero, List.set_cons_succ]
                refine wpAnyH_take (i := 14) (oi := _) (v := ?vq4_14) (by simp only [List.getElem?_toArray, List.getElem?_cons_succ, List.getElem?_cons_zero]; rfl) (by kernel_rfl) (by kernel_rfl) (by kernel_rfl) (by intro _ _ _ h; exact h) (Or.inl ⟨by rfl, ?hyq4_14⟩) (by assumption) ?restq4_14
                case hyq4_14 => ((intro w hSw; (try dsimp only at hSw); go_simp); try (with_reducible rfl))
                try simp only [Act.put, List.setIfInBounds_toArray, List.set_cons_zero, List.set_cons_succ]
                refine wpAnyH_done (by kernel_rfl) ?_ _
                have E11 := E10.next hb11
                have P11 := P10.next hb11
                have D11 := D9.next hb11
                have HB9 := Lib.hid (HB10.out.trans (hb11.mono HB10.out.size))
                clear z0 z1 z2 z3 z4 z5 p0 p1 p2 p3 p4 p5 p6 p7 y0 y1 y2 y3 hHeld
                have z0 := E11.c 0 rfl; have z1 := E11.c 1 rfl; have z2 := E11.c 2 rfl; have z3 := E11.c 3 rfl; have z4 := E11.c 4 rfl; have z5 := E11.c 5 rfl
                have p0 := P11.c 0 rfl; have p1 := P11.c 1 rfl; have p2 := P11.c 2 rfl; have p3 := P11.c 3 rfl; have p4 := P11.c 4 rfl; have p5 := P11.c 5 rfl; have p6 := P11.c 6 rfl; have p7 := P11.c 7 rfl
                have y0 := D11.c 0 rfl; have y1 := D11.c 1 rfl; have y2 := D11.c 2 rfl; have y3 := D11.c 3 rfl
                have m11 := E11.lt
                have n11 := P11.lt
                have o11 := D11.lt
                obtain ⟨rfl, hb7, hs7⟩ := HKT.out (by trivial)
                have hb7 : rb = bo := hb7
                have hs7 : rs = st := hs7
                subst hb7 hs7
                go_wp2_with fail
                go_ret
                exact ⟨rfl, HB9.out⟩
              · have x5d : decide (ti ≤ 1000 * d4) = false := decide_eq_false x5
                obtain rfl : U = false := by rw [← hUF, x4d, x5d]; rfl
                clear hUF
                go_enter Tryz.func6, Tryz.ntmps6
                go_upto_region 6 with (first
                  | (go_at_call 10; (with_reducible refine CF.out.mono ?_); rintro e w1 ⟨rfl, hb1⟩; have C1 := C0.next hb1; have Q1 := Q0.next hb1; have E1 := E0.next hb1; have hB1 := hb0.trans (hb1.mono hb0.size); clear c0 q0 q1 q2 z0 z1 z2 z3 z4 z5; have c0 := C1.c 0 rfl; have q0 := Q1.c 0 rfl; have q1 := Q1.c 1 rfl; have q2 := Q1.c 2 rfl; have z0 := E1.c 0 rfl; have z1 := E1.c 1 rfl; have z2 := E1.c 2 rfl; have z3 := E1.c 3 rfl; have z4 := E1.c 4 rfl; have z5 := E1.c 5 rfl; have l1 := C1.lt; have m1 := Q1.lt; have o1 := E1.lt)
                  | (go_at_call 20; (with_reducible refine (CW.out _ hB1).mono ?_); rintro e w2 ⟨rfl, hb2⟩; have C2 := C1.next hb2; have Q2 := Q1.next hb2; have E2 := E1.next hb2; have hB2 := hB1.trans (hb2.mono hB1.size); clear c0 q0 q1 q2 z0 z1 z2 z3 z4 z5; have c0 := C2.c 0 rfl; have q0 := Q2.c 0 rfl; have q1 := Q2.c 1 rfl; have q2 := Q2.c 2 rfl; have z0 := E2.c 0 rfl; have z1 := E2.c 1 rfl; have z2 := E2.c 2 rfl; have z3 := E2.c 3 rfl; have z4 := E2.c 4 rfl; have z5 := E2.c 5 rfl; have l2 := C2.lt; have m2 := Q2.lt; have o2 := E2.lt)
                  | (go_at_call 11; (with_reducible refine (CH.out _ hB2).mono ?_); rintro e w3 ⟨rfl, hb3⟩; have C3 := C2.next hb3; have Q3 := Q2.next hb3; have E3 := E2.next hb3; have hB3 := hB2.trans (hb3.mono hB2.size); clear c0 q0 q1 q2 z0 z1 z2 z3 z4 z5; have c0 := C3.c 0 rfl; have q0 := Q3.c 0 rfl; have q1 := Q3.c 1 rfl; have q2 := Q3.c 2 rfl; have z0 := E3.c 0 rfl; have z1 := E3.c 1 rfl; have z2 := E3.c 2 rfl; have z3 := E3.c 3 rfl; have z4 := E3.c 4 rfl; have z5 := E3.c 5 rfl; have l3 := C3.lt; have m3 := Q3.lt; have o3 := E3.lt)
                  | (go_at_call 23; (with_reducible refine (CC.out _ hB3).mono ?_); rintro e w4 hq; obtain ⟨jb, ja, jc, lx, rfl, hjb, hJ, hlx, hb4⟩ := hq; have C4 := C3.next hb4; have Q4 := Q3.next hb4; have E4 := E3.next hb4; have hB4 := hB3.trans (hb4.mono hB3.size); clear c0 q0 q1 q2 z0 z1 z2 z3 z4 z5; have c0 := C4.c 0 rfl; have q0 := Q4.c 0 rfl; have q1 := Q4.c 1 rfl; have q2 := Q4.c 2 rfl; have z0 := E4.c 0 rfl; have z1 := E4.c 1 rfl; have z2 := E4.c 2 rfl; have z3 := E4.c 3 rfl; have z4 := E4.c 4 rfl; have z5 := E4.c 5 rfl; have l4 := C4.lt; have m4 := Q4.lt; have o4 := E4.lt)
                  )
                obtain ⟨C, hC⟩ : ∃ C, w.heap.size = C := ⟨_, rfl⟩
                obtain ⟨Q, hQ⟩ : ∃ Q, C + 1 = Q := ⟨_, rfl⟩
                obtain ⟨E, hE⟩ : ∃ E, C + 1 + 1 = E := ⟨_, rfl⟩
                obtain ⟨B, hB⟩ : ∃ B, w3.heap.size = B := ⟨_, rfl⟩
                rw [hC] at C4 Q4 E4 l3 m3 o3
                rw [hE] at E4 o3
                rw [hQ] at Q4 m3
                rw [hB] at hjb l3 m3 o3 hJ
                rw [hC, hE, hQ]
                have HCC := Lib.hid hC
                have hwB : w.heap.size ≤ B := by omega
                have hCB : C < B := l3
                have hQB : Q < B := m3
                have hEB : E < B := o3
                have HJ := Lib.hid hJ
                have HLXE := Lib.hid hlx
                have HB4 := Lib.hid hB4
                clear hC hQ hE hB hJ hlx hB4 C0 Q0 E0 C1 C2 C3 Q1 Q2 Q3 E1 E2 E3 hb0 hb1 hb2 hb3 hB1 hB2 hB3 cl ql el l1 m1 o1 l2 m2 o2 l3 m3 o3 l4 m4 o4 c0 q0 q1 q2 z0 z1 z2 z3 z4 z5
                have c0 := C4.c 0 rfl
                have q0 := Q4.c 0 rfl; have q1 := Q4.c 1 rfl; have q2 := Q4.c 2 rfl
                have z0 := E4.c 0 rfl; have z1 := E4.c 1 rfl; have z2 := E4.c 2 rfl; have z3 := E4.c 3 rfl; have z4 := E4.c 4 rfl; have z5 := E4.c 5 rfl
                have l4 := C4.lt
                have m4 := Q4.lt
                have o4 := E4.lt
                go_upto_region 8 with (first
                  | (go_at_call 29; (with_reducible refine (CP.out _ _ _ _ _ _ _ HLXE.out HB4.out hjb hwB HJ.out (HH.out.below HB4.out (Nat.le_refl _)) (far_old HH.out (Nat.le_trans hwB hjb) (fun g e => Nat.le_trans hwB (own_base HJ.out.own e)))).mono ?_); rintro e w6 hq6; obtain ⟨rfl, lp, hto6, hlp⟩ := hq6; have hlow6 := hto6.lowB HJ.out hjb; obtain ⟨a6, c6, J6, -, hR6⟩ := hto6.out; have HJ6 := Lib.hid J6; have HLP := Lib.hid hlp; have HB6 := Lib.hid (HB4.out.trans (hlow6.mono hwB)); have Q6 := Q4.below hlow6 hQB; have E6 := E4.below hlow6 hEB; clear hto6 J6 hlp c0 q0 q1 q2 z0 z1 z2 z3 z4 z5 l4 m4 o4; have q0 := Q6.c 0 rfl; have q1 := Q6.c 1 rfl; have q2 := Q6.c 2 rfl; have z0 := E6.c 0 rfl; have z1 := E6.c 1 rfl; have z2 := E6.c 2 rfl; have z3 := E6.c 3 rfl; have z4 := E6.c 4 rfl; have z5 := E6.c 5 rfl; have l6 := Q6.lt; have m6 := E6.lt)
                  | (go_at_call 24; (with_reducible refine (CK.out _ _ _ _ _ _ HB6.out HJ6.out HLP.out).mono ?_); rintro e w7 hq7; obtain ⟨r7, kd, ua7, un7, uc7, rfl, hsh7, hk7t, hk7f, lq, hto7⟩ := hq7; have HKT := Lib.hid hk7t; have HKF := Lib.hid hk7f; clear hk7t hk7f; have hlow7 := hto7.lowB HJ6.out hjb; have Q7 := Q6.below hlow7 hQB; have E7 := E6.below hlow7 hEB; have HB7 := Lib.hid (HB6.out.trans (hlow7.mono hwB)); obtain ⟨⟨a8, n8, k8, e8⟩, a9, n9, k9, e9⟩ := hsh7; obtain ⟨ru, rv, rs, rh, rb, rt⟩ := r7; have e8 : rv = .slice a8 n8 k8 := e8; have e9 : rh = .slice a9 n9 k9 := e9; subst e8 e9; clear hto7 q0 q1 q2 z0 z1 z2 z3 z4 z5 l6 m6; have q0 := Q7.c 0 rfl; have q1 := Q7.c 1 rfl; have q2 := Q7.c 2 rfl; have z0 := E7.c 0 rfl; have z1 := E7.c 1 rfl; have z2 := E7.c 2 rfl; have z3 := E7.c 3 rfl; have z4 := E7.c 4 rfl; have z5 := E7.c 5 rfl; have l7 := Q7.lt; have m7 := E7.lt)
                  )
                have P8 := AtL.new w7 [.int .i64 kd, .string ru, .slice a8 n8 k8, .int .i64 rs, .slice a9 n9 k9, .string rb, .int .i64 rt, .slice ua7 un7 uc7] 45
                have Q8 := Q7.alloc (.cells #[.int .i64 kd, .string ru, .slice a8 n8 k8, .int .i64 rs, .slice a9 n9 k9, .string rb, .int .i64 rt, .slice ua7 un7 uc7] 45)
                have E8 := E7.alloc (.cells #[.int .i64 kd, .string ru, .slice a8 n8 k8, .int .i64 rs, .slice a9 n9 k9, .string rb, .int .i64 rt, .slice ua7 un7 uc7] 45)
                have B8 := HB7.out.alloc HB7.out.size (.cells #[.int .i64 kd, .string ru, .slice a8 n8 k8, .int .i64 rs, .slice a9 n9 k9, .string rb, .int .i64 rt, .slice ua7 un7 uc7] 45)
                obtain ⟨w8, hw8⟩ : ∃ w8 : World, w7.alloc (.cells #[.int .i64 kd, .string ru, .slice a8 n8 k8, .int .i64 rs, .slice a9 n9 k9, .string rb, .int .i64 rt, .slice ua7 un7 uc7] 45) = w8 := ⟨_, rfl⟩
                obtain ⟨P, hP⟩ : ∃ P, w7.heap.size = P := ⟨_, rfl⟩
                rw [show w7.alloc (.cells [.int .i64 kd, .string ru, .slice a8 n8 k8, .int .i64 rs, .slice a9 n9 k9, .string rb, .int .i64 rt, .slice ua7 un7 uc7].toArray 45) = w8 from hw8] at P8
                rw [hw8] at Q8 E8 B8
                rw [hP] at P8
                rw [hw8, hP]
                have HB8 := Lib.hid B8
                clear hw8 hP B8 q0 q1 q2 z0 z1 z2 z3 z4 z5 l7 m7
                have q0 := Q8.c 0 rfl; have q1 := Q8.c 1 rfl; have q2 := Q8.c 2 rfl
                have z0 := E8.c 0 rfl; have z1 := E8.c 1 rfl; have z2 := E8.c 2 rfl; have z3 := E8.c 3 rfl; have z4 := E8.c 4 rfl; have z5 := E8.c 5 rfl
                have p0 := P8.c 0 rfl; have p1 := P8.c 1 rfl; have p2 := P8.c 2 rfl; have p3 := P8.c 3 rfl; have p4 := P8.c 4 rfl; have p5 := P8.c 5 rfl; have p6 := P8.c 6 rfl; have p7 := P8.c 7 rfl
                have l8 := Q8.lt
                have m8 := E8.lt
                have n8' := P8.lt
                go_upto_region 11 with (go_at_call 14; (with_reducible refine (CD.out _ HB8.out).mono ?_); rintro e w9 ⟨rfl, hb9⟩; have Q9 := Q8.next hb9; have E9 := E8.next hb9; have P9 := P8.next hb9; have D9 := AtL.new w9 [.bool false, .bool false, .bool d3, .int .i64 d4] 28; have HB9a := Lib.hid (HB8.out.trans (hb9.mono HB8.out.size)))
                have E10 := E9.alloc (.cells #[.bool false, .bool false, .bool d3, .int .i64 d4] 28)
                have P10 := P9.alloc (.cells #[.bool false, .bool false, .bool d3, .int .i64 d4] 28)
                have B10 := HB9a.out.alloc HB9a.out.size (.cells #[.bool false, .bool false, .bool d3, .int .i64 d4] 28)
                obtain ⟨w10, hw10⟩ : ∃ w10 : World, w9.alloc (.cells #[.bool false, .bool false, .bool d3, .int .i64 d4] 28) = w10 := ⟨_, rfl⟩
                obtain ⟨DB, hDB⟩ : ∃ DB, w9.heap.size = DB := ⟨_, rfl⟩
                rw [show w9.alloc (.cells [.bool false, .bool false, .bool d3, .int .i64 d4].toArray 28) = w10 from hw10] at D9
                rw [hw10] at E10 P10 B10
                rw [hDB] at D9
                rw [hw10, hDB]
                have HB10 := Lib.hid B10
                clear hw10 hDB B10 q0 q1 q2 z0 z1 z2 z3 z4 z5 p0 p1 p2 p3 p4 p5 p6 p7 l8 m8 n8' Q8 Q9
                have z0 := E10.c 0 rfl; have z1 := E10.c 1 rfl; have z2 := E10.c 2 rfl; have z3 := E10.c 3 rfl; have z4 := E10.c 4 rfl; have z5 := E10.c 5 rfl
                have p0 := P10.c 0 rfl; have p1 := P10.c 1 rfl; have p2 := P10.c 2 rfl; have p3 := P10.c 3 rfl; have p4 := P10.c 4 rfl; have p5 := P10.c 5 rfl; have p6 := P10.c 6 rfl; have p7 := P10.c 7 rfl
                have y0 := D9.c 0 rfl; have y1 := D9.c 1 rfl; have y2 := D9.c 2 rfl; have y3 := D9.c 3 rfl
                have m10 := E10.lt
                have n10 := P10.lt
                have o10 := D9.lt
                refine wp_region_held_drew (S := (fun w' => w'.cell? ⟨E, 3, none⟩ = some (.slice a2 n2 k2) ∧ w'.cell? ⟨E, 5, none⟩ = some (.int .i64 ti) ∧ w'.cell? ⟨DB, 0, none⟩ = some (.bool false) ∧ w'.cell? ⟨DB, 1, none⟩ = some (.bool false))) (by kernel_rfl) ?_ (fun hHeld => ?_)
                · exact ud_mk E10 D9 (Below.refl _ w10).drew
                refine wpAnyH_take (i := 0) (oi := _) (v := ?vq5_0) (by simp only [List.getElem?_toArray, List.getElem?_cons_succ, List.getElem?_cons_zero]; rfl) (by kernel_rfl) (by kernel_rfl) (by kernel_rfl) (by intro _ _ _ h; exact h) (Or.inl ⟨by rfl, ?hyq5_0⟩) (by assumption) ?restq5_0
                case hyq5_0 => ((intro w hSw; (try dsimp only at hSw); go_simp); try (with_reducible rfl))
                try simp only [Act.put, List.setIfInBounds_toArray, List.set_cons_zero, List.set_cons_succ]
                refine wpAnyH_take (i := 1) (oi := _) (v := ?vq5_1) (by simp only [List.getElem?_toArray, List.getElem?_cons_succ, List.getElem?_cons_zero]; rfl) (by kernel_rfl) (by kernel_rfl) (by kernel_rfl) (by intro _ _ _ h; exact h) (Or.inl ⟨by rfl, ?hyq5_1⟩) (by assumption) ?restq5_1
                case hyq5_1 => ((intro w hSw; (try dsimp only at hSw); go_simp); try (with_reducible rfl))
                try simp only [Act.put, List.setIfInBounds_toArray, List.set_cons_zero, List.set_cons_succ]
                refine wpAnyH_take (i := 2) (oi := _) (v := ?vq5_2) (by simp only [List.getElem?_toArray, List.getElem?_cons_succ, List.getElem?_cons_zero]; rfl) (by kernel_rfl) (by kernel_rfl) (by kernel_rfl) (by intro _ _ _ h; exact h) (Or.inl ⟨by rfl, ?hyq5_2⟩) (by assumption) ?restq5_2
                case hyq5_2 => ((intro w hSw; (try dsimp only at hSw); go_simp); try (with_reducible rfl))
                try simp only [Act.put, List.setIfInBounds_toArray, List.set_cons_zero, List.set_cons_succ]
                refine wpAnyH_take (i := 3) (oi := _) (v := ?vq5_3) (by simp only [List.getElem?_toArray, List.getElem?_cons_succ, List.getElem?_cons_zero]; rfl) (by kernel_rfl) (by kernel_rfl) (by kernel_rfl) (by intro _ _ _ h; exact h) (Or.inl ⟨by rfl, ?hyq5_3⟩) (by assumption) ?restq5_3
                case hyq5_3 => ((intro w hSw; (try dsimp only at hSw); go_simp); try (with_reducible rfl))
                try simp only [Act.put, List.setIfInBounds_toArray, List.set_cons_zero, List.set_cons_succ]
                refine wpAnyH_ready (rs := [4]) (by kernel_rfl) (by simp) ?_
                refine AllReadyH.cons rfl (fun K hK => ?_) AllReadyH.nil
                go_simp
                go_wp2_with (go_at_call 16; (with_reducible refine (CL.out _ HB10.out.drew).mono ?_); rintro e w11 ⟨rfl, hbb11⟩; have hb11 := (Below.refl _ w10).drew.trans hbb11)
                refine hK.out _ _ ?_ (fun hHeld2 => ?_)
                · exact ud_mk E10 D9 hb11
                clear hK K hHeld
                have hHeld := hHeld2
                clear hHeld2
                refine wpAnyH_take (i := 5) (oi := _) (v := ?vq5_5) (by simp only [List.getElem?_toArray, List.getElem?_cons_succ, List.getElem?_cons_zero]; rfl) (by kernel_rfl) (by kernel_rfl) (by kernel_rfl) (by intro _ _ _ h; exact h) (Or.inl ⟨by rfl, ?hyq5_5⟩) (by assumption) ?restq5_5
                case hyq5_5 => ((intro w hSw; (try dsimp only at hSw); go_simp); try (with_reducible rfl))
                try simp only [Act.put, List.setIfInBounds_toArray, List.set_cons_zero, List.set_cons_succ]
                refine wpAnyH_take (i := 6) (oi := _) (v := ?vq5_6) (by simp only [List.getElem?_toArray, List.getElem?_cons_succ, List.getElem?_cons_zero]; rfl) (by kernel_rfl) (by kernel_rfl) (by kernel_rfl) (by intro _ _ _ h; exact h) (Or.inl ⟨by rfl, ?hyq5_6⟩) (by assumption) ?restq5_6
                case hyq5_6 => ((intro w hSw; (try dsimp only at hSw); go_simp); try (with_reducible rfl))
                try simp only [Act.put, List.setIfInBounds_toArray, List.set_cons_zero, List.set_cons_succ]
                refine wpAnyH_take (i := 7) (oi := _) (v := ?vq5_7) (by simp only [List.getElem?_toArray, List.getElem?_cons_succ, List.getElem?_cons_zero]; rfl) (by kernel_rfl) (by kernel_rfl) (by kernel_rfl) (by intro _ _ _ h; exact h) (Or.inl ⟨by rfl, ?hyq5_7⟩) (by assumption) ?restq5_7
                case hyq5_7 => ((intro w hSw; (try dsimp only at hSw); go_simp); try (with_reducible rfl))
                try simp only [Act.put, List.setIfInBounds_toArray, List.set_cons_zero, List.set_cons_succ]
                refine wpAnyH_take (i := 8) (oi := _) (v := ?vq5_8) (by simp only [List.getElem?_toArray, List.getElem?_cons_succ, List.getElem?_cons_zero]; rfl) (by kernel_rfl) (by kernel_rfl) (by kernel_rfl) (by intro _ _ _ h; exact h) (Or.inl ⟨by rfl, ?hyq5_8⟩) (by assumption) ?restq5_8
                case hyq5_8 => ((intro w hSw; (try dsimp only at hSw); go_simp); try (with_reducible rfl))
                try simp only [Act.put, List.setIfInBounds_toArray, List.set_cons_zero, List.set_cons_succ]
                refine wpAnyH_take (i := 9) (oi := _) (v := ?vq5_9) (by simp only [List.getElem?_toArray, List.getElem?_cons_succ, List.getElem?_cons_zero]; rfl) (by kernel_rfl) (by kernel_rfl) (by kernel_rfl) (by intro _ _ _ h; exact h) (Or.inl ⟨by rfl, ?hyq5_9⟩) (by assumption) ?restq5_9
                case hyq5_9 => ((intro w hSw; (try dsimp only at hSw); go_simp); try (with_reducible rfl))
                try simp only [Act.put, List.setIfInBounds_toArray, List.set_cons_zero, List.set_cons_succ]
                refine wpAnyH_take (i := 10) (oi := _) (v := ?vq5_10) (by simp only [List.getElem?_toArray, List.getElem?_cons_succ, List.getElem?_cons_zero]; rfl) (by kernel_rfl) (by kernel_rfl) (by kernel_rfl) (by intro _ _ _ h; exact h) (Or.inl ⟨by rfl, ?hyq5_10⟩) (by assumption) ?restq5_10
                case hyq5_10 => ((intro w hSw; (try dsimp only at hSw); go_simp); try (with_reducible rfl))
                try simp only [Act.put, List.setIfInBounds_toArray, List.set_cons_zero, List.set_cons_succ]
                refine wpAnyH_take (i := 11) (oi := _) (v := ?vq5_11) (by simp only [List.getElem?_toArray, List.getElem?_cons_succ, List.getElem?_cons_zero]; rfl) (by kernel_rfl) (by kernel_rfl) (by kernel_rfl) (by intro _ _ _ h; exact h) (Or.inl ⟨by rfl, ?hyq5_11⟩) (by assumption) ?restq5_11
                case hyq5_11 => ((intro w hSw; (try dsimp only at hSw); go_simp); try (with_reducible rfl))
                try simp only [Act.put, List.setIfInBounds_toArray, List.set_cons_zero, List.set_cons_succ]
                refine wpAnyH_take (i := 12) (oi := _) (v := ?vq5_12) (by simp only [List.getElem?_toArray, List.getElem?_cons_succ, List.getElem?_cons_zero]; rfl) (by kernel_rfl) (by kernel_rfl) (by kernel_rfl) (by intro _ _ _ h; exact h) (Or.inl ⟨by rfl, ?hyq5_12⟩) (by assumption) ?restq5_12
                case hyq5_12 => ((intro w hSw; (try dsimp only at hSw); go_simp); try (with_reducible rfl))
                try simp only [Act.put, List.setIfInBounds_toArray, List.set_cons_zero, List.set_cons_succ]
                refine wpAnyH_take (i := 13) (oi := _) (v := ?vq5_13) (by simp only [List.getElem?_toArray, List.getElem?_cons_succ, List.getElem?_cons_zero]; rfl) (by kernel_rfl) (by kernel_rfl) (by kernel_rfl) (by intro _ _ _ h; exact h) (Or.inl ⟨by rfl, ?hyq5_13⟩) (by assumption) ?restq5_13
                case hyq5_13 => ((intro w hSw; (try dsimp only at hSw); go_simp); try (with_reducible rfl))
                try simp only [Act.put, List.setIfInBounds_toArray, List.set_cons_zero, List.set_cons_succ]
                refine wpAnyH_take (i := 14) (oi := _) (v := ?vq5_14) (by simp only [List.getElem?_toArray, List.getElem?_cons_succ, List.getElem?_cons_zero]; rfl) (by kernel_rfl) (by kernel_rfl) (by kernel_rfl) (by intro _ _ _ h; exact h) (Or.inl ⟨by rfl, ?hyq5_14⟩) (by assumption) ?restq5_14
                case hyq5_14 => ((intro w hSw; (try dsimp only at hSw); go_simp); try (with_reducible rfl))
                try simp only [Act.put, List.setIfInBounds_toArray, List.set_cons_zero, List.set_cons_succ]
                refine wpAnyH_done (by kernel_rfl) ?_ _
                have E11 := E10.next hb11
                have P11 := P10.next hb11
                have D11 := D9.next hb11
                have HB9 := Lib.hid (HB10.out.trans (hb11.mono HB10.out.size))
                clear z0 z1 z2 z3 z4 z5 p0 p1 p2 p3 p4 p5 p6 p7 y0 y1 y2 y3 hHeld
                have z0 := E11.c 0 rfl; have z1 := E11.c 1 rfl; have z2 := E11.c 2 rfl; have z3 := E11.c 3 rfl; have z4 := E11.c 4 rfl; have z5 := E11.c 5 rfl
                have p0 := P11.c 0 rfl; have p1 := P11.c 1 rfl; have p2 := P11.c 2 rfl; have p3 := P11.c 3 rfl; have p4 := P11.c 4 rfl; have p5 := P11.c 5 rfl; have p6 := P11.c 6 rfl; have p7 := P11.c 7 rfl
                have y0 := D11.c 0 rfl; have y1 := D11.c 1 rfl; have y2 := D11.c 2 rfl; have y3 := D11.c 3 rfl
                have m11 := E11.lt
                have n11 := P11.lt
                have o11 := D11.lt
                have hk2 : ((kd : Int) == 2) = false := by rcases HKF.out (by trivial) with h | h <;> rw [h] <;> rfl
                have hk3 : ((kd : Int) != 2) = true := by rcases HKF.out (by trivial) with h | h <;> rw [h] <;> rfl
                go_wp2_with fail
                go_ret
                exact ⟨rfl, HB9.out⟩
end Go.Proofs.YtkobhknggamejaaGreatDoor
