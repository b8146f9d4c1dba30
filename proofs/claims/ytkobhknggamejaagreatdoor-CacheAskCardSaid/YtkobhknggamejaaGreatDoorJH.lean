/- Cache: the reference's Ask. -/
import Derived.Test.YtkobhknggamejaaGreatDoorHS
import Derived.Test.YtkobhknggamejaaGreatDoorHY
import Derived.Test.YtkobhknggamejaaGreatDoorHI
import Derived.Test.YtkobhknggamejaaGreatDoorJC
namespace Go.Proofs.YtkobhknggamejaaGreatDoor
set_option linter.unusedVariables false
set_option linter.unusedSimpArgs false
open Go.RowKit

theorem ret8t_run {P : Program} {fn : Func} {q T r : Nat} (hr : fn.results = #[.cell q T, .tmp r]) (hz : ∀ w, (Go.sizeOf T).run P w = .ok 8 w) (ha : ∀ w, (isAgg T).run P w = .ok true w) (tmps : Array Value) (W : World) (k : Nat) (a b c d e f g h x : Value) (h2 : tmps.getD q undef = .pointer (some ⟨k, 0, none⟩)) (h3 : tmps.getD r undef = x) (hA : AtL W k [a, b, c, d, e, f, g, h]) :
    (results fn tmps).run P W = .ok (.tuple #[.agg #[a, b, c, d, e, f, g, h], x]) W := by
  have c0 := hA.c 0 rfl
  have c1 := hA.c 1 rfl
  have c2 := hA.c 2 rfl
  have c3 := hA.c 3 rfl
  have c4 := hA.c 4 rfl
  have c5 := hA.c 5 rfl
  have c6 := hA.c 6 rfl
  have c7 := hA.c 7 rfl
  rw [Array.getD_eq_getD_getElem?] at h2 h3
  simp [results, hr, h2, h3, go_sem, hz, ha, c0, c1, c2, c3, c4, c5, c6, c7]
/-- what the reference's Ask answers -/
def RAskQ (w : World) (k : Int) (en : En) (hs : List Hd) (l' : List Ee) (e : Ending) (w' : World) : Prop := ∃ (r : Er) (u v' : Value), e = .returned (.tuple #[.agg #[.int .i64 k, .string r.u, r.vv, .int .i64 r.st, r.hv, .string r.bo, .int .i64 r.ti, u], v']) ∧ Rd w' r en ∧ SlK hdC 2 w' u hs ∧ SlK eeC 6 w' v' l' ∧ (∀ y ∈ l', Rd w' y.1 y.2) ∧ Below w.heap.size w w'
theorem below_set8 {B k : Nat} {w W : World} (h : Below B w W) (hk : B ≤ k) (a b c d e f g x : Value) : Below B w (set8 W k a b c d e f g x) :=
  (((((((h.setCell (p := ⟨k, 0, none⟩) hk a).setCell (p := ⟨k, 1, none⟩) hk b).setCell (p := ⟨k, 2, none⟩) hk c).setCell (p := ⟨k, 3, none⟩) hk d).setCell (p := ⟨k, 4, none⟩) hk e).setCell (p := ⟨k, 5, none⟩) hk f).setCell (p := ⟨k, 6, none⟩) hk g).setCell (p := ⟨k, 7, none⟩) hk x
set_option maxRecDepth 20000 in
set_option maxHeartbeats 2000000 in
theorem rask_no (l : List Ee) (v : Value) (url : ByteArray) (rq : List Hd) (vr : Value) (now : Int) (w : World) (hv : SlK eeC 6 w v l) (hr : ∀ x ∈ l, Rd w x.1 x.2) (hz : ∀ x ∈ l, HdSz x.2.va ∧ HdSz x.2.hd) (hl : l.length ≤ 1000) (hq : SlK hdC 2 w vr rq) (hzq : HdSz rq) (R : Int) (hR : LastAt (fun x => ansB x.2 url rq) l R) (D : Dir) (hD : dirL rq = D) (hno : R = -1 ∨ D.ns = true) :
    Calls Tryz.prog 25 #[v, .string url, vr, .int .i64 now] w (RAskQ w 1 en0 [] l) := by
  have hbd := hR.bd
  have R0 := AtL.new w pl0 45
  have hB0 : Below w.heap.size w (w.alloc (.cells pl0.toArray 45)) := (Below.refl _ w).alloc (Nat.le_refl _) _
  have CD := Lib.hid (fun (w' : World) (hb : Below w.heap.size w w') => (rdir_is rq vr w' (hq.below hb (Nat.le_refl _)) hzq D hD))
  have CLa := Lib.hid (fun (w' : World) (hb : Below w.heap.size w w') => rlast_is l v url rq vr w' (hv.below hb (Nat.le_refl _)) (fun x hx => (hr x hx).below hb (Nat.le_refl _)) (fun x hx => (hz x hx).1) (hq.below hb (Nat.le_refl _)) hzq (by omega) R hR)
  have HV := Lib.hid hv
  have HRD := Lib.hid hr
  have HQ := Lib.hid hq
  obtain ⟨va, vc, rfl, _⟩ := hv.shape
  obtain ⟨qa, qc, rfl, _⟩ := hq.shape
  obtain ⟨d1, d2, d3, d4⟩ := D
  by_cases hR1 : R = -1
  · subst hR1
    clear hno hD hR hv hr hz hq hbd
    go_enter Tryz.func25, Tryz.ntmps25
    go_wp2_with (first
      | (go_at_call 15; (with_reducible refine (CD.out _ hB0).mono ?_); rintro e w1 ⟨rfl, hb1⟩; have hB1 := hB0.trans (hb1.mono hB0.size); have hB2 := hB1.alloc hB1.size (.cells #[.bool d1, .bool d2, .bool d3, .int .i64 d4] 28); have D2 := AtL.new w1 [.bool d1, .bool d2, .bool d3, .int .i64 d4] 28; have R2 := (R0.next hb1).alloc (.cells #[.bool d1, .bool d2, .bool d3, .int .i64 d4] 28))
      | (go_at_call 36; (with_reducible refine (CLa.out _ hB2).mono ?_); rintro e w3 ⟨rfl, hb3⟩; have hB3 := hB2.trans (hb3.mono hB2.size); have D3 := D2.next hb3; have R3 := R2.next hb3; have y0 := D3.c 0 rfl; have y1 := D3.c 1 rfl; have y2 := D3.c 2 rfl; have y3 := D3.c 3 rfl; have dl3 := D3.lt; have r0 := R3.c 0 rfl; have r1 := R3.c 1 rfl; have r2 := R3.c 2 rfl; have r3 := R3.c 3 rfl; have r4 := R3.c 4 rfl; have r5 := R3.c 5 rfl; have r6 := R3.c 6 rfl; have r7 := R3.c 7 rfl; have g0 := R3.f 0 rfl; have g1 := R3.f 1 rfl; have g2 := R3.f 2 rfl; have g3 := R3.f 3 rfl; have g4 := R3.f 4 rfl; have g5 := R3.f 5 rfl; have g6 := R3.f 6 rfl; have g7 := R3.f 7 rfl; have rl3 := R3.lt)
      )
    have RF := R3.set8 rfl (.int .i64 1) (.string ⟨#[]⟩) (.slice none 0 0) (.int .i64 0) (.slice none 0 0) (.string ⟨#[]⟩) (.int .i64 0) (.slice none 0 0)
    have BF := below_set8 hB3 (Nat.le_refl _) (.int .i64 1) (.string ⟨#[]⟩) (.slice none 0 0) (.int .i64 0) (.slice none 0 0) (.string ⟨#[]⟩) (.int .i64 0) (.slice none 0 0)
    exact bodyPost_ret (ret8t_run Tryz.results25 Tryz.sizeOf45 Tryz.isAgg45 _ _ w.heap.size _ _ _ _ _ _ _ _ _ rfl rfl RF) rfl ⟨⟨⟨#[]⟩, .slice none 0 0, 0, .slice none 0 0, ⟨#[]⟩, 0⟩, .slice none 0 0, _, rfl, rd0 _, slk0 _, HV.out.below BF (Nat.le_refl _), fun y hy => (HRD.out y hy).below BF (Nat.le_refl _), BF⟩
  · obtain rfl : d1 = true := by rcases hno with h | h; · exact absurd h hR1
                                 · exact h
    have hRn : ¬ R < 0 := by omega
    have hRd : decide (R < 0) = false := decide_eq_false hRn
    clear hno hD hR hv hr hz hq hbd hR1
    go_enter Tryz.func25, Tryz.ntmps25
    go_wp2_with (first
      | (go_at_call 15; (with_reducible refine (CD.out _ hB0).mono ?_); rintro e w1 ⟨rfl, hb1⟩; have hB1 := hB0.trans (hb1.mono hB0.size); have hB2 := hB1.alloc hB1.size (.cells #[.bool true, .bool d2, .bool d3, .int .i64 d4] 28); have D2 := AtL.new w1 [.bool true, .bool d2, .bool d3, .int .i64 d4] 28; have R2 := (R0.next hb1).alloc (.cells #[.bool true, .bool d2, .bool d3, .int .i64 d4] 28))
      | (go_at_call 36; (with_reducible refine (CLa.out _ hB2).mono ?_); rintro e w3 ⟨rfl, hb3⟩; have hB3 := hB2.trans (hb3.mono hB2.size); have D3 := D2.next hb3; have R3 := R2.next hb3; have y0 := D3.c 0 rfl; have y1 := D3.c 1 rfl; have y2 := D3.c 2 rfl; have y3 := D3.c 3 rfl; have dl3 := D3.lt; have r0 := R3.c 0 rfl; have r1 := R3.c 1 rfl; have r2 := R3.c 2 rfl; have r3 := R3.c 3 rfl; have r4 := R3.c 4 rfl; have r5 := R3.c 5 rfl; have r6 := R3.c 6 rfl; have r7 := R3.c 7 rfl; have g0 := R3.f 0 rfl; have g1 := R3.f 1 rfl; have g2 := R3.f 2 rfl; have g3 := R3.f 3 rfl; have g4 := R3.f 4 rfl; have g5 := R3.f 5 rfl; have g6 := R3.f 6 rfl; have g7 := R3.f 7 rfl; have rl3 := R3.lt)
      )
    have RF := R3.set8 rfl (.int .i64 1) (.string ⟨#[]⟩) (.slice none 0 0) (.int .i64 0) (.slice none 0 0) (.string ⟨#[]⟩) (.int .i64 0) (.slice none 0 0)
    have BF := below_set8 hB3 (Nat.le_refl _) (.int .i64 1) (.string ⟨#[]⟩) (.slice none 0 0) (.int .i64 0) (.slice none 0 0) (.string ⟨#[]⟩) (.int .i64 0) (.slice none 0 0)
    exact bodyPost_ret (ret8t_run Tryz.results25 Tryz.sizeOf45 Tryz.isAgg45 _ _ w.heap.size _ _ _ _ _ _ _ _ _ rfl rfl RF) rfl ⟨⟨⟨#[]⟩, .slice none 0 0, 0, .slice none 0 0, ⟨#[]⟩, 0⟩, .slice none 0 0, _, rfl, rd0 _, slk0 _, HV.out.below BF (Nat.le_refl _), fun y hy => (HRD.out y hy).below BF (Nat.le_refl _), BF⟩
end Go.Proofs.YtkobhknggamejaaGreatDoor
