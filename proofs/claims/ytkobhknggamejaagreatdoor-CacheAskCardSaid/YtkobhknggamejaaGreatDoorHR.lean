/- Cache: Ask. -/
import Derived.Test.YtkobhknggamejaaGreatDoorHQ
namespace Go.Proofs.YtkobhknggamejaaGreatDoor
set_option linter.unusedVariables false
set_option linter.unusedSimpArgs false
open Go.RowKit

def en0 : En := ⟨⟨#[]⟩, [], 0, [], ⟨#[]⟩, 0⟩
/-- whether an entry is used without a question -/
def useB (D : Dir) (e : En) (now : Int) : Bool := freshE e now && (!D.nc && (decide (D.ma < 0) || decide (ageE e.ti now ≤ 1000 * D.ma)))
/-- the plan for an entry that answers -/
def planE (D : Dir) (e : En) (now : Int) : Int × En × List Hd := if useB D e now then (2, e, []) else if chkL e.hd = [] then (1, en0, []) else (3, e, chkL e.hd)
abbrev set8 (W : World) (k : Nat) (a b c d e f g h : Value) : World := (((((((W.setCell ⟨k, 0, none⟩ a).setCell ⟨k, 1, none⟩ b).setCell ⟨k, 2, none⟩ c).setCell ⟨k, 3, none⟩ d).setCell ⟨k, 4, none⟩ e).setCell ⟨k, 5, none⟩ f).setCell ⟨k, 6, none⟩ g).setCell ⟨k, 7, none⟩ h
theorem AtL.set8 {W : World} {k : Nat} {vs : List Value} (hv : AtL W k vs) (hl : vs.length = 8) (a b c d e f g h : Value) : AtL (set8 W k a b c d e f g h) k [a, b, c, d, e, f, g, h] := by
  match vs, hl with
  | [_, _, _, _, _, _, _, _], _ => exact (((((((hv.set 0 a).set 1 b).set 2 c).set 3 d).set 4 e).set 5 f).set 6 g).set 7 h
theorem ret8_run {P : Program} {fn : Func} {q T : Nat} (hr : fn.results = #[.cell q T]) (hz : ∀ w, (Go.sizeOf T).run P w = .ok 8 w) (ha : ∀ w, (isAgg T).run P w = .ok true w) (tmps : Array Value) (W : World) (k : Nat) (a b c d e f g h : Value) (h2 : tmps.getD q undef = .pointer (some ⟨k, 0, none⟩)) (hA : AtL W k [a, b, c, d, e, f, g, h]) :
    (results fn tmps).run P W = .ok (.agg #[a, b, c, d, e, f, g, h]) W := by
  have c0 := hA.c 0 rfl
  have c1 := hA.c 1 rfl
  have c2 := hA.c 2 rfl
  have c3 := hA.c 3 rfl
  have c4 := hA.c 4 rfl
  have c5 := hA.c 5 rfl
  have c6 := hA.c 6 rfl
  have c7 := hA.c 7 rfl
  rw [Array.getD_eq_getD_getElem?] at h2
  simp [results, hr, h2, go_sem, hz, ha, c0, c1, c2, c3, c4, c5, c6, c7]
/-- what Ask answers, and what the cache is then -/
def AskQ (w : World) (jb B : Nat) (v : Value) (k : Int) (en : En) (hs : List Hd) (l' : List Ee) (e : Ending) (w' : World) : Prop :=
  ∃ (r : Er) (u : Value), e = .returned (.agg #[.int .i64 k, .string r.u, r.vv, .int .i64 r.st, r.hv, .string r.bo, .int .i64 r.ti, u]) ∧ Rd w' r en ∧ SlK hdC 2 w' u hs ∧ CaTo w jb B v l' w'
theorem rd0 (w : World) : Rd w ⟨⟨#[]⟩, .slice none 0 0, 0, .slice none 0 0, ⟨#[]⟩, 0⟩ en0 := ⟨rfl, rfl, rfl, rfl, .inl ⟨rfl, none, 0, rfl, Nat.zero_le _⟩, .inl ⟨rfl, none, 0, rfl, Nat.zero_le _⟩⟩
theorem slk0 (w : World) : SlK hdC 2 w (.slice none 0 0) ([] : List Hd) := .inl ⟨rfl, none, 0, rfl, Nat.zero_le _⟩
theorem slk_new {hs : List Hd} {u : Value} {w : World} {q : Nat} (h : SlK hdC 2 w u hs) (hq : w.heap.size ≤ q) : FarV hs u q none := by
  intro h0 b off n c e
  rcases h with ⟨h1, _⟩ | ⟨_, b2, off2, cap, hv, _, _, h4, _⟩
  · exact absurd h1 h0
  · rw [hv] at e
    injection e with e1 _ _
    injection e1 with e1
    injection e1 with e1
    exact ⟨by omega, by simp⟩
theorem FarE.new {x : Ee} {w : World} {q : Nat} (h : Rd w x.1 x.2) (hq : w.heap.size ≤ q) : FarE x q none := ⟨slk_new h.va hq, slk_new h.hd hq⟩
/-- an entry whose headers lie in new memory -/
def NewE (x : Ee) (N : Nat) : Prop := (∀ b off n k, x.1.vv = .slice (some ⟨b, off, none⟩) n k → N ≤ b) ∧ (∀ b off n k, x.1.hv = .slice (some ⟨b, off, none⟩) n k → N ≤ b)
theorem NewE.far {x : Ee} {N q : Nat} {o : Option Nat} (h : NewE x N) (hq : q < N) (ho : ∀ b, o = some b → b < N) : FarE x q o :=
  ⟨fun _ b off n c e => ⟨by have := h.1 b off n c e; omega, fun e2 => by have := h.1 b off n c e; have := ho b e2; omega⟩, fun _ b off n c e => ⟨by have := h.2 b off n c e; omega, fun e2 => by have := h.2 b off n c e; have := ho b e2; omega⟩⟩
theorem rd_set {x : Ee} {w : World} (h : Rd w x.1 x.2) (p : Addr) (u : Value) (hf : FarE x p.block none) : Rd (w.setCell p u) x.1 x.2 :=
  h.row ((RowBut.refl w.heap.size p.block none w).setCell p (Or.inl rfl) u) (Nat.le_refl _) hf
theorem ca_set {w : World} {jb B : Nat} {v : Value} {l : List Ee} (h : CaIn w jb B v l) (p : Addr) (x : Value) (h1 : p.block ≠ jb) (h2 : v.ownBlock ≠ some p.block) (h3 : ∀ y ∈ l, FarE y p.block none) : CaIn (w.setCell p x) jb B v l :=
  ⟨h.at_.far p x h1, ownsRow_setCell_other (a := p) h.own h2 x, h.ne, by rw [World.size_setCell]; exact h.le, fun y hy => rd_set (h.rd y hy) p x (h3 y hy), h.far⟩
theorem hown_lt {w : World} {b e s n : Nat} {v : Value} {xs : List Value} (h : w.ownsRow b e s v n xs) : ∀ g, v.ownBlock = some g → g < w.heap.size := by
  intro g hg
  rcases h.2 with ⟨rfl, _⟩ | ⟨g', cap, cur, rfl, hb, hh, _⟩
  · simp [Value.ownBlock] at hg
  · simp only [Value.ownBlock, Option.some.injEq] at hg
    subst hg
    exact (Array.getElem?_eq_some_iff.1 hh).1
theorem cato_set {w W6 W7 : World} {jb B Rb : Nat} {v : Value} {l l' : List Ee} (hJ : CaIn w jb B v l) (hsub : ∀ y ∈ l', y ∈ l) (hR : w.heap.size ≤ Rb) (hR6 : Rb < W6.heap.size)
    (h : (∃ v', CaIn W7 jb B v' l' ∧ RowTo v v' W6.heap.size) ∧ RowBut w.heap.size jb v.ownBlock w W7) (o : Nat) (x : Value) : (∃ v', CaIn (W7.setCell ⟨Rb, o, none⟩ x) jb B v' l' ∧ RowTo v v' W6.heap.size) ∧ RowBut w.heap.size jb v.ownBlock w (W7.setCell ⟨Rb, o, none⟩ x) := by
  obtain ⟨⟨v', h1, h2⟩, h3⟩ := h
  have hjl := hJ.at_.lt
  refine ⟨⟨v', ca_set h1 ⟨Rb, o, none⟩ x (by show Rb ≠ jb; omega) (fun e => ?_) (fun y hy => FarE.new (hJ.rd y (hsub y hy)) hR), h2⟩, h3.setCell ⟨Rb, o, none⟩ (Or.inr (Or.inr hR)) x⟩
  rcases h2 Rb e with h4 | h4
  · have := hown_lt hJ.own Rb h4; omega
  · omega
theorem cato_fin {w W6 W7 : World} {jb B Rb : Nat} {v : Value} {l l' : List Ee} (hJ : CaIn w jb B v l) (hb : Below w.heap.size w W6) (h : CaTo W6 jb B v l' W7) (hsub : ∀ y ∈ l', y ∈ l) (hR : w.heap.size ≤ Rb) (hR6 : Rb < W6.heap.size) (x0 x1 x2 x3 x4 x5 x6 x7 : Value) : CaTo w jb B v l' (set8 W7 Rb x0 x1 x2 x3 x4 x5 x6 x7) := by
  have h0 : (∃ v', CaIn W7 jb B v' l' ∧ RowTo v v' W6.heap.size) ∧ RowBut w.heap.size jb v.ownBlock w W7 := ⟨h.1, ((RowBut.refl w.heap.size jb v.ownBlock w).below hb (Nat.le_refl _)).trans (h.2.mono hb.size)⟩
  have c := fun (W : World) h (o : Nat) (x : Value) => cato_set (W7 := W) (W6 := W6) hJ hsub hR hR6 h o x
  obtain ⟨⟨v', h1, h2⟩, h3⟩ := c _ (c _ (c _ (c _ (c _ (c _ (c _ (c _ h0 0 x0) 1 x1) 2 x2) 3 x3) 4 x4) 5 x5) 6 x6) 7 x7
  exact ⟨⟨v', h1, fun g e => (h2 g e).imp id (fun h => Nat.le_trans hb.size h)⟩, h3⟩
theorem rd_set8 {x : Ee} {w : World} {k : Nat} (h : Rd w x.1 x.2) (hf : FarE x k none) (x0 x1 x2 x3 x4 x5 x6 x7 : Value) : Rd (set8 w k x0 x1 x2 x3 x4 x5 x6 x7) x.1 x.2 := by
  have c := fun (w : World) (h : Rd w x.1 x.2) (o : Nat) (u : Value) => rd_set h ⟨k, o, none⟩ u hf
  exact c _ (c _ (c _ (c _ (c _ (c _ (c _ (c _ h 0 x0) 1 x1) 2 x2) 3 x3) 4 x4) 5 x5) 6 x6) 7 x7
theorem slk_set8 {hs : List Hd} {u : Value} {w : World} {k : Nat} (h : SlK hdC 2 w u hs) (hf : ∀ b off n c, u = .slice (some ⟨b, off, none⟩) n c → b ≠ k) (x0 x1 x2 x3 x4 x5 x6 x7 : Value) : SlK hdC 2 (set8 w k x0 x1 x2 x3 x4 x5 x6 x7) u hs := by
  have c := fun (w : World) (h : SlK hdC 2 w u hs) (o : Nat) (x : Value) => slk_cell h ⟨k, o, none⟩ x hf
  exact c _ (c _ (c _ (c _ (c _ (c _ (c _ (c _ h 0 x0) 1 x1) 2 x2) 3 x3) 4 x4) 5 x5) 6 x6) 7 x7
abbrev pl0 : List Value := [.int .i64 0, .string ⟨#[]⟩, .slice none 0 0, .int .i64 0, .slice none 0 0, .string ⟨#[]⟩, .int .i64 0, .slice none 0 0]
abbrev dirV (a b c : Bool) (d : Int) : Value := .agg #[.bool a, .bool b, .bool c, .int .i64 d]
/-- the end of Ask: the plan without an entry -/
theorem ask_send {w W6 : World} {jb B Rb : Nat} {v : Value} {l : List Ee} {tmps : Array Value} (hJ : CaIn w jb B v l) (hb : Below w.heap.size w W6) (hR : w.heap.size ≤ Rb) (A6 : AtL W6 Rb pl0) (h2 : tmps.getD 8 undef = .pointer (some ⟨Rb, 0, none⟩)) :
    bodyPost Tryz.prog Tryz.f24 (AskQ w jb B v 1 en0 [] l) .ret { tmps := tmps, defers := [] } (set8 W6 Rb (.int .i64 1) (.string ⟨#[]⟩) (.slice none 0 0) (.int .i64 0) (.slice none 0 0) (.string ⟨#[]⟩) (.int .i64 0) (.slice none 0 0)) :=
  bodyPost_ret (ret8_run Tryz.results24 Tryz.sizeOf45 Tryz.isAgg45 _ _ Rb _ _ _ _ _ _ _ _ h2 (A6.set8 rfl _ _ _ _ _ _ _ _)) rfl
    ⟨⟨⟨#[]⟩, .slice none 0 0, 0, .slice none 0 0, ⟨#[]⟩, 0⟩, .slice none 0 0, rfl, rd0 _, slk0 _, cato_fin hJ hb (CaTo.refl (hJ.below hb (Nat.le_refl _))) (fun _ h => h) hR A6.lt _ _ _ _ _ _ _ _⟩
set_option maxRecDepth 20000 in
set_option maxHeartbeats 4000000 in
/-- Ask where no entry answers, or nothing may be stored -/
theorem ask_no (jb B : Nat) (v : Value) (l : List Ee) (w : World) (hM : MaxAt w) (hJ : CaIn w jb B v l) (hz : ∀ x ∈ l, HdSz x.2.va ∧ HdSz x.2.hd) (hl : l.length ≤ 1000) (url : ByteArray) (rq : List Hd) (vr : Value) (hq : SlK hdC 2 w vr rq) (hzq : HdSz rq) (now R : Int) (hR : LastAt (fun x => ansB x.2 url rq) l R) (D : Dir) (hD : dirL rq = D) (hno : R = -1 ∨ D.ns = true) :
    Calls Tryz.prog 24 #[.pointer (some ⟨jb, 0, none⟩), .string url, vr, .int .i64 now] w (AskQ w jb B v 1 en0 [] l) := by
  obtain ⟨d1, d2, d3, d4⟩ := D
  have hjl := hJ.at_.lt
  have R0 := AtL.new w pl0 45
  have hB0 : Below w.heap.size w (w.alloc (.cells pl0.toArray 45)) := (Below.refl _ w).alloc (Nat.le_refl _) _
  have J0 := hJ.below hB0 (Nat.le_refl _)
  have q0 := hq.below hB0 (Nat.le_refl _)
  have CF := Lib.hid (find_is jb v l _ J0.at_ J0.reads (fun x hx => ⟨J0.rd x hx, (hz x hx).1⟩) hl url rq vr q0 hzq _ hR)
  have CD := Lib.hid (fun (w : World) hM hv => (dir_is rq vr w hM hv hzq ⟨d1, d2, d3, d4⟩ hD).mono fun e w' (h : e = Ending.returned (dirA ⟨d1, d2, d3, d4⟩) ∧ Below w.heap.size w w') => (show e = Ending.returned (.agg #[.bool d1, .bool d2, .bool d3, .int .i64 d4]) ∧ Below w.heap.size w w' from h))
  have HM := Lib.hid hM
  have HQ := Lib.hid hq
  have HJ := Lib.hid hJ
  obtain ⟨sa, sc, rfl, _⟩ := hq.shape
  obtain ⟨ta, tc, hve, _⟩ := hJ.reads.shape
  have hRb := hR.bd
  by_cases hR1 : R = -1
  · subst hR1
    clear hD hR hq hJ hno hz hM hRb
    go_enter Tryz.func24, Tryz.ntmps24
    go_wp2_with (first
      |
      (go_at_call 55; with_reducible refine CF.out.mono ?_; rintro e w1 ⟨rfl, hb1⟩; have hB1 := hB0.trans (hb1.mono hB0.size))
      | (go_at_call 14; with_reducible refine (CD.out _ (HM.out.below hB1 (Nat.le_refl _)) (HQ.out.below hB1 (Nat.le_refl _))).mono ?_; rintro e w2 ⟨rfl, hb2⟩; have hB2 := hB1.trans (hb2.mono hB1.size); have hB3 := hB2.alloc hB2.size (.cells #[.bool d1, .bool d2, .bool d3, .int .i64 d4] 28); have R3 := ((R0.next hb1).next hb2).alloc (.cells #[.bool d1, .bool d2, .bool d3, .int .i64 d4] 28); have rl3 := R3.lt; have r0 := R3.c 0 rfl; have r1 := R3.c 1 rfl; have r2 := R3.c 2 rfl; have r3 := R3.c 3 rfl; have r4 := R3.c 4 rfl; have r5 := R3.c 5 rfl; have r6 := R3.c 6 rfl; have r7 := R3.c 7 rfl; have g0 := R3.f 0 rfl; have g1 := R3.f 1 rfl; have g2 := R3.f 2 rfl; have g3 := R3.f 3 rfl; have g4 := R3.f 4 rfl; have g5 := R3.f 5 rfl; have g6 := R3.f 6 rfl; have g7 := R3.f 7 rfl)
      )
    exact ask_send HJ.out hB3 (Nat.le_refl _) R3 rfl
  · have hd1 : d1 = true := hno.resolve_left hR1
    subst hd1
    obtain ⟨m, rfl⟩ : ∃ m : Nat, R = (m : Int) := ⟨R.toNat, by omega⟩
    clear hD hR hq hJ hno hz hM hRb hR1
    go_enter Tryz.func24, Tryz.ntmps24
    go_wp2_with (first
      |
      (go_at_call 55; with_reducible refine CF.out.mono ?_; rintro e w1 ⟨rfl, hb1⟩; have hB1 := hB0.trans (hb1.mono hB0.size))
      | (go_at_call 14; with_reducible refine (CD.out _ (HM.out.below hB1 (Nat.le_refl _)) (HQ.out.below hB1 (Nat.le_refl _))).mono ?_; rintro e w2 ⟨rfl, hb2⟩; have hB2 := hB1.trans (hb2.mono hB1.size); have hB3 := hB2.alloc hB2.size (.cells #[.bool true, .bool d2, .bool d3, .int .i64 d4] 28); have R3 := ((R0.next hb1).next hb2).alloc (.cells #[.bool true, .bool d2, .bool d3, .int .i64 d4] 28); have rl3 := R3.lt; have r0 := R3.c 0 rfl; have r1 := R3.c 1 rfl; have r2 := R3.c 2 rfl; have r3 := R3.c 3 rfl; have r4 := R3.c 4 rfl; have r5 := R3.c 5 rfl; have r6 := R3.c 6 rfl; have r7 := R3.c 7 rfl; have g0 := R3.f 0 rfl; have g1 := R3.f 1 rfl; have g2 := R3.f 2 rfl; have g3 := R3.f 3 rfl; have g4 := R3.f 4 rfl; have g5 := R3.f 5 rfl; have g6 := R3.f 6 rfl; have g7 := R3.f 7 rfl)
      )
    exact ask_send HJ.out hB3 (Nat.le_refl _) R3 rfl
end Go.Proofs.YtkobhknggamejaaGreatDoor
