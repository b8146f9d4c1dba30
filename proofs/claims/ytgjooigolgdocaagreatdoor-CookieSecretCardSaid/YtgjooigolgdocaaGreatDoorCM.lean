/- Memory: a struct that lies in a block of its own and may be written. -/
import Derived.Test.YtgjooigolgdocaaGreatDoorUM
namespace Go.Proofs.YtgjooigolgdocaaGreatDoor
set_option linter.unusedVariables false
set_option linter.unusedSimpArgs false
open Go.RowKit

/-- block k begins with these cells, and they may be written -/
def AtL (W : World) (k : Nat) (vs : List Value) : Prop := k < W.heap.size ∧ ∀ j v, vs[j]? = some v → W.cell? ⟨k, j, none⟩ = some v ∧ W.frozen? ⟨k, j, none⟩ = false
theorem AtL.lt {W : World} {k : Nat} {vs : List Value} (h : AtL W k vs) : k < W.heap.size := h.1
theorem AtL.c {W : World} {k : Nat} {vs : List Value} (h : AtL W k vs) (j : Nat) {v : Value} (hv : vs[j]? = some v) : W.cell? ⟨k, j, none⟩ = some v := (h.2 j v hv).1
theorem AtL.f {W : World} {k : Nat} {vs : List Value} (h : AtL W k vs) (j : Nat) {v : Value} (hv : vs[j]? = some v) : W.frozen? ⟨k, j, none⟩ = false := (h.2 j v hv).2
theorem AtL.below {W W' : World} {k n : Nat} {vs : List Value} (h : AtL W k vs) (hb : Below n W W') (hk : k < n) : AtL W' k vs :=
  ⟨Nat.lt_of_lt_of_le h.1 hb.size, fun j v hv => ⟨(hb.cell (p := ⟨k, j, none⟩) hk).trans (h.c j hv), (hb.frozen (p := ⟨k, j, none⟩) hk).trans (h.f j hv)⟩⟩
theorem AtL.next {W W' : World} {k : Nat} {vs : List Value} (h : AtL W k vs) (hb : Below W.heap.size W W') : AtL W' k vs := h.below hb h.1
theorem AtL.alloc {W : World} {k : Nat} {vs : List Value} (h : AtL W k vs) (o : Obj) : AtL (W.alloc o) k vs := h.below ((Below.refl _ W).alloc (Nat.le_refl _) o) h.1
theorem AtL.drew {W : World} {k : Nat} {vs : List Value} (h : AtL W k vs) : AtL W.drew k vs := h
theorem AtL.drewN {W : World} {k : Nat} {vs : List Value} (h : AtL W k vs) (n : Nat) : AtL (W.drewN n) k vs := h
theorem AtL.set {W : World} {k : Nat} {vs : List Value} (h : AtL W k vs) (i : Nat) (v : Value) : AtL (W.setCell ⟨k, i, none⟩ v) k (vs.set i v) := by
  refine ⟨by rw [World.size_setCell]; exact h.1, fun j u hu => ?_⟩
  have hj : j < vs.length := by
    rcases Nat.lt_or_ge j vs.length with h1 | h1
    · exact h1
    · rw [List.getElem?_eq_none (by simpa using h1)] at hu; cases hu
  have h0 := h.c j (List.getElem?_eq_getElem hj)
  have hf := h.f j (List.getElem?_eq_getElem hj)
  refine ⟨?_, by rw [World.frozen?_setCell]; exact hf⟩
  by_cases e : i = j
  · subst e
    rw [List.getElem?_set_self hj] at hu
    injection hu with hu
    subst hu
    exact World.cell?_setCell_same' W _ v (by rw [h0]; rfl)
  · rw [List.getElem?_set_ne e] at hu
    rw [World.cell?_setCell_other W _ _ v (fun q => e (by cases q; rfl))]
    exact h.c j hu
theorem AtL.far {W : World} {k : Nat} {vs : List Value} (h : AtL W k vs) (p : Addr) (v : Value) (hp : p.block ≠ k) : AtL (W.setCell p v) k vs := by
  refine ⟨by rw [World.size_setCell]; exact h.1, fun j u hu => ⟨?_, by rw [World.frozen?_setCell]; exact h.f j hu⟩⟩
  rw [World.cell?_setCell_other W _ _ v (fun q => hp (by rw [q]))]
  exact h.c j hu
theorem AtL.new (w : World) (vs : List Value) (T : TypeId) : AtL (w.alloc (.cells vs.toArray T)) w.heap.size vs := by
  have hh : (w.alloc (.cells vs.toArray T)).heap[w.heap.size]? = some (.cells vs.toArray T) := by unfold World.alloc; simp
  refine ⟨by simp, fun j v hv => ⟨?_, ?_⟩⟩
  · have := cells_new w vs T j v hv
    have hadd : (⟨w.heap.size, 0, none⟩ : Addr).add j = ⟨w.heap.size, j, none⟩ := by unfold Addr.add; split <;> simp_all
    rwa [hadd] at this
  · unfold World.frozen?
    rw [hh]; simp
/-- nine fields written, one behind the other -/
abbrev set9 (W : World) (k : Nat) (a b c d e f g h i : Value) : World := ((((((((W.setCell ⟨k, 0, none⟩ a).setCell ⟨k, 1, none⟩ b).setCell ⟨k, 2, none⟩ c).setCell ⟨k, 3, none⟩ d).setCell ⟨k, 4, none⟩ e).setCell ⟨k, 5, none⟩ f).setCell ⟨k, 6, none⟩ g).setCell ⟨k, 7, none⟩ h).setCell ⟨k, 8, none⟩ i
theorem AtL.set9 {W : World} {k : Nat} {vs : List Value} (hv : AtL W k vs) (hl : vs.length = 9) (a b c d e f g h i : Value) : AtL (set9 W k a b c d e f g h i) k [a, b, c, d, e, f, g, h, i] := by
  match vs, hl with
  | [_, _, _, _, _, _, _, _, _], _ => exact ((((((((hv.set 0 a).set 1 b).set 2 c).set 3 d).set 4 e).set 5 f).set 6 g).set 7 h).set 8 i
theorem below_set9 {B k : Nat} {w W : World} (h : Below B w W) (hk : B ≤ k) (a b c d e f g x i : Value) : Below B w (set9 W k a b c d e f g x i) :=
  ((((((((h.setCell (p := ⟨k, 0, none⟩) hk a).setCell (p := ⟨k, 1, none⟩) hk b).setCell (p := ⟨k, 2, none⟩) hk c).setCell (p := ⟨k, 3, none⟩) hk d).setCell (p := ⟨k, 4, none⟩) hk e).setCell (p := ⟨k, 5, none⟩) hk f).setCell (p := ⟨k, 6, none⟩) hk g).setCell (p := ⟨k, 7, none⟩) hk x).setCell (p := ⟨k, 8, none⟩) hk i
/-- the results of a function that gives a struct of nine cells and one thing more -/
theorem ret9_run {P : Program} {fn : Func} {q T r : Nat} (hr : fn.results = #[.cell q T, .tmp r]) (hz : ∀ w, (Go.sizeOf T).run P w = .ok 9 w) (ha : ∀ w, (isAgg T).run P w = .ok true w) (tmps : Array Value) (W : World) (k : Nat) (a b c d e f g h i x : Value) (h2 : tmps.getD q undef = .pointer (some ⟨k, 0, none⟩)) (h3 : tmps.getD r undef = x) (hA : AtL W k [a, b, c, d, e, f, g, h, i]) :
    (results fn tmps).run P W = .ok (.tuple #[.agg #[a, b, c, d, e, f, g, h, i], x]) W := by
  have c0 := hA.c 0 rfl
  have c1 := hA.c 1 rfl
  have c2 := hA.c 2 rfl
  have c3 := hA.c 3 rfl
  have c4 := hA.c 4 rfl
  have c5 := hA.c 5 rfl
  have c6 := hA.c 6 rfl
  have c7 := hA.c 7 rfl
  have c8 := hA.c 8 rfl
  rw [Array.getD_eq_getD_getElem?] at h2 h3
  simp [results, hr, h2, h3, go_sem, hz, ha, c0, c1, c2, c3, c4, c5, c6, c7, c8]
end Go.Proofs.YtgjooigolgdocaaGreatDoor
