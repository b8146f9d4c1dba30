/- The walk of the reference's Parse: blocks of six strings; the texts that denote nothing, or an about address. -/
import Derived.Test.YtjdhaacmlpegoaaGreatDoorUR
import Derived.Deep.DeepCutAuto
import Derived.Deep.CutBlock
namespace Go.Proofs.YtjdhaacmlpegoaaGreatDoor
set_option linter.unusedVariables false
set_option linter.unusedSimpArgs false
open Go.RowKit

/-- six strings that may be written -/
def At6 (W : World) (k : Nat) (a b c d e f : Value) : Prop :=
  k < W.heap.size ∧ W.cell? ⟨k, 0, none⟩ = some a ∧ W.cell? ⟨k, 1, none⟩ = some b ∧ W.cell? ⟨k, 2, none⟩ = some c ∧ W.cell? ⟨k, 3, none⟩ = some d ∧ W.cell? ⟨k, 4, none⟩ = some e ∧ W.cell? ⟨k, 5, none⟩ = some f
  ∧ W.frozen? ⟨k, 0, none⟩ = false ∧ W.frozen? ⟨k, 1, none⟩ = false ∧ W.frozen? ⟨k, 2, none⟩ = false ∧ W.frozen? ⟨k, 3, none⟩ = false ∧ W.frozen? ⟨k, 4, none⟩ = false ∧ W.frozen? ⟨k, 5, none⟩ = false
theorem At6.below {W W' : World} {k n : Nat} {a b c d e f : Value} (h : At6 W k a b c d e f) (hb : Below n W W') (hk : k < n) : At6 W' k a b c d e f := by
  obtain ⟨h0, c0, c1, c2, c3, c4, c5, f0, f1, f2, f3, f4, f5⟩ := h
  have hc : ∀ j, W'.cell? ⟨k, j, none⟩ = W.cell? ⟨k, j, none⟩ := fun j => hb.cell (p := ⟨k, j, none⟩) hk
  have hf : ∀ j, W'.frozen? ⟨k, j, none⟩ = W.frozen? ⟨k, j, none⟩ := fun j => hb.frozen (p := ⟨k, j, none⟩) hk
  exact ⟨Nat.lt_of_lt_of_le h0 hb.size, (hc 0).trans c0, (hc 1).trans c1, (hc 2).trans c2, (hc 3).trans c3, (hc 4).trans c4, (hc 5).trans c5, (hf 0).trans f0, (hf 1).trans f1, (hf 2).trans f2, (hf 3).trans f3, (hf 4).trans f4, (hf 5).trans f5⟩
theorem frozen_set (W : World) (p q : Addr) (v : Value) (h : W.frozen? q = false) : (W.setCell p v).frozen? q = false := by simpa using h
theorem At6.set {W : World} {k : Nat} {a b c d e f : Value} (h : At6 W k a b c d e f) (p : Addr) (v : Value) (hp : p.block ≠ k) : At6 (W.setCell p v) k a b c d e f := by
  obtain ⟨h0, c0, c1, c2, c3, c4, c5, f0, f1, f2, f3, f4, f5⟩ := h
  have hc : ∀ j, (W.setCell p v).cell? ⟨k, j, none⟩ = W.cell? ⟨k, j, none⟩ := fun j => World.cell?_setCell_other W _ _ v (fun e => hp (by rw [e]))
  exact ⟨by simpa using h0, (hc 0).trans c0, (hc 1).trans c1, (hc 2).trans c2, (hc 3).trans c3, (hc 4).trans c4, (hc 5).trans c5, frozen_set _ _ _ _ f0, frozen_set _ _ _ _ f1, frozen_set _ _ _ _ f2, frozen_set _ _ _ _ f3, frozen_set _ _ _ _ f4, frozen_set _ _ _ _ f5⟩
theorem set_far (V : World) (k i j : Nat) (v : Value) (hij : i ≠ j) : (V.setCell ⟨k, i, none⟩ v).cell? ⟨k, j, none⟩ = V.cell? ⟨k, j, none⟩ := World.cell?_setCell_other V _ _ v (fun e => hij (by cases e; rfl))
theorem At6.set1 {W : World} {k : Nat} {a b c d e f : Value} (h : At6 W k a b c d e f) (v : Value) : At6 (W.setCell ⟨k, 1, none⟩ v) k a v c d e f := by
  obtain ⟨h0, c0, c1, c2, c3, c4, c5, f0, f1, f2, f3, f4, f5⟩ := h
  refine ⟨by simpa using h0, ?_, ?_, ?_, ?_, ?_, ?_, frozen_set _ _ _ _ f0, frozen_set _ _ _ _ f1, frozen_set _ _ _ _ f2, frozen_set _ _ _ _ f3, frozen_set _ _ _ _ f4, frozen_set _ _ _ _ f5⟩
  all_goals first
    | exact World.cell?_setCell_same' W _ v (by simp [c1, c2, c3, c4, c5])
    | exact (set_far W k 1 _ v (by omega)).trans c0
    | exact (set_far W k 1 _ v (by omega)).trans c1
    | exact (set_far W k 1 _ v (by omega)).trans c2
    | exact (set_far W k 1 _ v (by omega)).trans c3
    | exact (set_far W k 1 _ v (by omega)).trans c4
    | exact (set_far W k 1 _ v (by omega)).trans c5
theorem At6.set2 {W : World} {k : Nat} {a b c d e f : Value} (h : At6 W k a b c d e f) (v : Value) : At6 (W.setCell ⟨k, 2, none⟩ v) k a b v d e f := by
  obtain ⟨h0, c0, c1, c2, c3, c4, c5, f0, f1, f2, f3, f4, f5⟩ := h
  refine ⟨by simpa using h0, ?_, ?_, ?_, ?_, ?_, ?_, frozen_set _ _ _ _ f0, frozen_set _ _ _ _ f1, frozen_set _ _ _ _ f2, frozen_set _ _ _ _ f3, frozen_set _ _ _ _ f4, frozen_set _ _ _ _ f5⟩
  all_goals first
    | exact World.cell?_setCell_same' W _ v (by simp [c1, c2, c3, c4, c5])
    | exact (set_far W k 2 _ v (by omega)).trans c0
    | exact (set_far W k 2 _ v (by omega)).trans c1
    | exact (set_far W k 2 _ v (by omega)).trans c2
    | exact (set_far W k 2 _ v (by omega)).trans c3
    | exact (set_far W k 2 _ v (by omega)).trans c4
    | exact (set_far W k 2 _ v (by omega)).trans c5
theorem At6.set3 {W : World} {k : Nat} {a b c d e f : Value} (h : At6 W k a b c d e f) (v : Value) : At6 (W.setCell ⟨k, 3, none⟩ v) k a b c v e f := by
  obtain ⟨h0, c0, c1, c2, c3, c4, c5, f0, f1, f2, f3, f4, f5⟩ := h
  refine ⟨by simpa using h0, ?_, ?_, ?_, ?_, ?_, ?_, frozen_set _ _ _ _ f0, frozen_set _ _ _ _ f1, frozen_set _ _ _ _ f2, frozen_set _ _ _ _ f3, frozen_set _ _ _ _ f4, frozen_set _ _ _ _ f5⟩
  all_goals first
    | exact World.cell?_setCell_same' W _ v (by simp [c1, c2, c3, c4, c5])
    | exact (set_far W k 3 _ v (by omega)).trans c0
    | exact (set_far W k 3 _ v (by omega)).trans c1
    | exact (set_far W k 3 _ v (by omega)).trans c2
    | exact (set_far W k 3 _ v (by omega)).trans c3
    | exact (set_far W k 3 _ v (by omega)).trans c4
    | exact (set_far W k 3 _ v (by omega)).trans c5
theorem At6.set4 {W : World} {k : Nat} {a b c d e f : Value} (h : At6 W k a b c d e f) (v : Value) : At6 (W.setCell ⟨k, 4, none⟩ v) k a b c d v f := by
  obtain ⟨h0, c0, c1, c2, c3, c4, c5, f0, f1, f2, f3, f4, f5⟩ := h
  refine ⟨by simpa using h0, ?_, ?_, ?_, ?_, ?_, ?_, frozen_set _ _ _ _ f0, frozen_set _ _ _ _ f1, frozen_set _ _ _ _ f2, frozen_set _ _ _ _ f3, frozen_set _ _ _ _ f4, frozen_set _ _ _ _ f5⟩
  all_goals first
    | exact World.cell?_setCell_same' W _ v (by simp [c1, c2, c3, c4, c5])
    | exact (set_far W k 4 _ v (by omega)).trans c0
    | exact (set_far W k 4 _ v (by omega)).trans c1
    | exact (set_far W k 4 _ v (by omega)).trans c2
    | exact (set_far W k 4 _ v (by omega)).trans c3
    | exact (set_far W k 4 _ v (by omega)).trans c4
    | exact (set_far W k 4 _ v (by omega)).trans c5
theorem At6.set5 {W : World} {k : Nat} {a b c d e f : Value} (h : At6 W k a b c d e f) (v : Value) : At6 (W.setCell ⟨k, 5, none⟩ v) k a b c d e v := by
  obtain ⟨h0, c0, c1, c2, c3, c4, c5, f0, f1, f2, f3, f4, f5⟩ := h
  refine ⟨by simpa using h0, ?_, ?_, ?_, ?_, ?_, ?_, frozen_set _ _ _ _ f0, frozen_set _ _ _ _ f1, frozen_set _ _ _ _ f2, frozen_set _ _ _ _ f3, frozen_set _ _ _ _ f4, frozen_set _ _ _ _ f5⟩
  all_goals first
    | exact World.cell?_setCell_same' W _ v (by simp [c1, c2, c3, c4, c5])
    | exact (set_far W k 5 _ v (by omega)).trans c0
    | exact (set_far W k 5 _ v (by omega)).trans c1
    | exact (set_far W k 5 _ v (by omega)).trans c2
    | exact (set_far W k 5 _ v (by omega)).trans c3
    | exact (set_far W k 5 _ v (by omega)).trans c4
    | exact (set_far W k 5 _ v (by omega)).trans c5
theorem At6.new (w : World) (a b c d e f : Value) (T : Nat) : At6 (w.alloc (.cells #[a, b, c, d, e, f] T)) w.heap.size a b c d e f := by
  have hc : ∀ j v, [a, b, c, d, e, f][j]? = some v → (w.alloc (.cells #[a, b, c, d, e, f] T)).cell? ⟨w.heap.size, j, none⟩ = some v := fun j v hj => by
    have := cells_new w [a, b, c, d, e, f] T j v hj
    have hadd : (⟨w.heap.size, 0, none⟩ : Addr).add j = ⟨w.heap.size, j, none⟩ := by unfold Addr.add; split <;> simp_all
    rw [hadd] at this
    exact this
  have hh : (w.alloc (.cells #[a, b, c, d, e, f] T)).heap[w.heap.size]? = some (.cells #[a, b, c, d, e, f] T) := by unfold World.alloc; simp
  have hf : ∀ j, (w.alloc (.cells #[a, b, c, d, e, f] T)).frozen? ⟨w.heap.size, j, none⟩ = false := fun j => by
    unfold World.frozen?
    rw [hh]
    simp
  exact ⟨by simp, hc 0 _ rfl, hc 1 _ rfl, hc 2 _ rfl, hc 3 _ rfl, hc 4 _ rfl, hc 5 _ rfl, hf 0, hf 1, hf 2, hf 3, hf 4, hf 5⟩
theorem At6.blank {W : World} {k : Nat} {a b c d e f : Value} (h : At6 W k a b c d e f) : Blank W k := by
  obtain ⟨h0, c0, c1, c2, c3, c4, c5, -⟩ := h
  intro j hj
  match j, hj with
  | 0, _ => rw [c0]; rfl
  | 1, _ => rw [c1]; rfl
  | 2, _ => rw [c2]; rfl
  | 3, _ => rw [c3]; rfl
  | 4, _ => rw [c4]; rfl
  | 5, _ => rw [c5]; rfl
theorem At6.alloc {W : World} {k : Nat} {a b c d e f : Value} (h : At6 W k a b c d e f) (o : Obj) : At6 (W.alloc o) k a b c d e f := h.below ((Below.refl _ W).alloc (Nat.le_refl _) o) h.1
abbrev E0 : Value := .string ⟨#[]⟩
theorem start2 (w : World) (T : Nat) : At6 ((w.alloc (.cells #[E0, E0, E0, E0, E0, E0] T)).alloc (.cells #[E0, E0, E0, E0, E0, E0] T)) w.heap.size E0 E0 E0 E0 E0 E0 ∧ At6 ((w.alloc (.cells #[E0, E0, E0, E0, E0, E0] T)).alloc (.cells #[E0, E0, E0, E0, E0, E0] T)) (w.heap.size + 1) E0 E0 E0 E0 E0 E0 := by
  refine ⟨(At6.new w E0 E0 E0 E0 E0 E0 T).alloc _, ?_⟩
  have := At6.new (w.alloc (.cells #[E0, E0, E0, E0, E0, E0] T)) E0 E0 E0 E0 E0 E0 T
  rwa [show (w.alloc (.cells #[E0, E0, E0, E0, E0, E0] T)).heap.size = w.heap.size + 1 by simp] at this
/-- an address and whether there is one -/
def resB (o : Option U6) : Value := .tuple #[urlV (o.getD noneU), .bool o.isSome]
theorem resB_none {R : Option U6} (h : R = none) : Ending.returned (.tuple #[.agg #[.string ⟨#[]⟩, .string ⟨#[]⟩, .string ⟨#[]⟩, .string ⟨#[]⟩, .string ⟨#[]⟩, .string ⟨#[]⟩], .bool false]) = .returned (resB R) := by subst h; rfl
theorem resB_some {R : Option U6} {u : U6} (h : R = some u) {a b c d e f : ByteArray} (ha : a.data.toList = u.1) (hb : b.data.toList = u.2.1) (hc : c.data.toList = u.2.2.1) (hd : d.data.toList = u.2.2.2.1) (he : e.data.toList = u.2.2.2.2.1) (hf : f.data.toList = u.2.2.2.2.2) :
    Ending.returned (.tuple #[.agg #[.string a, .string b, .string c, .string d, .string e, .string f], .bool true]) = .returned (resB R) := by
  subst h; rw [urlV_of ha hb hc hd he hf]; rfl
theorem post_drop (c : UInt8) (l : List UInt8) : l.drop ((pre c l).length + 1) = post c l := by
  by_cases h : c ∈ l
  · have := pre_post c l h
    calc l.drop ((pre c l).length + 1) = (pre c l ++ c :: post c l).drop ((pre c l).length + 1) := congrArg (List.drop _) this
      _ = post c l := by simp [List.drop_append]
  · rw [pre_all c l h, post_none c l h]
    exact List.drop_eq_nil_of_le (by omega)
theorem find35 (s : ByteArray) (w : World) (hs : s.size ≤ 1000000) :
    Calls Tryz.prog 141 #[.string s, .int .u8 35] w fun e w' => e = .returned (.int .i64 ((pre 35 s.data.toList).length : Nat)) ∧ w = w' := find_any 35 s w hs
theorem find63 (s : ByteArray) (w : World) (hs : s.size ≤ 1000000) :
    Calls Tryz.prog 141 #[.string s, .int .u8 63] w fun e w' => e = .returned (.int .i64 ((pre 63 s.data.toList).length : Nat)) ∧ w = w' := find_any 63 s w hs
theorem find47 (s : ByteArray) (w : World) (hs : s.size ≤ 1000000) :
    Calls Tryz.prog 141 #[.string s, .int .u8 47] w fun e w' => e = .returned (.int .i64 ((pre 47 s.data.toList).length : Nat)) ∧ w = w' := find_any 47 s w hs
theorem find58 (s : ByteArray) (w : World) (hs : s.size ≤ 1000000) :
    Calls Tryz.prog 141 #[.string s, .int .u8 58] w fun e w' => e = .returned (.int .i64 ((pre 58 s.data.toList).length : Nat)) ∧ w = w' := find_any 58 s w hs
end Go.Proofs.YtjdhaacmlpegoaaGreatDoor
