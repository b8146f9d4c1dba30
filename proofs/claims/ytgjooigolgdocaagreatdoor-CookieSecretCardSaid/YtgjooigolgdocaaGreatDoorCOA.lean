/- Slices of structs: reading; rows of structs that are written. -/
import Derived.Test.YtgjooigolgdocaaGreatDoorCD
namespace Go.Proofs.YtgjooigolgdocaaGreatDoor
set_option linter.unusedVariables false
set_option linter.unusedSimpArgs false
open Go.RowKit

/-- a slice that reads as a list of structs of k cells -/
def SlK {α : Type} (enc : α → List Value) (k : Nat) (w : World) (v : Value) (l : List α) : Prop :=
  (l = [] ∧ ∃ a cap, v = .slice a 0 cap ∧ cap ≤ maxLen) ∨ (l ≠ [] ∧ ∃ b off cap, v = .slice (some ⟨b, off, none⟩) l.length cap ∧ l.length ≤ cap ∧ cap ≤ maxLen ∧ b < w.heap.size ∧ ∀ i (h : i < l.length) j u, (enc l[i])[j]? = some u → w.cell? ⟨b, off + i * k + j, none⟩ = some u)
theorem SlK.below {α : Type} {enc : α → List Value} {k : Nat} {w w' : World} {v : Value} {l : List α} {B : Nat} (h : SlK enc k w v l) (hb : Below B w w') (hB : w.heap.size ≤ B) : SlK enc k w' v l := by
  rcases h with h | ⟨h0, b, off, cap, h1, h2, h3, h4, h5⟩
  · exact .inl h
  · exact .inr ⟨h0, b, off, cap, h1, h2, h3, Nat.lt_of_lt_of_le h4 hb.size, fun i hi j u hu => (hb.cell (p := ⟨b, off + i * k + j, none⟩) (by show b < B; omega)).trans (h5 i hi j u hu)⟩
theorem SlK.shape {α : Type} {enc : α → List Value} {k : Nat} {w : World} {v : Value} {l : List α} (h : SlK enc k w v l) : ∃ a cap, v = .slice a l.length cap ∧ cap ≤ maxLen := by
  rcases h with ⟨rfl, a, cap, h1, h2⟩ | ⟨h0, b, off, cap, h1, h2, h3, h4, h5⟩
  · exact ⟨a, cap, h1, h2⟩
  · exact ⟨_, cap, h1, h3⟩
/-- the cells of a list of structs -/
def cellsK {α : Type} (enc : α → List Value) (l : List α) : List Value := l.flatMap enc
theorem cellsK_len {α : Type} {enc : α → List Value} {k : Nat} (hk : ∀ x, (enc x).length = k) (l : List α) : (cellsK enc l).length = l.length * k := by
  unfold cellsK
  induction l with
  | nil => simp
  | cons x l ih => rw [List.flatMap_cons, List.length_append, ih, hk, List.length_cons, Nat.add_mul]; omega
theorem cellsK_app {α : Type} (enc : α → List Value) (a b : List α) : cellsK enc (a ++ b) = cellsK enc a ++ cellsK enc b := by simp [cellsK]
theorem cellsK_get {α : Type} {enc : α → List Value} {k : Nat} (hk : ∀ x, (enc x).length = k) : ∀ (l : List α) (i : Nat) (h : i < l.length) (j : Nat) (u : Value), (enc l[i])[j]? = some u → (cellsK enc l)[i * k + j]? = some u := by
  intro l
  induction l with
  | nil => intro i h; simp at h
  | cons x l ih =>
    intro i h j u hu
    have hj : ∀ y, (enc y)[j]? = some u → j < k := fun y hy => by have := (List.getElem?_eq_some_iff.1 hy).1; rwa [hk] at this
    unfold cellsK
    rw [List.flatMap_cons]
    cases i with
    | zero =>
      simp only [List.getElem_cons_zero] at hu
      rw [Nat.zero_mul, Nat.zero_add, List.getElem?_append_left (by rw [hk]; exact hj _ hu)]
      exact hu
    | succ i =>
      simp only [List.getElem_cons_succ] at hu
      rw [Nat.add_mul, Nat.one_mul, List.getElem?_append_right (by rw [hk]; omega), hk, show i * k + k + j - k = i * k + j by omega]
      exact ih i (by simpa using h) j u hu
theorem SlK.of_own {α : Type} {enc : α → List Value} {k : Nat} (hk : ∀ x, (enc x).length = k) {w : World} {b e : Nat} {v : Value} {l : List α} (h : w.ownsRow b e k v l.length (cellsK enc l)) : SlK enc k w v l := by
  obtain ⟨a, cap, hv, hc, hm, ha⟩ := own_reads h
  by_cases hl : l = []
  · subst hl
    exact .inl ⟨rfl, a, cap, hv, hm⟩
  · rcases ha with ⟨rfl, h0⟩ | ⟨g, rfl, hg, hgw, hcell⟩
    · exact absurd (List.eq_nil_of_length_eq_zero h0) hl
    · refine .inr ⟨hl, g, 0, cap, hv, hc, hm, hgw, fun i hi j u hu => ?_⟩
      rw [Nat.zero_add]
      exact hcell _ _ (cellsK_get hk l i hi j u hu)
/-- the first place at which p holds, or -1 -/
def idxI {α : Type} (p : α → Bool) (l : List α) : Int := if l.any p then (l.findIdx p : Nat) else -1
theorem idxI_hit {α : Type} (p : α → Bool) (l : List α) (k : Nat) (hk : k < l.length) (h : p l[k] = true) (hb : ∀ j (hj : j < k), p (l[j]'(by omega)) = false) : idxI p l = k := by
  unfold idxI
  have h1 : l.findIdx p = k := by
    rw [List.findIdx_eq hk]
    exact ⟨h, fun j hj => hb j hj⟩
  rw [if_pos (List.any_eq_true.2 ⟨l[k], List.getElem_mem hk, h⟩), h1]
theorem idxI_miss {α : Type} (p : α → Bool) (l : List α) (h : ∀ j (hj : j < l.length), p l[j] = false) : idxI p l = -1 := by
  unfold idxI
  rw [if_neg]
  rw [List.any_eq_true]
  rintro ⟨x, hx, hp⟩
  obtain ⟨j, hj, rfl⟩ := List.getElem_of_mem hx
  rw [h j hj] at hp; cases hp
theorem ckL_len (c : Ck) : (ckL c).length = 9 := rfl
end Go.Proofs.YtgjooigolgdocaaGreatDoor
