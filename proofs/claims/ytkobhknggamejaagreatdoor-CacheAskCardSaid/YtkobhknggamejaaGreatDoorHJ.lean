/- Cache: rows of structs, plain. -/
import Derived.Test.YtkobhknggamejaaGreatDoorHI
namespace Go.Proofs.YtkobhknggamejaaGreatDoor
set_option linter.unusedVariables false
set_option linter.unusedSimpArgs false
open Go.RowKit

/-- an entry as it lies in memory, with what it reads as -/
abbrev Ee := Er × En
abbrev eeC (x : Ee) : List Value := erC x.1
abbrev eeA (x : Ee) : Value := erA x.1
abbrev hdA (h : Hd) : Value := .agg #[.string h.1, .string h.2]
def ee0 : Ee := (⟨⟨#[]⟩, .slice none 0 0, 0, .slice none 0 0, ⟨#[]⟩, 0⟩, ⟨⟨#[]⟩, [], 0, [], ⟨#[]⟩, 0⟩)
def IsSl (v : Value) : Prop := ∃ a n k, v = .slice a n k
def eeShp (x : Ee) : Prop := (∃ a n k, x.1.vv = .slice a n k) ∧ (∃ a n k, x.1.hv = .slice a n k)
theorem Rd.shp {w : World} {x : Ee} (h : Rd w x.1 x.2) : eeShp x := by
  obtain ⟨a, c, h1, _⟩ := h.va.shape
  obtain ⟨a2, c2, h2, _⟩ := h.hd.shape
  exact ⟨⟨_, _, _, h1⟩, ⟨_, _, _, h2⟩⟩
theorem eezone : ∀ v ∈ (eeA ee0).cells.toList, v.oneCell' = true := by
  intro v hv
  simp [ee0, Value.cells] at hv
  rcases hv with rfl | rfl | rfl | rfl | rfl | rfl <;> rfl
theorem hdzone : ∀ v ∈ (hdA (⟨#[]⟩, ⟨#[]⟩)).cells.toList, v.oneCell' = true := by
  intro v hv
  simp [Value.cells] at hv
  subst hv; rfl
theorem cellsG_take {α : Type} {enc : α → List Value} {k : Nat} (hk : ∀ x, (enc x).length = k) (l : List α) (i : Nat) (hi : i ≤ l.length) : (cellsK enc l).take (i * k) = cellsK enc (l.take i) := by
  conv => lhs; rw [← List.take_append_drop i l, cellsK_app]
  rw [List.take_left' (by rw [cellsK_len hk, List.length_take, Nat.min_eq_left hi])]
theorem cellsG_drop {α : Type} {enc : α → List Value} {k : Nat} (hk : ∀ x, (enc x).length = k) (l : List α) (q : Nat) (h : q ≤ l.length) : (cellsK enc l).drop (q * k) = cellsK enc (l.drop q) := by
  conv => lhs; rw [← List.take_append_drop q l, cellsK_app]
  rw [List.drop_left' (by rw [cellsK_len hk, List.length_take, Nat.min_eq_left h])]
theorem cellsK_set {α : Type} {enc : α → List Value} {k : Nat} (hk : ∀ x, (enc x).length = k) (l : List α) (i : Nat) (hi : i < l.length) (c : α) : cellsK enc (l.set i c) = (cellsK enc l).take (i * k) ++ (enc c ++ (cellsK enc l).drop (i * k + (enc c).length)) := by
  rw [cellsG_take hk l i (by omega), hk, show i * k + k = (i + 1) * k by rw [Nat.add_mul, Nat.one_mul], cellsG_drop hk l (i + 1) (by omega)]
  rw [List.set_eq_take_append_cons_drop, if_pos hi, cellsK_app]
  simp [cellsK]
/-- cells written into an owned row -/
theorem own_setCells2 {b e s n g cap : Nat} : ∀ (vs : List Value) (o : Nat) (w : World) (xs : List Value), w.ownsRow b e s (.slice (some ⟨g, 0, none⟩) n cap) n xs → o + vs.length ≤ n * s →
    (w.setCells g o vs).ownsRow b e s (.slice (some ⟨g, 0, none⟩) n cap) n (xs.take o ++ (vs ++ xs.drop (o + vs.length))) := by
  intro vs
  induction vs with
  | nil =>
    intro o w xs h _
    show w.ownsRow b e s (.slice (some ⟨g, 0, none⟩) n cap) n (xs.take o ++ ([] ++ xs.drop (o + 0)))
    simpa using h
  | cons v r ih =>
    intro o w xs h ho
    rw [List.length_cons] at ho
    have hx : xs.length = n * s := h.1
    have h1 := ih (o + 1) _ _ (own_set h o v (by omega)) (by omega)
    have e1 : (xs.set o v).take (o + 1) = xs.take o ++ [v] := by
      rw [List.take_succ_eq_append_getElem (by rw [List.length_set]; omega), List.getElem_set_self, List.take_set_of_le (Nat.le_refl _)]
    have e2 : (xs.set o v).drop (o + 1 + r.length) = xs.drop (o + (r.length + 1)) := by
      rw [List.drop_set_of_lt (by omega), show o + 1 + r.length = o + (r.length + 1) by omega]
    rw [e1, e2] at h1
    show ((w.setCell ⟨g, o, none⟩ v).setCells g (o + 1) r).ownsRow b e s (.slice (some ⟨g, 0, none⟩) n cap) n (xs.take o ++ (v :: r ++ xs.drop (o + (r.length + 1))))
    simpa using h1
theorem BelowBut.toRow {n g : Nat} {w w' : World} (h : BelowBut n g w w') (jb : Nat) : RowBut n jb (some g) w w' :=
  ⟨h.os, h.tape, h.output, h.size, fun k hk _ ho => h.block k hk (fun e => ho (by rw [e]))⟩
theorem filtg_start {α : Type} (p : α → Bool) (l : List α) (k : Nat) (h : idxI p l = k) : ∃ hk : k < l.length, p l[k] = true ∧ (l.take (k + 1)).filter (fun c => !p c) = l.take k := by
  unfold idxI at h
  by_cases ha : l.any p
  · rw [if_pos ha] at h
    have hk : l.findIdx p = k := by omega
    have hlt : k < l.length := by
      rw [← hk]
      obtain ⟨x, hx, hp⟩ := List.any_eq_true.1 ha
      exact List.findIdx_lt_length_of_exists ⟨x, hx, hp⟩
    have h2 := (List.findIdx_eq hlt).1 hk
    refine ⟨hlt, h2.1, ?_⟩
    rw [List.take_succ_eq_append_getElem hlt, List.filter_append]
    have e1 : (l.take k).filter (fun c => !p c) = l.take k := by
      rw [List.filter_eq_self]
      intro a ha
      obtain ⟨i, hi, rfl⟩ := List.getElem_of_mem ha
      rw [List.length_take] at hi
      rw [List.getElem_take, h2.2 i (by omega)]
      rfl
    rw [e1]
    simp [h2.1]
  · rw [if_neg ha] at h
    omega
theorem filtg_none {α : Type} (p : α → Bool) (l : List α) (h : idxI p l = -1) : l.filter (fun c => !p c) = l := by
  unfold idxI at h
  by_cases ha : l.any p
  · rw [if_pos ha] at h; omega
  · rw [List.filter_eq_self]
    intro a hm
    cases hq : p a with
    | false => rfl
    | true => exact absurd (List.any_eq_true.2 ⟨a, hm, hq⟩) ha
/-- what slices.DeleteFunc answers -/
def DelQ {α : Type} (enc : α → List Value) (K T B : Nat) (w : World) (v : Value) (l' : List α) (x : Ending) (w' : World) : Prop :=
  ∃ v', x = .returned v' ∧ w'.ownsRow B T K v' l'.length (cellsK enc l') ∧ v'.ownBlock = v.ownBlock ∧ ∀ jb, RowBut w.heap.size jb v.ownBlock w w'
theorem delq_open {α : Type} {enc : α → List Value} {K T B : Nat} {w : World} {v : Value} {l' : List α} {x : Ending} {w' : World} (h : DelQ enc K T B w v l' x w') :
    ∃ a c, x = .returned (.slice a l'.length c) ∧ w'.ownsRow B T K (.slice a l'.length c) l'.length (cellsK enc l') ∧ (Value.slice a l'.length c).ownBlock = v.ownBlock ∧ ∀ jb, RowBut w.heap.size jb v.ownBlock w w' := by
  obtain ⟨v', rfl, h1, h2, h3⟩ := h
  obtain ⟨a, c, rfl, _⟩ := own_reads h1
  exact ⟨a, c, rfl, h1, h2, h3⟩
end Go.Proofs.YtkobhknggamejaaGreatDoor
