/- The walk of Clean: what it needs of rows of strings; plain functions. -/
import Derived.Test.YtgjooigolgdocaaGreatDoorUK
namespace Go.Proofs.YtgjooigolgdocaaGreatDoor
set_option linter.unusedVariables false
set_option linter.unusedSimpArgs false
open Go.RowKit

def kstep (acc : List (List UInt8)) (p : List UInt8) : List (List UInt8) := if p = [46, 46] then acc.dropLast else if p = [46] then acc else acc ++ [p]
def isDot (p : List UInt8) : Bool := p == [46] || p == [46, 46]
/-- what is kept of the first k segments; behind the last one, an empty one where that was a dot -/
def kpt (l : List (List UInt8)) (k : Nat) : List (List UInt8) := (l.take k).foldl kstep [] ++ (if k = l.length ∧ (l.getLast?.map isDot).getD false = true then [[]] else [])
def keptL (l : List (List UInt8)) : List (List UInt8) := kpt l l.length
theorem kpt_zero (l : List (List UInt8)) : kpt l 0 = [] := by
  unfold kpt
  cases l with
  | nil => rfl
  | cons a b => simp
theorem kpt_fold (l : List (List UInt8)) (k : Nat) (h : k < l.length) : kpt l k = (l.take k).foldl kstep [] := by
  unfold kpt
  rw [if_neg (by omega), List.append_nil]
theorem kpt_succ (l : List (List UInt8)) (k : Nat) (h : k < l.length) : kpt l (k + 1) = kstep (kpt l k) l[k] ++ (if k + 1 = l.length ∧ isDot l[k] = true then [[]] else []) := by
  rw [kpt_fold l k h, kpt, List.take_succ_eq_append_getElem h, List.foldl_append]
  congr 1
  by_cases hk : k + 1 = l.length
  · have : l.getLast? = some l[k] := by rw [List.getLast?_eq_getElem?, show l.length - 1 = k by omega, List.getElem?_eq_getElem h]
    rw [this]; rfl
  · simp [hk]
theorem kstep_mem (acc : List (List UInt8)) (p x : List UInt8) (h : x ∈ kstep acc p) : x ∈ acc ∨ x = p := by
  unfold kstep at h
  split at h
  · exact .inl (List.dropLast_subset _ h)
  · split at h
    · exact .inl h
    · simpa using h
theorem fold_mem (l : List (List UInt8)) : ∀ (acc : List (List UInt8)) (x : List UInt8), x ∈ l.foldl kstep acc → x ∈ acc ∨ x ∈ l := by
  induction l with
  | nil => intro acc x h; exact .inl h
  | cons p r ih =>
    intro acc x h
    rcases ih _ x h with h | h
    · rcases kstep_mem _ _ _ h with h | h
      · exact .inl h
      · exact .inr (by simp [h])
    · exact .inr (List.mem_cons_of_mem _ h)
theorem kpt_mem (l : List (List UInt8)) (k : Nat) (x : List UInt8) (h : x ∈ kpt l k) : x = [] ∨ x ∈ l := by
  unfold kpt at h
  rcases List.mem_append.1 h with h | h
  · rcases fold_mem _ _ _ h with h | h
    · cases h
    · exact .inr (List.mem_of_mem_take h)
  · split at h
    · exact .inl (by simpa using h)
    · cases h
theorem segs_len (c : UInt8) (l : List UInt8) : ∀ p ∈ segs c l, p.length ≤ l.length := by
  induction l with
  | nil => intro p h; simp [segs] at h; simp [h]
  | cons b l ih =>
    intro p h
    unfold segs at h
    split at h
    · rcases List.mem_cons.1 h with rfl | h
      · simp
      · have := ih p h; simp; omega
    · split at h
      · next e => exact absurd e (segs_ne c l)
      · next q r e =>
        rcases List.mem_cons.1 h with rfl | h
        · have := ih q (by simp [e]); simp; omega
        · have := ih p (by simp [e, h]); simp; omega
theorem join_len (N : Nat) : ∀ xs : List (List UInt8), (∀ x ∈ xs, x.length ≤ N) → (Lib.join xs [47]).length ≤ xs.length * (N + 1) := by
  intro xs
  induction xs with
  | nil => intro _; simp [Lib.join_nil]
  | cons x r ih =>
    intro h
    have hx := h x List.mem_cons_self
    have := ih fun y hy => h y (List.mem_cons_of_mem _ hy)
    cases r with
    | nil => rw [Lib.join_one]; simp; omega
    | cons y r =>
      have e : Lib.join (x :: y :: r) [47] = x ++ 47 :: Lib.join (y :: r) [47] := by simp [Lib.join, List.intercalate]
      have hl : (x :: y :: r).length = (y :: r).length + 1 := rfl
      rw [e, List.length_append, List.length_cons, hl, Nat.add_mul]
      omega
def outL (k : List (List UInt8)) : List UInt8 := (k.map (47 :: ·)).flatten
/-- without an empty first one -/
def tailE (l : List (List UInt8)) : List (List UInt8) := if l.head? = some [] then l.tail else l
theorem out_join : ∀ xs : List (List UInt8), xs ≠ [] → 47 :: Lib.join xs [47] = outL xs := by
  intro xs
  induction xs with
  | nil => intro h; exact absurd rfl h
  | cons x r ih =>
    intro _
    cases r with
    | nil => rw [Lib.join_one]; simp [outL]
    | cons y r =>
      have e : Lib.join (x :: y :: r) [47] = x ++ 47 :: Lib.join (y :: r) [47] := by simp [Lib.join, List.intercalate]
      rw [e, ih (by simp)]
      simp [outL]
def cleanL (l : List UInt8) : List UInt8 := if keptL (tailE (segs 47 l)) = [] then [47] else outL (keptL (tailE (segs 47 l)))
theorem own_shape {w : World} {b e n : Nat} {v : Value} {xs : List Value} (h : w.ownsRow b e 1 v n xs) : (v = .slice none 0 0 ∧ n = 0 ∧ xs = []) ∨ ∃ g cap, v = .slice (some ⟨g, 0, none⟩) n cap ∧ n ≤ cap ∧ cap ≤ maxLen := by
  rcases h.2 with ⟨rfl, rfl⟩ | ⟨g, cap, cur, rfl, hbg, hg, hnc, hcm, hcs, htake⟩
  · exact .inl ⟨rfl, rfl, List.eq_nil_of_length_eq_zero (by simpa using h.1)⟩
  · exact .inr ⟨g, cap, rfl, hnc, hcm⟩
theorem own_shrink {w : World} {b e n g cap : Nat} {xs : List Value} (h : w.ownsRow b e 1 (.slice (some ⟨g, 0, none⟩) n cap) n xs) (m : Nat) (hm : m ≤ n) : w.ownsRow b e 1 (.slice (some ⟨g, 0, none⟩) m cap) m (xs.take m) := by
  have h1 := h.1
  rcases h.2 with ⟨h0, _⟩ | ⟨g', cap', cur, hv, hbg, hg, hnc, hcm, hcs, htake⟩
  · cases h0
  · cases hv
    refine ⟨by rw [List.length_take]; omega, .inr ⟨g, cap, cur, rfl, hbg, hg, by omega, hcm, hcs, ?_⟩⟩
    rw [← htake]
    simp [List.take_take, Nat.min_eq_left hm]
end Go.Proofs.YtgjooigolgdocaaGreatDoor
