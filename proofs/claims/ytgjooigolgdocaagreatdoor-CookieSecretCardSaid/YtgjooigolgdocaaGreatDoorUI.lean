/- Plain laws: a text divided at a byte. -/
import Derived.Test.YtgjooigolgdocaaGreatDoorUC
import Derived.Lib.SplitLaws
import Derived.Lib.IndexMore
namespace Go.Proofs.YtgjooigolgdocaaGreatDoor
set_option linter.unusedVariables false
set_option linter.unusedSimpArgs false
open Go.RowKit

def segs (c : UInt8) : List UInt8 → List (List UInt8)
  | [] => [[]]
  | b :: l => if b == c then [] :: segs c l else match segs c l with
    | [] => [[b]]
    | p :: r => (b :: p) :: r
theorem segs_ne (c : UInt8) (l : List UInt8) : segs c l ≠ [] := by
  cases l with
  | nil => simp [segs]
  | cons b l => unfold segs; split
                · simp
                · split <;> simp
theorem segs_pre (c : UInt8) (r : List UInt8) : ∀ p : List UInt8, c ∉ p → segs c (p ++ c :: r) = p :: segs c r := by
  intro p
  induction p with
  | nil => intro _; simp [segs]
  | cons b p ih =>
    intro h
    have hb : (b == c) = false := by simp; intro e; exact h (by simp [e])
    rw [List.cons_append, segs, hb, ih (fun q => h (List.mem_cons_of_mem _ q))]
    rfl
theorem segs_one (c : UInt8) : ∀ p : List UInt8, c ∉ p → segs c p = [p] := by
  intro p
  induction p with
  | nil => intro _; rfl
  | cons b p ih =>
    intro h
    have hb : (b == c) = false := by simp; intro e; exact h (by simp [e])
    rw [segs, hb, ih (fun q => h (List.mem_cons_of_mem _ q))]
    rfl
theorem pre_not (c : UInt8) (l : List UInt8) : c ∉ pre c l := by
  unfold pre
  induction l with
  | nil => simp
  | cons b l ih =>
    rw [List.takeWhile_cons]
    split
    · next h => simp only [List.mem_cons, not_or]; exact ⟨fun e => by simp [e] at h, ih⟩
    · simp
theorem pre_post (c : UInt8) (l : List UInt8) (h : c ∈ l) : l = pre c l ++ c :: post c l := by
  unfold pre post
  induction l with
  | nil => cases h
  | cons b l ih =>
    by_cases hb : b = c
    · subst hb; simp
    · have : c ∈ l := by rcases List.mem_cons.1 h with h | h; exact absurd h.symm hb; exact h
      rw [List.takeWhile_cons, if_pos (by simpa using hb), List.dropWhile_cons, if_pos (by simpa using hb), List.cons_append, ← ih this]
theorem pre_all (c : UInt8) (l : List UInt8) (h : c ∉ l) : pre c l = l := by
  unfold pre
  induction l with
  | nil => rfl
  | cons b l ih =>
    have hb : b ≠ c := fun e => h (by simp [e])
    rw [List.takeWhile_cons, if_pos (by simpa using hb), ih (fun q => h (List.mem_cons_of_mem _ q))]
theorem post_none (c : UInt8) (l : List UInt8) (h : c ∉ l) : post c l = [] := by
  unfold post
  induction l with
  | nil => rfl
  | cons b l ih =>
    have hb : b ≠ c := fun e => h (by simp [e])
    rw [List.dropWhile_cons, if_pos (by simpa using hb)]
    exact ih (fun q => h (List.mem_cons_of_mem _ q))
/-- the first place of a byte -/
theorem indexByte_pre (c : UInt8) (l : List UInt8) : Lib.indexByte l c = if c ∈ l then ((pre c l).length : Int) else -1 := by
  induction l with
  | nil => simp [Lib.indexByte]
  | cons b l ih =>
    unfold Lib.indexByte
    by_cases hb : b = c
    · subst hb; simp [pre]
    · have hb2 : (b == c) = false := by simp [hb]
      rw [hb2, ih]
      by_cases hc : c ∈ l
      · have e : pre c (b :: l) = b :: pre c l := by unfold pre; rw [List.takeWhile_cons, if_pos (by simpa using hb)]
        rw [if_pos hc, if_pos (List.mem_cons_of_mem _ hc), e]
        have : ¬ ((((pre c l).length : Int) == -1) = true) := by rw [beq_iff_eq]; omega
        rw [if_neg this]
        simp
      · have hn : c ∉ b :: l := fun q => by rcases List.mem_cons.1 q with q | q; exact hb q.symm; exact hc q
        rw [if_neg hc, if_neg hn]
        simp
/-- Cut at a byte -/
theorem cut_eq (c : UInt8) (l : List UInt8) : Lib.cut l [c] = (pre c l, post c l, l.contains c) := by
  unfold Lib.cut
  rw [Lib.index_one, indexByte_pre]
  by_cases h : c ∈ l
  · have e := pre_post c l h
    have e1 : l.take (pre c l).length = pre c l := by
      have := congrArg (List.take (pre c l).length) e
      rw [this]; exact List.take_left' rfl
    have e2 : l.drop ((pre c l).length + 1) = post c l := by
      have := congrArg (List.drop ((pre c l).length + 1)) e
      rw [this, ← List.drop_drop, List.drop_left' rfl]; rfl
    rw [if_pos h, if_pos (by omega), Int.toNat_natCast, List.length_singleton, e1, e2]
    simp [h]
  · rw [if_neg h, if_neg (by omega), pre_all c l h, post_none c l h]
    simp [h]
end Go.Proofs.YtgjooigolgdocaaGreatDoor
