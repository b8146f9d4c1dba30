/- Plain law: strings.Split at a byte. -/
import Derived.Test.YtgjooigolgdocaaGreatDoorUI
import Derived.Lib.CountLaws
import Derived.Lib.CutLaws
namespace Go.Proofs.YtgjooigolgdocaaGreatDoor
set_option linter.unusedVariables false
set_option linter.unusedSimpArgs false
open Go.RowKit

theorem indexB_one (s : ByteArray) (c : UInt8) : Lib.indexB s ⟨#[c]⟩ = Lib.indexByte s.data.toList c := by
  rw [Lib.indexB]
  exact Lib.index_one _ _
theorem split_segs (c : UInt8) : ∀ (k : Nat) (s : ByteArray), Lib.countB s ⟨#[c]⟩ = k → (Lib.splitB ⟨#[c]⟩ 0 k s).map (·.data.toList) = segs c s.data.toList := by
  intro k
  induction k with
  | zero =>
    intro s h
    have hi := indexB_one s c
    rw [indexByte_pre] at hi
    by_cases hc : c ∈ s.data.toList
    · rw [if_pos hc] at hi
      have := Lib.countB_hit s ⟨#[c]⟩ _ (Nat.le_refl 1) hi
      omega
    · rw [Lib.splitB_zero, segs_one c _ hc]; rfl
  | succ k ih =>
    intro s h
    have hi := indexB_one s c
    rw [indexByte_pre] at hi
    by_cases hc : c ∈ s.data.toList
    · rw [if_pos hc] at hi
      have h1 := Lib.countB_hit s ⟨#[c]⟩ _ (Nat.le_refl 1) hi
      have hm : ¬ ((Lib.indexB s ⟨#[c]⟩ == -1) = true) := by rw [hi, beq_iff_eq]; omega
      rw [Lib.splitB, if_neg hm, hi, Int.toNat_natCast, List.map_cons]
      have e := pre_post c s.data.toList hc
      have z : (⟨#[c]⟩ : ByteArray).size = 1 := rfl
      rw [z] at h1 ⊢
      rw [ih _ (by omega)]
      have e1 : (s.extract 0 ((pre c s.data.toList).length + 0)).data.toList = pre c s.data.toList := by
        rw [Nat.add_zero, ext_from]
        have := congrArg (List.take (pre c s.data.toList).length) e
        rw [this]; exact List.take_left' rfl
      have e2 : (s.extract ((pre c s.data.toList).length + 1) s.size).data.toList = post c s.data.toList := by
        rw [ext_to]
        have := congrArg (List.drop ((pre c s.data.toList).length + 1)) e
        rw [this, ← List.drop_drop, List.drop_left' rfl]; rfl
      rw [e1, e2]
      have := congrArg (segs c) e
      rw [segs_pre c _ _ (pre_not c _)] at this
      exact this.symm
    · rw [if_neg hc] at hi
      have := Lib.countB_miss s ⟨#[c]⟩ hi
      omega
end Go.Proofs.YtgjooigolgdocaaGreatDoor
