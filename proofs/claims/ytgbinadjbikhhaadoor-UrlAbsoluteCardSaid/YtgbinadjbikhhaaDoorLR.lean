/- Plain: how long the parts of a parsed address can be. -/
import Derived.Test.YtgbinadjbikhhaaDoorLP
namespace Go.Proofs.YtgbinadjbikhhaaDoor
set_option linter.unusedVariables false
set_option linter.unusedSimpArgs false
open Go.RowKit

theorem outL_app (a b : List (List UInt8)) : outL (a ++ b) = outL a ++ outL b := by simp [outL]
theorem outL_cons (p : List UInt8) (r : List (List UInt8)) : (outL (p :: r)).length = p.length + 1 + (outL r).length := by simp [outL]; omega
theorem outL_drop (acc : List (List UInt8)) : (outL acc.dropLast).length ≤ (outL acc).length := by
  rcases List.eq_nil_or_concat acc with rfl | ⟨l, x, rfl⟩
  · simp
  · rw [List.concat_eq_append, List.dropLast_concat, outL_app, List.length_append]; omega
theorem kstep_w (acc : List (List UInt8)) (p : List UInt8) : (outL (kstep acc p)).length ≤ (outL acc).length + (p.length + 1) := by
  unfold kstep
  split
  · have := outL_drop acc; omega
  · split
    · omega
    · rw [outL_app, List.length_append, outL_cons]; simp [outL]
theorem fold_w (l : List (List UInt8)) : ∀ acc : List (List UInt8), (outL (l.foldl kstep acc)).length ≤ (outL acc).length + (outL l).length := by
  induction l with
  | nil => intro acc; simp
  | cons p r ih =>
    intro acc
    rw [List.foldl_cons, outL_cons]
    have := ih (kstep acc p)
    have := kstep_w acc p
    omega
theorem segs_w (c : UInt8) (l : List UInt8) : (outL (segs c l)).length = l.length + 1 := by
  induction l with
  | nil => simp [segs, outL]
  | cons b l ih =>
    unfold segs
    split
    · rw [outL_cons, ih]; simp; omega
    · have hne := segs_ne c l
      cases e : segs c l with
      | nil => exact absurd e hne
      | cons p r =>
        rw [e, outL_cons] at ih
        simp only [outL_cons, List.length_cons]
        omega
theorem tail_w (l : List (List UInt8)) : (outL (tailE l)).length ≤ (outL l).length := by
  unfold tailE
  split
  · cases l with
    | nil => simp
    | cons p r => rw [List.tail_cons, outL_cons]; omega
  · exact Nat.le_refl _
theorem clean_le (l : List UInt8) : (cleanL l).length ≤ l.length + 2 := by
  unfold cleanL
  split
  · simp
  · have h1 := segs_w 47 l
    have h2 := tail_w (segs 47 l)
    unfold keptL kpt
    rw [List.take_length, outL_app, List.length_append]
    have h3 := fold_w (tailE (segs 47 l)) []
    have h4 : (outL []).length = 0 := rfl
    have h5 : ∀ b : Prop, [Decidable b] → (outL (if b then [[]] else [])).length ≤ 1 := fun b _ => by split <;> simp [outL]
    have h6 := h5 ((tailE (segs 47 l)).length = (tailE (segs 47 l)).length ∧ ((tailE (segs 47 l)).getLast?.map isDot).getD false = true)
    omega
def Fits (n : Nat) (u : U6) : Prop := u.1.length ≤ n ∧ u.2.1.length ≤ n ∧ u.2.2.1.length ≤ n ∧ u.2.2.2.1.length ≤ n ∧ u.2.2.2.2.1.length ≤ n ∧ u.2.2.2.2.2.length ≤ n
/-- the parts of a parsed address -/
theorem parse_len (s : List UInt8) (u : U6) (h : parseL s = some u) : Fits (3 * s.length + 2) u := by
  unfold parseL at h
  split at h
  · have ht := trimL_len s
    have h1 := pre_le 58 (trimL s)
    have h2 := post_le 58 (trimL s)
    have h3 := lowL_len (pre 58 (trimL s))
    revert h
    generalize lowL (pre 58 (trimL s)) = n at h3 ⊢
    generalize post 58 (trimL s) = r at h2 ⊢
    intro h
    unfold restL at h
    have h4 := pre_le 35 r
    have h5 := post_le 35 r
    have h6 := conv_len (innerL ++ [63]) true (post 35 r)
    revert h
    generalize conv (innerL ++ [63]) true (post 35 r) = fr at h6 ⊢
    generalize pre 35 r = b at h4 ⊢
    intro h
    simp only at h
    split at h
    · split at h
      · cases h
        refine ⟨?_, ?_, ?_, ?_, ?_, ?_⟩ <;> simp only [List.length_nil] <;> omega
      · cases h
    · unfold siteL at h
      split at h
      · simp only at h
        split at h
        · next h7 =>
          cases h
          have a1 := pre_le 63 (b.drop 2)
          have a2 := post_le 63 (b.drop 2)
          have a3 : (b.drop 2).length ≤ b.length := by simp
          have a4 := conv_len (innerL ++ [63]) true (post 63 (b.drop 2))
          have a5 := clean_le (conv innerL true ((pre 63 (b.drop 2)).drop (pre 47 (pre 63 (b.drop 2))).length))
          have a6 := conv_len innerL true ((pre 63 (b.drop 2)).drop (pre 47 (pre 63 (b.drop 2))).length)
          have a7 : ((pre 63 (b.drop 2)).drop (pre 47 (pre 63 (b.drop 2))).length).length ≤ (pre 63 (b.drop 2)).length := by simp
          have a8 := pre_le 47 (pre 63 (b.drop 2))
          have a9 := pre_le 58 (pre 47 (pre 63 (b.drop 2)))
          have b1 := lowL_len (pre 58 (pre 47 (pre 63 (b.drop 2))))
          have b2 : (portOf n (post 58 (pre 47 (pre 63 (b.drop 2))))).length ≤ (post 58 (pre 47 (pre 63 (b.drop 2)))).length := by
            unfold portOf
            split
            · simp
            · exact zeros_len _
          have b3 := post_le 58 (pre 47 (pre 63 (b.drop 2)))
          refine ⟨?_, ?_, ?_, ?_, ?_, ?_⟩ <;> simp only <;> omega
        · cases h
      · cases h
  · cases h
end Go.Proofs.YtgbinadjbikhhaaDoor
