/- UrlClean: the law returns true for every text. -/
import Derived.Test.YtgbinadjbikhhaaDoorLC
import Derived.Test.YtgbinadjbikhhaaDoorLP
namespace Go.Proofs.YtgbinadjbikhhaaDoor
set_option linter.unusedVariables false
set_option linter.unusedSimpArgs false
open Go.RowKit

theorem fold_len (l : List (List UInt8)) : ∀ acc : List (List UInt8), (l.foldl kstep acc).length ≤ acc.length + l.length := by
  induction l with
  | nil => intro acc; simp
  | cons p r ih =>
    intro acc
    have h1 := ih (kstep acc p)
    have h2 : (kstep acc p).length ≤ acc.length + 1 := by unfold kstep; split <;> (try split) <;> simp <;> omega
    rw [List.foldl_cons, List.length_cons]
    omega
theorem kept_len (l : List (List UInt8)) : (keptL l).length ≤ l.length + 1 := by
  unfold keptL kpt
  have h := fold_len l []
  rw [List.length_append, List.take_length]
  rw [List.length_nil] at h
  split <;> simp only [List.length_cons, List.length_nil] <;> omega
theorem clean_len (l : List UInt8) (h : l.length ≤ 400) : (cleanL l).length ≤ 200000 := by
  rw [cleanL_is]
  split
  · simp
  · have h1 := outL_len 400 (keptP l) (fun x hx => by
      rcases (keptP_mem l x hx).2.2 with rfl | h3
      · simp
      · exact Nat.le_trans (segs_len 47 l x h3) h)
    have h2 : (keptP l).length ≤ 402 := by
      have a := kept_len (tailE (segs 47 l))
      have b := segs_count 47 l
      have c : (tailE (segs 47 l)).length ≤ (segs 47 l).length := by unfold tailE; split <;> simp
      unfold keptP; omega
    have h3 : (keptP l).length * (400 + 1) ≤ 402 * (400 + 1) := Nat.mul_le_mul_right _ h2
    omega
set_option maxRecDepth 20000 in
theorem urlclean_law (s : ByteArray) (w : World) (hM : MaxAt w) : Calls Tryd.prog 4 #[.string s] w fun e w' => e = .returned (.bool true) ∧ Below w.heap.size w w' := by
  have cF := fit_any w hM
  have cW := fun b w hc => few1 s b w hc
  by_cases h4 : s.size ≤ 400
  · simp only [h4, decide_true] at cW
    obtain ⟨C, hC⟩ : ∃ C : ByteArray, ⟨(cleanL s.data.toList).toArray⟩ = C := ⟨_, rfl⟩
    have hCl : C.data.toList = cleanL s.data.toList := by rw [← hC]
    have hCs : C.size ≤ 200000 := by rw [size_of hCl]; exact clean_len _ (by rw [size_len]; exact h4)
    obtain ⟨r, hr⟩ := clean_head s.data.toList
    have hC0 : 0 < C.size := by rw [size_of hCl, hr]; simp
    have hC1 : C[0] = 47 := by
      have := drop_at C 0 hC0
      rw [List.drop_zero, hCl, hr] at this
      exact (List.cons.inj this).1.symm
    have hCi : ((C[0].toNat : Int) == 47) = true := by rw [hC1]; rfl
    have cC : ∀ w, MaxAt w → Calls Tryd.prog 16 #[.string s] w fun e w' => e = .returned (.string C) ∧ Below w.heap.size w w' := fun w hM => by
      refine (clean_any s w (by omega) hM).mono ?_
      rintro e w' ⟨t, rfl, ht, hb⟩
      exact ⟨by rw [strV_of ht, strV, hC], hb⟩
    have cD : ∀ w, MaxAt w → Calls Tryd.prog 16 #[.string C] w fun e w' => e = .returned (.string C) ∧ Below w.heap.size w w' := fun w hM => by
      refine (clean_any C w (by omega) hM).mono ?_
      rintro e w' ⟨t, rfl, ht, hb⟩
      rw [hCl, clean_idem] at ht
      exact ⟨by rw [strV_of ht, strV, hC], hb⟩
    have cR : ∀ w, Calls Tryd.prog 17 #[.string s] w fun e w' => e = .returned (.string C) ∧ Below w.heap.size w w' := fun w => by
      refine (rclean_any s w (by omega)).mono ?_
      rintro e w' ⟨t, rfl, ht, hb⟩
      exact ⟨by rw [strV_of ht, strV, hC], hb⟩
    have CF := Lib.hid cF
    have CW := Lib.hid cW
    have CC := Lib.hid cC
    have CD := Lib.hid cD
    have CR := Lib.hid cR
    clear cF cW cC cD cR hC hCl hr hC1
    go_enter Tryd.func4, Tryd.ntmps4
    go_wp2_with (first
      | (go_at_call 11; with_reducible refine CF.out.mono ?_; rintro e' w1 ⟨rfl, hb1⟩)
      | (go_at_call 12; with_reducible refine (CW.out _ _ (by simp)).mono ?_; rintro e' w2 ⟨rfl, rfl⟩; have hb2 := hb1.alloc hb1.size (.cells #[.string s] 9))
      | (go_at_call 16; with_reducible refine (CC.out _ (hM.below hb2 (Nat.le_refl _))).mono ?_; rintro e' w3 ⟨rfl, hb3⟩; have hb4 := hb2.trans (hb3.mono hb2.size))
      | (go_at_call 17; with_reducible refine (CR.out _).mono ?_; rintro e' w4 ⟨rfl, hb5⟩; have hb6 := hb4.trans (hb5.mono hb4.size))
      | (go_at_call 16; with_reducible refine (CD.out _ (hM.below hb6 (Nat.le_refl _))).mono ?_; rintro e' w5 ⟨rfl, hb7⟩; have hb8 := hb6.trans (hb7.mono hb6.size)))
    go_ret
    exact ⟨rfl, hb8⟩
  · simp only [h4, decide_false] at cW
    have CF := Lib.hid cF
    have CW := Lib.hid cW
    clear cF cW
    go_enter Tryd.func4, Tryd.ntmps4
    go_wp2_with (first
      | (go_at_call 11; with_reducible refine CF.out.mono ?_; rintro e' w1 ⟨rfl, hb1⟩)
      | (go_at_call 12; with_reducible refine (CW.out _ _ (by simp)).mono ?_; rintro e' w2 ⟨rfl, rfl⟩))
    go_ret
    exact ⟨rfl, hb1.alloc hb1.size _⟩
end Go.Proofs.YtgbinadjbikhhaaDoor
