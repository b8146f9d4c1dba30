/- UrlOrigin: the law returns true for all addresses. -/
import Derived.Test.YtgbinadjbikhhaaDoorLO3
import Derived.Test.YtgbinadjbikhhaaDoorLX
namespace Go.Proofs.YtgbinadjbikhhaaDoor
set_option linter.unusedVariables false
set_option linter.unusedSimpArgs false
open Go.RowKit

set_option maxRecDepth 20000 in
set_option maxHeartbeats 8000000 in
theorem origin_core (a b c d e f a' b' c' d' e' f' : ByteArray) (w : World) (hM : MaxAt w) (ha : a.size ≤ 400) (hb : b.size ≤ 400) (hc : c.size ≤ 400) (hd : d.size ≤ 400) (he : e.size ≤ 400) (hf : f.size ≤ 400) (ka : a'.size ≤ 400) (kb : b'.size ≤ 400) (kc : c'.size ≤ 400) (kd : d'.size ≤ 400) (ke : e'.size ≤ 400) (kf : f'.size ≤ 400) (CS1 : Hid (∀ w, Calls Tryd.prog 18 #[.agg #[.string a, .string b, .string c, .string d, .string e, .string f]] w fun x w' => x = .returned (.bool true) ∧ Below w.heap.size w w')) (CS2 : Hid (∀ w, Calls Tryd.prog 18 #[.agg #[.string a', .string b', .string c', .string d', .string e', .string f']] w fun x w' => x = .returned (.bool true) ∧ Below w.heap.size w w')) :
    Calls Tryd.prog 7 #[.agg #[.string a, .string b, .string c, .string d, .string e, .string f], .agg #[.string a', .string b', .string c', .string d', .string e', .string f']] w fun x w' => x = .returned (.bool true) ∧ Below w.heap.size w w' := by
  obtain ⟨A, hA⟩ := list_bytes (orgL (a.data.toList, b.data.toList, c.data.toList, d.data.toList, e.data.toList, f.data.toList))
  obtain ⟨B, hB⟩ := list_bytes (orgL (a'.data.toList, b'.data.toList, c'.data.toList, d'.data.toList, e'.data.toList, f'.data.toList))
  have hAl := org_len a b c d e f
  rw [← hA, size_len] at hAl
  have cA := fun w hM => origin_is a b c d e f A w (by omega) (by omega) (by omega) (by omega) (by omega) (by omega) hM hA
  have cB := fun w hM => origin_is a' b' c' d' e' f' B w (by omega) (by omega) (by omega) (by omega) (by omega) (by omega) hM hB
  have CR := Lib.hid (fun w hM => rorigin_is a b c d e f A w (by omega) (by omega) (by omega) (by omega) (by omega) (by omega) hM hA)
  have CAB := Lib.hid (fun w hM => same_any a b c d e f a' b' c' d' e' f' A B w hM cA cB)
  have CAA := Lib.hid (fun w hM => same_any a b c d e f a b c d e f A A w hM cA cA)
  have CW := Lib.hid (fun w => without_any a b c d e f w)
  have hX : ∃ X, decide (A = B) = X := ⟨_, rfl⟩
  obtain ⟨X, hX⟩ := hX
  have n1 : (A.toList == B.toList) = X := by
    rw [← hX, str_beq]; exact decide_eq_decide.2 ⟨fun h => byteArray_ext (by rw [h, ByteArray.toList_eq]), fun h => by rw [h, ByteArray.toList_eq]⟩
  by_cases hN : A = nullS
  · have n2 : (A.toList == [110, 117, 108, 108]) = true := by rw [hN, str_beq]; exact decide_eq_true rfl
    have e1 : sameB A B = false := by simp [sameB, hN]
    have e2 : sameB A A = false := by simp [sameB, hN]
    rw [e1] at CAB
    rw [e2] at CAA
    have CA := Lib.hid cA
    have CB := Lib.hid cB
    clear cA cB hA hB hX e1 e2 hN
    cases X
    all_goals
      go_enter Tryd.func7, Tryd.ntmps7
      go_wp2_with fail
      have S0 := new6 w (.string a) (.string b) (.string c) (.string d) (.string e) (.string f) 25
      have hB0 : Below w.heap.size w (w.alloc (.cells #[.string a, .string b, .string c, .string d, .string e, .string f] 25)) := (Below.refl _ w).alloc (Nat.le_refl _) _
      have hM0 := hM.below hB0 (Nat.le_refl _)
      have hB1 := hB0.alloc hB0.size (.cells #[.string a', .string b', .string c', .string d', .string e', .string f'] 25)
      have hz0 : w.heap.size < (w.alloc (.cells #[.string a, .string b, .string c, .string d, .string e, .string f] 25)).heap.size := (by simp)
      obtain ⟨wa, hwa⟩ : ∃ wa : World, (w.alloc (.cells #[.string a, .string b, .string c, .string d, .string e, .string f] 25)).alloc (.cells #[.string a', .string b', .string c', .string d', .string e', .string f'] 25) = wa := ⟨_, rfl⟩
      obtain ⟨K, hK⟩ : ∃ K, w.heap.size = K := ⟨_, rfl⟩
      obtain ⟨M, hm⟩ : ∃ M, w.heap.size + 1 = M := ⟨_, rfl⟩
      have S1 := start12 (M := M) hM0 hz0 S0 hwa (by rw [← hm]; simp)
      have hkl : K < wa.heap.size := (by rw [← hwa, ← hK]; simp; omega)
      have hml : M < wa.heap.size := (by rw [← hwa, ← hm]; simp)
      rw [hwa] at hB1
      rw [hK] at S1 hB1
      rw [hwa, hm, hK]
      clear hwa hm hB0 hM0 S0 hz0
      have HK := Lib.hid hK
      clear hK
      obtain ⟨a0, a1, a2, a3, a4, a5, b0, b1, b2, b3, b4, b5, hMa, -⟩ := S1
      have hKa : K ≤ wa.heap.size := Nat.le_of_lt hkl
      have CF := Lib.hid (fit_any wa hMa)
      go_wp2_with (first
        | (go_at_call 11; with_reducible refine CF.out.mono ?_; rintro x w1 ⟨rfl, hb1⟩; have hr1 := brule hb1)
        | (go_at_call 18; with_reducible refine (CS1.out _).mono ?_; rintro x w2 ⟨rfl, hb2⟩; have hBl2 := hb1.trans (hb2.mono hb1.size); have hr2 := brule hBl2)
        | (go_at_call 18; with_reducible refine (CS2.out _).mono ?_; rintro x w3 ⟨rfl, hb3⟩; have hBl3 := hBl2.trans (hb3.mono hBl2.size); have hr3 := brule hBl3))
      have S3 := And.intro ((hr3 K 0 hkl).trans a0) (And.intro ((hr3 K 1 hkl).trans a1) (And.intro ((hr3 K 2 hkl).trans a2) (And.intro ((hr3 K 3 hkl).trans a3) (And.intro ((hr3 K 4 hkl).trans a4) (And.intro ((hr3 K 5 hkl).trans a5) (And.intro ((hr3 M 0 hml).trans b0) (And.intro ((hr3 M 1 hml).trans b1) (And.intro ((hr3 M 2 hml).trans b2) (And.intro ((hr3 M 3 hml).trans b3) (And.intro ((hr3 M 4 hml).trans b4) (And.intro ((hr3 M 5 hml).trans b5) (And.intro (hMa.below hBl3 (Nat.le_refl _)) (hBl3)))))))))))))
      go_region_held3 (fun w' => w'.cell? ⟨K, 0, none⟩ = some (.string a) ∧ w'.cell? ⟨K, 1, none⟩ = some (.string b) ∧ w'.cell? ⟨K, 2, none⟩ = some (.string c) ∧ w'.cell? ⟨K, 3, none⟩ = some (.string d) ∧ w'.cell? ⟨K, 4, none⟩ = some (.string e) ∧ w'.cell? ⟨K, 5, none⟩ = some (.string f) ∧ w'.cell? ⟨M, 0, none⟩ = some (.string a') ∧ w'.cell? ⟨M, 1, none⟩ = some (.string b') ∧ w'.cell? ⟨M, 2, none⟩ = some (.string c') ∧ w'.cell? ⟨M, 3, none⟩ = some (.string d') ∧ w'.cell? ⟨M, 4, none⟩ = some (.string e') ∧ w'.cell? ⟨M, 5, none⟩ = some (.string f') ∧ MaxAt w' ∧ Below wa.heap.size wa w') (first | exact drew12 hkl hml S3 | (apply snext12 hkl hml; rotate_left; assumption; assumption) | go_keep) (first | (go_at_call 28; with_reducible refine (CA.out _ (max12 (by assumption))).mono ?_; rintro x w4 ⟨rfl, hb4⟩) | (go_at_call 28; with_reducible refine (CB.out _ (max12 (by assumption))).mono ?_; rintro x w5 ⟨rfl, hb5⟩))
      have hBl5 : Below wa.heap.size wa w5 := bel12 (by assumption)
      have hr5 := brule hBl5
      clear S3 hb4 hb5 hr3 hBl3 hr2 hBl2 hr1
      go_wp2_with (first
        | (go_at_call 29; with_reducible refine (CR.out _ (hMa.below hBl5 (Nat.le_refl _))).mono ?_; rintro x w6 ⟨rfl, hb6⟩; have hBl6 := hBl5.trans (hb6.mono hBl5.size); have hr6 := brule hBl6)
        | (go_at_call 30; with_reducible refine (CAB.out _ (hMa.below hBl6 (Nat.le_refl _))).mono ?_; rintro x w7 ⟨rfl, hb7⟩; have hBl7 := hBl6.trans (hb7.mono hBl6.size); have hr7 := brule hBl7)
        | (go_at_call 30; with_reducible refine (CAA.out _ (hMa.below hBl7 (Nat.le_refl _))).mono ?_; rintro x w8 ⟨rfl, hb8⟩; have hBl8 := hBl7.trans (hb8.mono hBl7.size); have hr8 := brule hBl8)
        | (go_at_call 13; with_reducible refine (CP.out _ (hMa.below hBl8 (Nat.le_refl _))).mono ?_; rintro x w9 ⟨rfl, hb9⟩; have hBl9 := hBl8.trans (hb9.mono hBl8.size); have hr9 := brule hBl9; have hk9 := Nat.lt_of_lt_of_le hkl hBl9.size; have hB10 := hBl9.alloc hBl9.size (.cells #[.string a, .string b, .string c, .string ⟨#[47]⟩, .string ⟨#[]⟩, .string ⟨#[]⟩] 25))
        | (go_at_call 30; with_reducible refine (CAW.out _ (hMa.below hB10 (Nat.le_refl _))).mono ?_; rintro x w11 ⟨rfl, hb11⟩; have hBl11 := hB10.trans (hb11.mono hB10.size); have hr11 := brule hBl11; have hc11 := brule hb11; have hz11 : w9.heap.size < w11.heap.size := (by have := hb11.size; simp at this; omega))
        | (go_at_call 31; with_reducible refine (CW.out _).mono ?_; rintro x w12 ⟨rfl, hb12⟩; have hBl12 := hBl11.trans (hb12.mono hBl11.size))
        | (go_at_call 28; with_reducible refine (CO.out _ (hMa.below hBl12 (Nat.le_refl _))).mono ?_; rintro x w13 ⟨rfl, hb13⟩; have hBl13 := hBl12.trans (hb13.mono hBl12.size)))
      go_ret
      rw [HK.out]
      exact ⟨rfl, hB1.trans (hBl8.mono hKa)⟩
  · have n2 : (A.toList == [110, 117, 108, 108]) = false := by rw [str_beq]; exact decide_eq_false fun h => hN (byteArray_ext h)
    have hAn : orgL (a.data.toList, b.data.toList, c.data.toList, d.data.toList, e.data.toList, f.data.toList) ≠ [110, 117, 108, 108] := by rw [← hA]; exact fun h => hN (byteArray_ext h)
    obtain ⟨q1, q2, q3⟩ := org_parse hAn
    have CP := Lib.hid (fun w hM => parse_some A w (by omega) hM a b c ⟨#[47]⟩ ⟨#[]⟩ ⟨#[]⟩ (by rw [hA]; exact q1))
    have cW := fun w hM => origin_is a b c ⟨#[47]⟩ ⟨#[]⟩ ⟨#[]⟩ A w (by omega) (by omega) (by omega) (by decide) (by decide) (by decide) hM (by rw [hA]; exact q2.symm)
    have CO := Lib.hid (fun w hM => origin_is a b c d e ⟨#[]⟩ A w (by omega) (by omega) (by omega) (by omega) (by omega) (by decide) hM (by rw [hA]; exact q3.symm))
    have CAW := Lib.hid (fun w hM => same_any a b c d e f a b c ⟨#[47]⟩ ⟨#[]⟩ ⟨#[]⟩ A A w hM cA cW)
    have e1 : sameB A B = X := by simp [sameB, hN, hX]
    have e2 : sameB A A = true := by simp [sameB, hN]
    rw [e1] at CAB
    rw [e2] at CAA CAW
    have CA := Lib.hid cA
    have CB := Lib.hid cB
    clear cA cB hA hB hX e1 e2 hN q1 q2 q3 hAn cW
    cases X
    all_goals
      go_enter Tryd.func7, Tryd.ntmps7
      go_wp2_with fail
      have S0 := new6 w (.string a) (.string b) (.string c) (.string d) (.string e) (.string f) 25
      have hB0 : Below w.heap.size w (w.alloc (.cells #[.string a, .string b, .string c, .string d, .string e, .string f] 25)) := (Below.refl _ w).alloc (Nat.le_refl _) _
      have hM0 := hM.below hB0 (Nat.le_refl _)
      have hB1 := hB0.alloc hB0.size (.cells #[.string a', .string b', .string c', .string d', .string e', .string f'] 25)
      have hz0 : w.heap.size < (w.alloc (.cells #[.string a, .string b, .string c, .string d, .string e, .string f] 25)).heap.size := (by simp)
      obtain ⟨wa, hwa⟩ : ∃ wa : World, (w.alloc (.cells #[.string a, .string b, .string c, .string d, .string e, .string f] 25)).alloc (.cells #[.string a', .string b', .string c', .string d', .string e', .string f'] 25) = wa := ⟨_, rfl⟩
      obtain ⟨K, hK⟩ : ∃ K, w.heap.size = K := ⟨_, rfl⟩
      obtain ⟨M, hm⟩ : ∃ M, w.heap.size + 1 = M := ⟨_, rfl⟩
      have S1 := start12 (M := M) hM0 hz0 S0 hwa (by rw [← hm]; simp)
      have hkl : K < wa.heap.size := (by rw [← hwa, ← hK]; simp; omega)
      have hml : M < wa.heap.size := (by rw [← hwa, ← hm]; simp)
      rw [hwa] at hB1
      rw [hK] at S1 hB1
      rw [hwa, hm, hK]
      clear hwa hm hB0 hM0 S0 hz0
      have HK := Lib.hid hK
      clear hK
      obtain ⟨a0, a1, a2, a3, a4, a5, b0, b1, b2, b3, b4, b5, hMa, -⟩ := S1
      have hKa : K ≤ wa.heap.size := Nat.le_of_lt hkl
      have CF := Lib.hid (fit_any wa hMa)
      go_wp2_with (first
        | (go_at_call 11; with_reducible refine CF.out.mono ?_; rintro x w1 ⟨rfl, hb1⟩; have hr1 := brule hb1)
        | (go_at_call 18; with_reducible refine (CS1.out _).mono ?_; rintro x w2 ⟨rfl, hb2⟩; have hBl2 := hb1.trans (hb2.mono hb1.size); have hr2 := brule hBl2)
        | (go_at_call 18; with_reducible refine (CS2.out _).mono ?_; rintro x w3 ⟨rfl, hb3⟩; have hBl3 := hBl2.trans (hb3.mono hBl2.size); have hr3 := brule hBl3))
      have S3 := And.intro ((hr3 K 0 hkl).trans a0) (And.intro ((hr3 K 1 hkl).trans a1) (And.intro ((hr3 K 2 hkl).trans a2) (And.intro ((hr3 K 3 hkl).trans a3) (And.intro ((hr3 K 4 hkl).trans a4) (And.intro ((hr3 K 5 hkl).trans a5) (And.intro ((hr3 M 0 hml).trans b0) (And.intro ((hr3 M 1 hml).trans b1) (And.intro ((hr3 M 2 hml).trans b2) (And.intro ((hr3 M 3 hml).trans b3) (And.intro ((hr3 M 4 hml).trans b4) (And.intro ((hr3 M 5 hml).trans b5) (And.intro (hMa.below hBl3 (Nat.le_refl _)) (hBl3)))))))))))))
      go_region_held3 (fun w' => w'.cell? ⟨K, 0, none⟩ = some (.string a) ∧ w'.cell? ⟨K, 1, none⟩ = some (.string b) ∧ w'.cell? ⟨K, 2, none⟩ = some (.string c) ∧ w'.cell? ⟨K, 3, none⟩ = some (.string d) ∧ w'.cell? ⟨K, 4, none⟩ = some (.string e) ∧ w'.cell? ⟨K, 5, none⟩ = some (.string f) ∧ w'.cell? ⟨M, 0, none⟩ = some (.string a') ∧ w'.cell? ⟨M, 1, none⟩ = some (.string b') ∧ w'.cell? ⟨M, 2, none⟩ = some (.string c') ∧ w'.cell? ⟨M, 3, none⟩ = some (.string d') ∧ w'.cell? ⟨M, 4, none⟩ = some (.string e') ∧ w'.cell? ⟨M, 5, none⟩ = some (.string f') ∧ MaxAt w' ∧ Below wa.heap.size wa w') (first | exact drew12 hkl hml S3 | (apply snext12 hkl hml; rotate_left; assumption; assumption) | go_keep) (first | (go_at_call 28; with_reducible refine (CA.out _ (max12 (by assumption))).mono ?_; rintro x w4 ⟨rfl, hb4⟩) | (go_at_call 28; with_reducible refine (CB.out _ (max12 (by assumption))).mono ?_; rintro x w5 ⟨rfl, hb5⟩))
      have hBl5 : Below wa.heap.size wa w5 := bel12 (by assumption)
      have hr5 := brule hBl5
      clear S3 hb4 hb5 hr3 hBl3 hr2 hBl2 hr1
      go_wp2_with (first
        | (go_at_call 29; with_reducible refine (CR.out _ (hMa.below hBl5 (Nat.le_refl _))).mono ?_; rintro x w6 ⟨rfl, hb6⟩; have hBl6 := hBl5.trans (hb6.mono hBl5.size); have hr6 := brule hBl6)
        | (go_at_call 30; with_reducible refine (CAB.out _ (hMa.below hBl6 (Nat.le_refl _))).mono ?_; rintro x w7 ⟨rfl, hb7⟩; have hBl7 := hBl6.trans (hb7.mono hBl6.size); have hr7 := brule hBl7)
        | (go_at_call 30; with_reducible refine (CAA.out _ (hMa.below hBl7 (Nat.le_refl _))).mono ?_; rintro x w8 ⟨rfl, hb8⟩; have hBl8 := hBl7.trans (hb8.mono hBl7.size); have hr8 := brule hBl8)
        | (go_at_call 13; with_reducible refine (CP.out _ (hMa.below hBl8 (Nat.le_refl _))).mono ?_; rintro x w9 ⟨rfl, hb9⟩; have hBl9 := hBl8.trans (hb9.mono hBl8.size); have hr9 := brule hBl9; have hk9 := Nat.lt_of_lt_of_le hkl hBl9.size; have hB10 := hBl9.alloc hBl9.size (.cells #[.string a, .string b, .string c, .string ⟨#[47]⟩, .string ⟨#[]⟩, .string ⟨#[]⟩] 25))
        | (go_at_call 30; with_reducible refine (CAW.out _ (hMa.below hB10 (Nat.le_refl _))).mono ?_; rintro x w11 ⟨rfl, hb11⟩; have hBl11 := hB10.trans (hb11.mono hB10.size); have hr11 := brule hBl11; have hc11 := brule hb11; have hz11 : w9.heap.size < w11.heap.size := (by have := hb11.size; simp at this; omega))
        | (go_at_call 31; with_reducible refine (CW.out _).mono ?_; rintro x w12 ⟨rfl, hb12⟩; have hBl12 := hBl11.trans (hb12.mono hBl11.size))
        | (go_at_call 28; with_reducible refine (CO.out _ (hMa.below hBl12 (Nat.le_refl _))).mono ?_; rintro x w13 ⟨rfl, hb13⟩; have hBl13 := hBl12.trans (hb13.mono hBl12.size)))
      go_ret
      rw [HK.out]
      exact ⟨rfl, hB1.trans (hBl13.mono hKa)⟩
end Go.Proofs.YtgbinadjbikhhaaDoor
