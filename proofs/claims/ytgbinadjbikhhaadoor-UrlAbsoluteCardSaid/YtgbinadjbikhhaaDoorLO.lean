/- Origin. -/
import Derived.Test.YtgbinadjbikhhaaDoorLV
import Derived.Test.YtgbinadjbikhhaaDoorLQ
import Derived.Test.YtgbinadjbikhhaaDoorLR
namespace Go.Proofs.YtgbinadjbikhhaaDoor
set_option linter.unusedVariables false
set_option linter.unusedSimpArgs false
open Go.RowKit

abbrev nullS : ByteArray := ⟨#[110, 117, 108, 108]⟩
set_option maxRecDepth 20000 in
set_option maxHeartbeats 1000000 in
theorem origin_any (a b c d e f : ByteArray) (w : World) (ha : a.size ≤ 40000) (hb : b.size ≤ 40000) (hc : c.size ≤ 40000) (hd : d.size ≤ 40000) (he : e.size ≤ 40000) (hf : f.size ≤ 40000) (hM : MaxAt w) :
    Calls Tryd.prog 28 #[.agg #[.string a, .string b, .string c, .string d, .string e, .string f]] w fun e' w' => ∃ t : ByteArray, e' = .returned (.string t) ∧ t.data.toList = originL (a.data.toList, b.data.toList, c.data.toList, d.data.toList, e.data.toList, f.data.toList) (validB (a.data.toList, b.data.toList, c.data.toList, d.data.toList, e.data.toList, f.data.toList)) ∧ Below w.heap.size w w' := by
  have cV := fun w hM => valid_any a b c d e f w ha hb hc hd he hf hM
  have cP := fun w => site_any a b c d e f w (by omega) (by omega) (by omega)
  obtain ⟨B, hB⟩ : ∃ B, validB (a.data.toList, b.data.toList, c.data.toList, d.data.toList, e.data.toList, f.data.toList) = B := ⟨_, rfl⟩
  obtain ⟨PL, hPL⟩ : ∃ PL, placeL (a.data.toList, b.data.toList, c.data.toList, d.data.toList, e.data.toList, f.data.toList) = PL := ⟨_, rfl⟩
  have hR : originL (a.data.toList, b.data.toList, c.data.toList, d.data.toList, e.data.toList, f.data.toList) B = if B = true ∧ a.data.toList ≠ aboutL then PL else [110, 117, 108, 108] := by rw [originL, hPL]
  rw [hB] at cV ⊢
  rw [hPL] at cP
  obtain ⟨R, hRR⟩ : ∃ R, originL (a.data.toList, b.data.toList, c.data.toList, d.data.toList, e.data.toList, f.data.toList) B = R := ⟨_, rfl⟩
  rw [hRR] at hR ⊢
  have hB0 : Below w.heap.size w (w.alloc (.cells #[.string a, .string b, .string c, .string d, .string e, .string f] 25)) := (Below.refl _ w).alloc (Nat.le_refl _) _
  have n1 : (a.toList == [97, 98, 111, 117, 116]) = decide (a.data.toList = aboutL) := str_beq _ _
  obtain ⟨X, hX⟩ : ∃ X, decide (a.data.toList = aboutL) = X := ⟨_, rfl⟩
  have hR2 : R = if B = true ∧ X = false then PL else [110, 117, 108, 108] := by rw [hR, ← hX]; simp
  rw [hX] at n1
  have HR := Lib.hid hR2
  have CV := Lib.hid cV
  have CP := Lib.hid cP
  clear cV cP hB hPL hR hRR hX hR2
  cases B <;> cases X
  all_goals
    go_enter Tryd.func28, Tryd.ntmps28
    go_wp2_with (first
      | (go_at_call 20; with_reducible refine (CV.out _ (hM.below hB0 (Nat.le_refl _))).mono ?_; rintro e' w1 ⟨rfl, hb1⟩; have hB1 := hB0.trans (hb1.mono hB0.size); obtain ⟨hc1, hf1⟩ := bcell hb1; have hz1 : w.heap.size < w1.heap.size := (by have := hb1.size; simp at this; omega))
      | (go_at_call 56; with_reducible refine (CP.out _).mono ?_; rintro e' w2 ⟨t, rfl, ht, hb2⟩; have hB2 := hB1.trans (hb2.mono hB1.size); have Ht := Lib.hid ht; clear ht))
    go_ret
    first
      | exact ⟨_, rfl, by rw [HR.out]; rfl, hB1⟩
      | exact ⟨t, rfl, by rw [HR.out, Ht.out]; rfl, hB2⟩
end Go.Proofs.YtgbinadjbikhhaaDoor
