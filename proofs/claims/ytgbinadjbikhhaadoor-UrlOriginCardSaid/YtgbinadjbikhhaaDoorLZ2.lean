/- UrlOrigin: the law. -/
import Derived.Test.YtgbinadjbikhhaaDoorLZ
namespace Go.Proofs.YtgbinadjbikhhaaDoor
set_option linter.unusedVariables false
set_option linter.unusedSimpArgs false
open Go.RowKit

set_option maxRecDepth 20000 in
theorem urlorigin_law (a b c d e f a' b' c' d' e' f' : ByteArray) (w : World) (hM : MaxAt w) :
    Calls Tryd.prog 7 #[.agg #[.string a, .string b, .string c, .string d, .string e, .string f], .agg #[.string a', .string b', .string c', .string d', .string e', .string f']] w fun x w' => x = .returned (.bool true) ∧ Below w.heap.size w w' := by
  have c1 := fun w => short_any a b c d e f w
  have c2 := fun w => short_any a' b' c' d' e' f' w
  have hB0 : Below w.heap.size w ((w.alloc (.cells #[.string a, .string b, .string c, .string d, .string e, .string f] 25)).alloc (.cells #[.string a', .string b', .string c', .string d', .string e', .string f'] 25)) := ((Below.refl _ w).alloc (Nat.le_refl _) _).alloc (by simp) _
  have CF := Lib.hid (fit_any _ (hM.below hB0 (Nat.le_refl _)))
  cases hS : shortB a b c d e f <;> cases hT : shortB a' b' c' d' e' f'
  case true.true =>
    obtain ⟨ha, hb, hc, hd, he, hf⟩ := shortB_iff hS
    obtain ⟨ka, kb, kc, kd, ke, kf⟩ := shortB_iff hT
    rw [hS] at c1
    rw [hT] at c2
    exact origin_core a b c d e f a' b' c' d' e' f' w hM ha hb hc hd he hf ka kb kc kd ke kf (Lib.hid c1) (Lib.hid c2)
  all_goals
    rw [hS] at c1
    rw [hT] at c2
    have CS1 := Lib.hid c1
    have CS2 := Lib.hid c2
    clear c1 c2 hS hT
    go_enter Tryd.func7, Tryd.ntmps7
    go_wp2_with (first
      | (go_at_call 11; with_reducible refine CF.out.mono ?_; rintro x w1 ⟨rfl, hb1⟩; obtain ⟨hc1, hf1⟩ := bcell hb1; have hB1 := hB0.trans (hb1.mono hB0.size); have hz1 : w.heap.size < w1.heap.size := (by have := hb1.size; simp at this; omega); have hz2 : w.heap.size + 1 < w1.heap.size := (by have := hb1.size; simp at this; omega))
      | (go_at_call 18; with_reducible refine (CS1.out _).mono ?_; rintro x w2 ⟨rfl, hb2⟩; have hB2 := hB1.trans (hb2.mono hB1.size); obtain ⟨hc2, hf2⟩ := bcell hb2)
      | (go_at_call 18; with_reducible refine (CS2.out _).mono ?_; rintro x w3 ⟨rfl, hb3⟩; have hB3 := hB2.trans (hb3.mono hB2.size)))
    go_ret
    first
      | exact ⟨rfl, hB3⟩
      | exact ⟨rfl, hB2⟩
end Go.Proofs.YtgbinadjbikhhaaDoor
