/- UrlPrint: the law. -/
import Derived.Test.YtgbinadjbikhhaaDoorLX
namespace Go.Proofs.YtgbinadjbikhhaaDoor
set_option linter.unusedVariables false
set_option linter.unusedSimpArgs false
open Go.RowKit

set_option maxRecDepth 20000 in
theorem urlprint_law (s a b c d e f : ByteArray) (w : World) (hM : MaxAt w) :
    Calls Tryd.prog 5 #[.string s, .agg #[.string a, .string b, .string c, .string d, .string e, .string f]] w fun x w' => x = .returned (.bool true) ∧ Below w.heap.size w w' := by
  have cW := fun b w hc => few1 s b w hc
  have cSh := fun w => short_any a b c d e f w
  by_cases h4 : s.size ≤ 400
  · simp only [h4, decide_true] at cW
    cases hS : shortB a b c d e f with
    | true =>
      rw [hS] at cSh
      obtain ⟨ha, hb, hc, hd, he, hf⟩ := shortB_iff hS
      cases hP : parseL s.data.toList with
      | none => exact printnone s a b c d e f w hM h4 ha hb hc hd he hf hP (Lib.hid cW) (Lib.hid cSh)
      | some u =>
        obtain ⟨r1, r2, r3, r4, r5, r6, hp⟩ := some_bytes hP
        exact printsome s a b c d e f w hM h4 ha hb hc hd he hf r1 r2 r3 r4 r5 r6 hp (Lib.hid cW) (Lib.hid cSh)
    | false =>
      rw [hS] at cSh
      have CW := Lib.hid cW
      have CSh := Lib.hid cSh
      have hB0 : Below w.heap.size w (w.alloc (.cells #[.string a, .string b, .string c, .string d, .string e, .string f] 25)) := (Below.refl _ w).alloc (Nat.le_refl _) _
      have CF := Lib.hid (fit_any _ (hM.below hB0 (Nat.le_refl _)))
      clear cW cSh hS
      go_enter Tryd.func5, Tryd.ntmps5
      go_wp2_with (first
        | (go_at_call 11; with_reducible refine CF.out.mono ?_; rintro x w1 ⟨rfl, hb1⟩; obtain ⟨hc1, hf1⟩ := bcell hb1; have hB1 := hB0.trans (hb1.mono hB0.size); have hz1 : w.heap.size < w1.heap.size := (by have := hb1.size; simp at this; omega))
        | (go_at_call 12; with_reducible refine (CW.out _ _ (by simp)).mono ?_; rintro x w2 ⟨rfl, rfl⟩; have hB2 := hB1.alloc hB1.size (.cells #[.string s] 9))
        | (go_at_call 18; with_reducible refine (CSh.out _).mono ?_; rintro x w2 ⟨rfl, hb2⟩))
      go_ret
      exact ⟨rfl, hB2.trans (hb2.mono hB2.size)⟩
  · simp only [h4, decide_false] at cW
    have CW := Lib.hid cW
    have hB0 : Below w.heap.size w (w.alloc (.cells #[.string a, .string b, .string c, .string d, .string e, .string f] 25)) := (Below.refl _ w).alloc (Nat.le_refl _) _
    have CF := Lib.hid (fit_any _ (hM.below hB0 (Nat.le_refl _)))
    clear cW cSh
    go_enter Tryd.func5, Tryd.ntmps5
    go_wp2_with (first
      | (go_at_call 11; with_reducible refine CF.out.mono ?_; rintro x w1 ⟨rfl, hb1⟩; have hB1 := hB0.trans (hb1.mono hB0.size))
      | (go_at_call 12; with_reducible refine (CW.out _ _ (by simp)).mono ?_; rintro x w2 ⟨rfl, rfl⟩))
    go_ret
    exact ⟨rfl, hB1.alloc hB1.size _⟩
end Go.Proofs.YtgbinadjbikhhaaDoor
