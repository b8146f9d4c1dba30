/- UrlAbsolute: the law returns true for all pages and texts. -/
import Derived.Test.YtgbinadjbikhhaaDoorRI
namespace Go.Proofs.YtgbinadjbikhhaaDoor
set_option linter.unusedVariables false
set_option linter.unusedSimpArgs false
open Go.RowKit

set_option maxRecDepth 20000 in
set_option maxHeartbeats 4000000 in
theorem urlabsolute_law (a b c d e f s t : ByteArray) (w : World) (hM : MaxAt w) :
    Calls Tryd.prog 9 #[.agg #[.string a, .string b, .string c, .string d, .string e, .string f], .string s, .string t] w fun x w' => x = .returned (.bool true) ∧ Below w.heap.size w w' := by
  have cW := fun b w hc hd => few2' s t b w hc hd
  have cSh := fun w => short_any a b c d e f w
  have hB0 : Below w.heap.size w (w.alloc (.cells #[.string a, .string b, .string c, .string d, .string e, .string f] 25)) := (Below.refl _ w).alloc (Nat.le_refl _) _
  have hM0 := hM.below hB0 (Nat.le_refl _)
  have CF := Lib.hid (fit_any _ hM0)
  by_cases h4 : s.size ≤ 400 ∧ t.size ≤ 400
  · obtain ⟨hs, ht⟩ := h4
    simp only [hs, ht, decide_true, Bool.and_self] at cW
    cases hS : shortB a b c d e f with
    | true =>
      obtain ⟨ha, hb, hc, hd, he, hf⟩ := shortB_iff hS
      rw [hS] at cSh
      cases hP : parseL s.data.toList with
      | some u =>
        obtain ⟨r1, r2, r3, r4, r5, r6, hp⟩ := some_bytes hP
        exact absolute_core a b c d e f s t w hM hs ht ha hb hc hd he hf r1 r2 r3 r4 r5 r6 hp (Lib.hid cW) (Lib.hid cSh)
      | none =>
        have CP := Lib.hid (fun w hM => parse_none s w (by omega) hM hP)
        have CW := Lib.hid cW
        have CSh := Lib.hid cSh
        clear cW cSh hS hP
        go_enter Tryd.func9, Tryd.ntmps9
        go_wp2_with (first
          | (go_at_call 11; with_reducible refine CF.out.mono ?_; rintro x w1 ⟨rfl, hb1⟩; have hc1 := brule hb1; have hB1 := hB0.trans (hb1.mono hB0.size); have hz1 : w.heap.size < w1.heap.size := (by have := hb1.size; simp at this; omega))
          | (go_at_call 12; with_reducible refine (CW.out _ _ (by simp) (by simp)).mono ?_; rintro x w2 ⟨rfl, rfl⟩; have hB2 := hB1.alloc hB1.size (.cells #[.string s, .string t] 9))
          | (go_at_call 18; with_reducible refine (CSh.out _).mono ?_; rintro x w2 ⟨rfl, hb2⟩; have hB3 := hB2.trans (hb2.mono hB2.size))
          | (go_at_call 13; with_reducible refine (CP.out _ (hM.below hB3 (Nat.le_refl _))).mono ?_; rintro x w3 ⟨rfl, hb3⟩; have hB4 := hB3.trans (hb3.mono hB3.size)))
        go_ret
        exact ⟨rfl, hB4.alloc hB4.size _⟩
    | false =>
      rw [hS] at cSh
      have CW := Lib.hid cW
      have CSh := Lib.hid cSh
      clear cW cSh hS
      go_enter Tryd.func9, Tryd.ntmps9
      go_wp2_with (first
        | (go_at_call 11; with_reducible refine CF.out.mono ?_; rintro x w1 ⟨rfl, hb1⟩; have hc1 := brule hb1; have hB1 := hB0.trans (hb1.mono hB0.size); have hz1 : w.heap.size < w1.heap.size := (by have := hb1.size; simp at this; omega))
        | (go_at_call 12; with_reducible refine (CW.out _ _ (by simp) (by simp)).mono ?_; rintro x w2 ⟨rfl, rfl⟩; have hB2 := hB1.alloc hB1.size (.cells #[.string s, .string t] 9))
        | (go_at_call 18; with_reducible refine (CSh.out _).mono ?_; rintro x w2 ⟨rfl, hb2⟩))
      go_ret
      exact ⟨rfl, hB2.trans (hb2.mono hB2.size)⟩
  · have h6 : (decide (s.size ≤ 400) && decide (t.size ≤ 400)) = false := by simp; omega
    simp only [h6] at cW
    have CW := Lib.hid cW
    clear cW cSh h6
    go_enter Tryd.func9, Tryd.ntmps9
    go_wp2_with (first
      | (go_at_call 11; with_reducible refine CF.out.mono ?_; rintro x w1 ⟨rfl, hb1⟩; have hB1 := hB0.trans (hb1.mono hB0.size))
      | (go_at_call 12; with_reducible refine (CW.out _ _ (by simp) (by simp)).mono ?_; rintro x w2 ⟨rfl, rfl⟩))
    go_ret
    exact ⟨rfl, hB1.alloc hB1.size _⟩
end Go.Proofs.YtgbinadjbikhhaaDoor
