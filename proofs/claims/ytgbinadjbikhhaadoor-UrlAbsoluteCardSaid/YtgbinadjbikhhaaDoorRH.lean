/- UrlResolve: the law returns true for all pages and texts. -/
import Derived.Test.YtgbinadjbikhhaaDoorRG
namespace Go.Proofs.YtgbinadjbikhhaaDoor
set_option linter.unusedVariables false
set_option linter.unusedSimpArgs false
open Go.RowKit

theorem known_res (o : Option U6) : ∃ (r1 r2 r3 r4 r5 r6 : ByteArray) (B : Bool), resV o = .tuple #[.agg #[.string r1, .string r2, .string r3, .string r4, .string r5, .string r6], .int .i64 (if B then 0 else 4)] ∧ resB o = .tuple #[.agg #[.string r1, .string r2, .string r3, .string r4, .string r5, .string r6], .bool B] := by
  obtain ⟨a, b, c, d, e, f, h⟩ : ∃ a b c d e f : ByteArray, o.getD noneU = (a.data.toList, b.data.toList, c.data.toList, d.data.toList, e.data.toList, f.data.toList) := by
    obtain ⟨a, b, c, d, e, f⟩ := o.getD noneU
    exact ⟨⟨a.toArray⟩, ⟨b.toArray⟩, ⟨c.toArray⟩, ⟨d.toArray⟩, ⟨e.toArray⟩, ⟨f.toArray⟩, rfl⟩
  exact ⟨a, b, c, d, e, f, o.isSome, by rw [resV, h]; rfl, by rw [resB, h]; rfl⟩
set_option maxRecDepth 20000 in
set_option maxHeartbeats 4000000 in
theorem urlresolve_law (a b c d e f s : ByteArray) (w : World) (hM : MaxAt w) :
    Calls Tryd.prog 8 #[.agg #[.string a, .string b, .string c, .string d, .string e, .string f], .string s] w fun x w' => x = .returned (.bool true) ∧ Below w.heap.size w w' := by
  have cW := fun b w hc => few1 s b w hc
  have cSh := fun w => short_any a b c d e f w
  have hB0 : Below w.heap.size w (w.alloc (.cells #[.string a, .string b, .string c, .string d, .string e, .string f] 25)) := (Below.refl _ w).alloc (Nat.le_refl _) _
  have hM0 := hM.below hB0 (Nat.le_refl _)
  have CF := Lib.hid (fit_any _ hM0)
  by_cases h4 : s.size ≤ 400
  · simp only [h4, decide_true] at cW
    cases hS : shortB a b c d e f with
    | true =>
      obtain ⟨ha, hb, hc, hd, he, hf⟩ := shortB_iff hS
      rw [hS] at cSh
      have cP := fun w hM => resolve_any a b c d e f s w hM (by omega) (by omega) (by omega) (by omega) (by omega) (by omega) (by omega)
      have cR := fun w hM => rresolve_any a b c d e f s w hM (by omega) (by omega) (by omega) (by omega) (by omega) (by omega) (by omega)
      obtain ⟨r1, r2, r3, r4, r5, r6, B, e1, e2⟩ := known_res (resolveL (a.data.toList, b.data.toList, c.data.toList, d.data.toList, e.data.toList, f.data.toList) (validB (a.data.toList, b.data.toList, c.data.toList, d.data.toList, e.data.toList, f.data.toList)) (trimL s.data.toList))
      rw [e1] at cP
      rw [e2] at cR
      have CW := Lib.hid cW
      have CSh := Lib.hid cSh
      have CP := Lib.hid cP
      have CR := Lib.hid cR
      clear cW cSh cP cR e1 e2 hS
      cases B
      all_goals
        go_enter Tryd.func8, Tryd.ntmps8
        go_wp2_with (first
          | (go_at_call 11; with_reducible refine CF.out.mono ?_; rintro x w1 ⟨rfl, hb1⟩; have hc1 := brule hb1; have hB1 := hB0.trans (hb1.mono hB0.size); have hz1 : w.heap.size < w1.heap.size := (by have := hb1.size; simp at this; omega))
          | (go_at_call 12; with_reducible refine (CW.out _ _ (by simp)).mono ?_; rintro x w2 ⟨rfl, rfl⟩; have hB2 := hB1.alloc hB1.size (.cells #[.string s] 9))
          | (go_at_call 18; with_reducible refine (CSh.out _).mono ?_; rintro x w2 ⟨rfl, hb2⟩; have hc2 := brule hb2; have hB3 := hB2.trans (hb2.mono hB2.size); have hz2 : w.heap.size < w2.heap.size := (by have := hb2.size; simp at this; omega))
          | (go_at_call 32; with_reducible refine (CP.out _ (hM.below hB3 (Nat.le_refl _))).mono ?_; rintro x w3 ⟨rfl, hb3⟩; have hc3 := brule hb3; have hB4 := hB3.trans (hb3.mono hB3.size); have hz3 : w.heap.size < w3.heap.size := (by have := hb3.size; omega); have hB5 := hB4.alloc hB4.size (.cells #[.string r1, .string r2, .string r3, .string r4, .string r5, .string r6] 25))
          | (go_at_call 33; with_reducible refine (CR.out _ (hM.below hB5 (Nat.le_refl _))).mono ?_; rintro x w4 ⟨rfl, hb4⟩; have hc4 := brule hb4; have hB6 := hB5.trans (hb4.mono hB5.size); have hz4 : w3.heap.size < w4.heap.size := (by have := hb4.size; simp at this; omega))
          | (go_at_call 15; with_reducible refine (errno_any _ _).mono ?_; rintro x w' ⟨rfl, rfl⟩))
        go_ret
        exact ⟨rfl, hB6.alloc hB6.size _⟩
    | false =>
      rw [hS] at cSh
      have CW := Lib.hid cW
      have CSh := Lib.hid cSh
      clear cW cSh hS
      go_enter Tryd.func8, Tryd.ntmps8
      go_wp2_with (first
        | (go_at_call 11; with_reducible refine CF.out.mono ?_; rintro x w1 ⟨rfl, hb1⟩; have hc1 := brule hb1; have hB1 := hB0.trans (hb1.mono hB0.size); have hz1 : w.heap.size < w1.heap.size := (by have := hb1.size; simp at this; omega))
        | (go_at_call 12; with_reducible refine (CW.out _ _ (by simp)).mono ?_; rintro x w2 ⟨rfl, rfl⟩; have hB2 := hB1.alloc hB1.size (.cells #[.string s] 9))
        | (go_at_call 18; with_reducible refine (CSh.out _).mono ?_; rintro x w2 ⟨rfl, hb2⟩))
      go_ret
      exact ⟨rfl, hB2.trans (hb2.mono hB2.size)⟩
  · simp only [h4, decide_false] at cW
    have CW := Lib.hid cW
    clear cW cSh
    go_enter Tryd.func8, Tryd.ntmps8
    go_wp2_with (first
      | (go_at_call 11; with_reducible refine CF.out.mono ?_; rintro x w1 ⟨rfl, hb1⟩; have hB1 := hB0.trans (hb1.mono hB0.size))
      | (go_at_call 12; with_reducible refine (CW.out _ _ (by simp)).mono ?_; rintro x w2 ⟨rfl, rfl⟩))
    go_ret
    exact ⟨rfl, hB1.alloc hB1.size _⟩
end Go.Proofs.YtgbinadjbikhhaaDoor
