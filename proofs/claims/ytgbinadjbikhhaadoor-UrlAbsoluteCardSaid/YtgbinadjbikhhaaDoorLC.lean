/- UrlParse: the law returns true for every text. -/
import Derived.Test.YtgbinadjbikhhaaDoorLB
import Derived.Test.YtgbinadjbikhhaaDoorUZ
namespace Go.Proofs.YtgbinadjbikhhaaDoor
set_option linter.unusedVariables false
set_option linter.unusedSimpArgs false
open Go.RowKit

theorem few1 (s : ByteArray) (b : Nat) (w : World) (hc : w.cell? ⟨b, 0, none⟩ = some (.string s)) :
    Calls Tryd.prog 12 #[.slice (some ⟨b, 0, none⟩) 1 1] w fun e w' => e = .returned (.bool (decide (s.size ≤ 400))) ∧ w = w' := by
  have := few_any [s] b 1 w (fun j h => by
    have : j = 0 := by simp at h; exact h
    subst this; exact hc) (by simp)
  refine Calls.mono this ?_
  rintro e w' ⟨rfl, rfl⟩
  exact ⟨by simp, rfl⟩
/-- both Parses give one address -/
theorem both_parse (s : ByteArray) (hs : s.size ≤ 300000) : ∃ (a b c d e f : ByteArray) (B : Bool), (∀ w, MaxAt w → Calls Tryd.prog 13 #[.string s] w fun x w' => x = .returned (.tuple #[.agg #[.string a, .string b, .string c, .string d, .string e, .string f], .int .i64 (if B then 0 else 4)]) ∧ Below w.heap.size w w')
    ∧ (∀ w, MaxAt w → Calls Tryd.prog 14 #[.string s] w fun x w' => x = .returned (.tuple #[.agg #[.string a, .string b, .string c, .string d, .string e, .string f], .bool B]) ∧ Below w.heap.size w w') :=
  ⟨⟨((parseL s.data.toList).getD noneU).1.toArray⟩, ⟨((parseL s.data.toList).getD noneU).2.1.toArray⟩, ⟨((parseL s.data.toList).getD noneU).2.2.1.toArray⟩, ⟨((parseL s.data.toList).getD noneU).2.2.2.1.toArray⟩, ⟨((parseL s.data.toList).getD noneU).2.2.2.2.1.toArray⟩, ⟨((parseL s.data.toList).getD noneU).2.2.2.2.2.toArray⟩, (parseL s.data.toList).isSome, fun w hM => parse_any s w hs hM, fun w hM => rparse_any s w hs hM⟩
set_option maxRecDepth 20000 in
theorem urlparse_law (s : ByteArray) (w : World) (hM : MaxAt w) : Calls Tryd.prog 3 #[.string s] w fun e w' => e = .returned (.bool true) ∧ Below w.heap.size w w' := by
  have cF := fit_any w hM
  have cW := fun b w hc => few1 s b w hc
  by_cases h4 : s.size ≤ 400
  · obtain ⟨a, b, c, d, e, f, B, cP, cR⟩ := both_parse s (by omega)
    simp only [h4, decide_true] at cW
    have CF := Lib.hid cF
    have CW := Lib.hid cW
    have CP := Lib.hid cP
    have CR := Lib.hid cR
    clear cF cW cP cR
    cases B
    all_goals
      go_enter Tryd.func3, Tryd.ntmps3
      go_wp2_with (first
        | (go_at_call 11; with_reducible refine CF.out.mono ?_; rintro e' w1 ⟨rfl, hb1⟩)
        | (go_at_call 12; with_reducible refine (CW.out _ _ (by simp)).mono ?_; rintro e' w2 ⟨rfl, rfl⟩; have hb2 := hb1.alloc hb1.size (.cells #[.string s] 9))
        | (go_at_call 13; with_reducible refine (CP.out _ (hM.below hb2 (Nat.le_refl _))).mono ?_; rintro e' w3 ⟨rfl, hb3⟩; have hb4 := hb2.trans (hb3.mono hb2.size); have hb5 := hb4.alloc hb4.size (.cells #[.string a, .string b, .string c, .string d, .string e, .string f] 25))
        | (go_at_call 14; with_reducible refine (CR.out _ (hM.below hb5 (Nat.le_refl _))).mono ?_; rintro e' w4 ⟨rfl, hb6⟩; obtain ⟨hc6, hf6⟩ := bcell hb6; have hz6 : w3.heap.size < w4.heap.size := (by have := hb6.size; simp at this; omega); have hb7 := hb5.trans (hb6.mono hb5.size))
        | (go_at_call 15; with_reducible refine (errno_any _ _).mono ?_; rintro e' w' ⟨rfl, rfl⟩))
      go_ret
      exact ⟨rfl, hb7.alloc hb7.size _⟩
  · simp only [h4, decide_false] at cW
    have CF := Lib.hid cF
    have CW := Lib.hid cW
    clear cF cW
    go_enter Tryd.func3, Tryd.ntmps3
    go_wp2_with (first
      | (go_at_call 11; with_reducible refine CF.out.mono ?_; rintro e' w1 ⟨rfl, hb1⟩)
      | (go_at_call 12; with_reducible refine (CW.out _ _ (by simp)).mono ?_; rintro e' w2 ⟨rfl, rfl⟩))
    go_ret
    exact ⟨rfl, hb1.alloc hb1.size _⟩
end Go.Proofs.YtgbinadjbikhhaaDoor
