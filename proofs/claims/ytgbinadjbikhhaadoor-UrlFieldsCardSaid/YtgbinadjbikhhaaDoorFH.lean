/- UrlFields: the law returns true for all texts and fields. -/
import Derived.Test.YtgbinadjbikhhaaDoorFG
namespace Go.Proofs.YtgbinadjbikhhaaDoor
set_option linter.unusedVariables false
set_option linter.unusedSimpArgs false
open Go.RowKit

set_option maxRecDepth 20000 in
theorem urlfields_law (s : ByteArray) (v : Value) (l : List BFld) (w : World) (hM : MaxAt w) (hv : SlA w v l) :
    Calls Tryd.prog 10 #[.string s, v] w fun e w' => e = .returned (.bool true) ∧ Below w.heap.size w w' := by
  have CF := Lib.hid (fit_any w hM)
  have cW := fun b w hc => few1 s b w hc
  by_cases hs : s.size ≤ 400
  · by_cases hn : l.length ≤ 20
    · exact fields_core s v l w hM hs hv hn
    · simp only [hs, decide_true] at cW
      have CW := Lib.hid cW
      obtain ⟨o, c, rfl⟩ := len_slice hv
      have hni2 : (20 : Int) < (l.length : Int) := by omega
      clear cW hv
      go_enter Tryd.func10, Tryd.ntmps10
      go_wp2_with (first
        | (go_at_call 11; with_reducible refine CF.out.mono ?_; rintro x w1 ⟨rfl, hb1⟩)
        | (go_at_call 12; with_reducible refine (CW.out _ _ (by simp)).mono ?_; rintro x w2 ⟨rfl, rfl⟩))
      go_ret
      exact ⟨rfl, hb1.alloc hb1.size _⟩
  · simp only [hs, decide_false] at cW
    have CW := Lib.hid cW
    clear cW
    go_enter Tryd.func10, Tryd.ntmps10
    go_wp2_with (first
      | (go_at_call 11; with_reducible refine CF.out.mono ?_; rintro x w1 ⟨rfl, hb1⟩)
      | (go_at_call 12; with_reducible refine (CW.out _ _ (by simp)).mono ?_; rintro x w2 ⟨rfl, rfl⟩))
    go_ret
    exact ⟨rfl, hb1.alloc hb1.size _⟩
end Go.Proofs.YtgbinadjbikhhaaDoor
