/- The walk of MetricsBreaks. -/
import Derived.Test.YtcpklmolofbopaaDoorL
import Derived.Test.YtcpklmolofbopaaDoorJ
namespace Go.Proofs.YtcpklmolofbopaaDoor
open Go.RowKit

set_option maxHeartbeats 400000 in
theorem breaks_law (s : ByteArray) (w : World) : Calls Tryd.prog 4 #[.string s] w fun e w' => e = .returned (.bool true) ∧ Below w.heap.size w w' := by
  by_cases hs : s.size ≤ 400
  · have hi : (s.size : Int) ≤ 400 := by omega
    go_enter Tryd.func4, Tryd.ntmps4
    go_wp2_with (first
      | (go_at_call 12; refine (fit_true _).mono ?_; rintro e w1 ⟨rfl, hb1⟩)
      | (go_at_call 18; refine (breaks_any s _ (by omega)).mono ?_; rintro e w2 ⟨v2, rfl, ho2, hb2⟩)
      | (go_at_call 19; refine (rbreaks_any s _ (by omega)).mono ?_; rintro e w3 ⟨v3, rfl, ho3, hb3⟩)
      | (go_at_call 17; refine (equal_any _ _ _ _ (breaks s.data.toList) (breaks s.data.toList) _ (Reads.of_own (own_below ho2 hb3 (Nat.le_refl _))) (Reads.of_own ho3)).mono ?_; rintro e w4 ⟨rfl, hb4⟩))
    go_ret
    exact ⟨ret_bool (by simp), ((hb1.trans (hb2.mono hb1.size)).trans (hb3.mono (by have := hb1.size; have := hb2.size; omega))).trans (hb4.mono (by have := hb1.size; have := hb2.size; have := hb3.size; omega))⟩
  · have hi : 400 < (s.size : Int) := by omega
    go_enter Tryd.func4, Tryd.ntmps4
    go_wp2_with (go_at_call 12; refine (fit_true _).mono ?_; rintro e w1 ⟨rfl, hb1⟩)
    go_ret
    exact ⟨rfl, hb1⟩
end Go.Proofs.YtcpklmolofbopaaDoor
