/- fit returns true; the walks of MetricsChars and MetricsHeight. -/
import Derived.Test.YtcpklmolofbopaaDoorG
namespace Go.Proofs.YtcpklmolofbopaaDoor
open Go.RowKit

theorem fit_lines : goL [97, 98, 32, 99, 100] 16 20 0 (0, 0, 0, 0) (ends [97, 98, 32, 99, 100]) = [(0, 2, 3, 16), (3, 5, 5, 16)] := by decide +kernel
theorem fit_width : width [87, 105, 108, 108] 16 = 26 := by decide +kernel

set_option maxHeartbeats 400000 in
theorem fit_true (w : World) : Calls Tryd.prog 12 #[] w fun e w' => e = .returned (.bool true) ∧ Below w.heap.size w w' := by
  have cL : ∀ wx, Calls Tryd.prog 20 #[.string ⟨#[97, 98, 32, 99, 100]⟩, .int .i64 16, .int .i64 20] wx fun e w' => ∃ g cap, e = .returned (.slice (some ⟨g, 0, none⟩) 2 cap) ∧ 2 ≤ cap ∧ g < w'.heap.size ∧
      w'.cell? ⟨g, 2, none⟩ = some (.int .i64 3) ∧ w'.cell? ⟨g, 7, none⟩ = some (.int .i64 16) ∧ Below wx.heap.size wx w' := fun wx => by
    refine (lines_some ⟨#[97, 98, 32, 99, 100]⟩ 16 20 wx (by decide) (by decide +kernel)).mono ?_
    rintro e w' ⟨v, rfl, ho, hb⟩
    have e1 : (⟨#[97, 98, 32, 99, 100]⟩ : ByteArray).data.toList = [97, 98, 32, 99, 100] := rfl
    rw [e1, fit_lines] at ho
    obtain ⟨a, cap, rfl, hc, hm, hr⟩ := own_reads ho
    rcases hr with ⟨_, h0⟩ | ⟨g, rfl, hg1, hg2, hcell⟩
    · simp at h0
    · exact ⟨g, cap, rfl, hc, hg2, hcell 2 _ rfl, hcell 7 _ rfl, hb⟩
  have cW : ∀ wx, Calls Tryd.prog 22 #[.string ⟨#[87, 105, 108, 108]⟩, .int .i64 16] wx fun e w' => e = .returned (.int .i64 26) ∧ Below wx.heap.size wx w' := fun wx => by
    have := width_any ⟨#[87, 105, 108, 108]⟩ 16 wx (by decide)
    rwa [show (⟨#[87, 105, 108, 108]⟩ : ByteArray).data.toList = [87, 105, 108, 108] from rfl, fit_width] at this
  go_enter Tryd.func12, Tryd.ntmps12
  go_wp2_with (first
    | (go_at_call 20; refine (cL _).mono ?_; rintro e w1 ⟨g, cap, rfl, hc, hg, h2, h7, hb1⟩)
    | (go_at_call 22; refine (cW _).mono ?_; rintro e w2 ⟨rfl, hb2⟩))
  go_ret
  exact ⟨rfl, hb1.trans (hb2.mono hb1.size)⟩

theorem chars_law (r n : Int) (w : World) : Calls Tryd.prog 3 #[.int .i32 r, .int .i64 n] w fun e w' => e = .returned (.bool true) ∧ Below w.heap.size w w' := by
  go_enter Tryd.func3, Tryd.ntmps3
  go_wp2_with (first
    | (go_at_call 12; refine (fit_true _).mono ?_; rintro e w1 ⟨rfl, hb1⟩)
    | (go_at_call 13; refine (units_any _ _).mono ?_; rintro e w' ⟨rfl, rfl⟩)
    | (go_at_call 14; refine (runits_any _ _).mono ?_; rintro e w' ⟨rfl, rfl⟩)
    | (go_at_call 15; refine (char_any _ _ _).mono ?_; rintro e w' ⟨rfl, rfl⟩)
    | (go_at_call 16; refine (rchar_any _ _ _).mono ?_; rintro e w' ⟨rfl, rfl⟩))
  go_ret
  exact ⟨rfl, hb1⟩

theorem height_law (n : Int) (w : World) : Calls Tryd.prog 8 #[.int .i64 n] w fun e w' => e = .returned (.bool true) ∧ Below w.heap.size w w' := by
  have h1 := lim_lo n
  have h2 := lim_hi n
  go_enter Tryd.func8, Tryd.ntmps8
  go_wp2_with (first
    | (go_at_call 12; refine (fit_true _).mono ?_; rintro e w1 ⟨rfl, hb1⟩)
    | (go_at_call 25; refine (size_any _ _).mono ?_; rintro e w' ⟨rfl, rfl⟩)
    | (go_at_call 26; refine (height_any _ _).mono ?_; rintro e w' ⟨rfl, rfl⟩)
    | (go_at_call 27; refine (ascent_any _ _).mono ?_; rintro e w' ⟨rfl, rfl⟩))
  all_goals go_ret
  all_goals exact ⟨ret_bool (decide_eq_true (by omega)), hb1⟩
end Go.Proofs.YtcpklmolofbopaaDoor
