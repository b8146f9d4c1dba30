/- The reference's Clean computes cleanL. -/
import Derived.Test.YtjdhaacmlpegoaaGreatDoorUO
namespace Go.Proofs.YtjdhaacmlpegoaaGreatDoor
set_option linter.unusedVariables false
set_option linter.unusedSimpArgs false
open Go.RowKit

set_option maxRecDepth 20000 in
set_option maxHeartbeats 2000000 in
theorem rcleanZ (s : ByteArray) (w : World) (hs : s.size ≤ 1000000) (hv : segs 47 s.data.toList = [[]]) :
    Calls Tryz.prog 145 #[.string s] w fun e w' => ∃ t : ByteArray, e = .returned (.string t) ∧ t.data.toList = [47] ∧ Below w.heap.size w w' := by
  have S : Hid (Calls Tryz.prog 205 #[.string s, .int .u8 47] w fun e w1 => ∃ (g cap : Nat) (p0 : ByteArray), e = .returned (.slice (some ⟨g, 0, none⟩) 1 cap) ∧ p0.toList.isEmpty = true ∧ 1 ≤ cap ∧ w1.cell? ⟨g, 0, none⟩ = some (.string p0) ∧ Below w.heap.size w w1) := by
    refine Lib.hid ((segs_row s w hs).mono ?_)
    rintro e w1 ⟨g, cap, p0, ps, rfl, hlen, hq, hg, hg1, hcap, hcm, hc, hb1, hseg⟩
    rw [hv] at hseg
    have c0 := hc 0 (by simp)
    simp only [List.getElem_cons_zero] at c0
    have hl : lists ps = [] := (List.cons.inj hseg).2
    obtain rfl : ps = [] := by simpa [lists] using hl
    exact ⟨g, cap, p0, rfl, (empty_iff p0).2 (List.cons.inj hseg).1, by omega, c0, hb1⟩
  clear hv
  go_enter Tryz.func145, Tryz.ntmps145
  go_wp2_with (go_at_call 205; with_reducible refine S.out.mono ?_; rintro e w1' ⟨g, cap, p0, rfl, hE, hcap, c0, hb1⟩; rcases Decidable.em (cap = 1) with rfl | hc1)
  all_goals
    obtain ⟨w1, rfl⟩ : ∃ w1 : World, w1 = w1' := ⟨_, rfl⟩
    go_loopw [4, 5, 6] (fun v lv iv wr => v = .slice none 0 0 ∧ lv = .string ⟨#[]⟩ ∧ iv = .int .i64 0 ∧ Below w.heap.size w wr) (fun _ _ _ _ => 0)
    case atStart => exact ⟨rfl, rfl, rfl, hb1⟩
    case round =>
      obtain ⟨rfl, rfl, rfl, hbw⟩ := hrel
      go_wp2_with fail
      obtain ⟨wo, rfl⟩ : ∃ wo : World, wo = wr := ⟨_, rfl⟩
      go_loopw [7, 8] (fun ov iv wr => ov = .string ⟨#[]⟩ ∧ iv = .int .i64 0 ∧ Below w.heap.size w wr) (fun _ _ _ => 0)
      case atStart => exact ⟨rfl, rfl, hbw⟩
      case round =>
        obtain ⟨rfl, rfl, hbw⟩ := hrel
        go_wp2_with fail
        go_ret
        exact ⟨_, rfl, rfl, hbw⟩
theorem rclean_any (s : ByteArray) (w : World) (hs : s.size ≤ 1000000) :
    Calls Tryz.prog 145 #[.string s] w fun e w' => ∃ t : ByteArray, e = .returned (.string t) ∧ t.data.toList = cleanL s.data.toList ∧ Below w.heap.size w w' := by
  by_cases h : (segs 47 s.data.toList).head? = some []
  · match hr : segs 47 s.data.toList with
    | [] => exact absurd hr (segs_ne 47 _)
    | a :: r =>
      obtain rfl : a = [] := by rw [hr] at h; simpa using h
      by_cases hn : r = []
      · subst hn
        have : cleanL s.data.toList = [47] := by unfold cleanL; rw [hr]; rfl
        rw [this]
        exact rcleanZ s w hs hr
      · exact rcleanA s w _ (segA s w hs ⟨r, hr, hn⟩)
  · exact rcleanB s w _ (segB s w hs h)
end Go.Proofs.YtjdhaacmlpegoaaGreatDoor
