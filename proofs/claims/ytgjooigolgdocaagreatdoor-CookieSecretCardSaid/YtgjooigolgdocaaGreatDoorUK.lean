/- The walk of the reference's Segments. -/
import Derived.Test.YtgjooigolgdocaaGreatDoorUJ
namespace Go.Proofs.YtgjooigolgdocaaGreatDoor
set_option linter.unusedVariables false
set_option linter.unusedSimpArgs false
open Go.RowKit

theorem slS : SlTy Tryz.prog 56 9 1 16 := .mk' (z := .string ⟨#[]⟩) Tryz.underlying56 (by kernel_rfl) rfl (by decide)
def strsV (l : List ByteArray) : List Value := l.map Value.string
def lists (l : List ByteArray) : List (List UInt8) := l.map (·.data.toList)
theorem mid_drop (l : List UInt8) (a b : Nat) (h : a ≤ b) : l.drop a = (l.drop a).take (b - a) ++ l.drop b := by
  have := (List.take_append_drop (b - a) (l.drop a)).symm
  rwa [List.drop_drop, show a + (b - a) = b by omega] at this
set_option maxHeartbeats 1000000 in
set_option maxRecDepth 20000 in
theorem segments_any (s : ByteArray) (c : UInt8) (w : World) (hs : s.size ≤ 1000000) :
    Calls Tryz.prog 45 #[.string s, .int .u8 c.toNat] w fun e w' => ∃ v ps, e = .returned v ∧ w'.ownsRow w.heap.size 9 1 v ps.length (strsV ps) ∧ lists ps = segs c s.data.toList ∧ Below w.heap.size w w' := by
  obtain ⟨R, hR⟩ : ∃ R, segs c s.data.toList = R := ⟨_, rfl⟩
  rw [hR]
  have HR := Lib.hid hR
  clear hR
  go_enter Tryz.func45, Tryz.ntmps45
  go_wp2
  go_loopw [5, 6, 7] (fun v fv iv wr => ∃ (k fr : Nat) (ps : List ByteArray), fr ≤ k ∧ k ≤ s.size ∧ ps.length ≤ fr ∧ iv = .int .i64 k ∧ fv = .int .i64 fr ∧ wr.ownsRow w.heap.size 9 1 v ps.length (strsV ps) ∧ c ∉ (s.data.toList.drop fr).take (k - fr) ∧ lists ps ++ segs c (s.data.toList.drop fr) = R ∧ Below w.heap.size w wr) (fun _ _ iv _ => s.size - (intOf iv).toNat)
  case atStart => exact ⟨0, 0, [], Nat.le_refl _, Nat.zero_le _, Nat.le_refl _, rfl, rfl, World.ownsRow_nil _ _ _ _, by simp, HR.out, Below.refl _ _⟩
  case round =>
    obtain ⟨k, fr, ps, hfk, hk, hpl, rfl, rfl, hown, hnot, hps, hbw⟩ := hrel
    have HN := Lib.hid hnot
    have HP := Lib.hid hps
    clear hnot hps
    have hwz := hbw.size
    by_cases hlt : k < s.size
    · have hd := drop_at s k hlt
      have hmid := mid_drop s.data.toList fr k hfk
      by_cases hc : s[k] = c
      · have hci : ((s[k].toNat : Int) == c.toNat) = true := by rw [hc]; simp
        have hseg : segs c (s.data.toList.drop fr) = (s.extract fr k).data.toList :: segs c (s.data.toList.drop (k + 1)) := by
          rw [ext_list]
          have := congrArg (segs c) hmid
          rw [hd, hc, segs_pre c _ _ HN.out] at this
          exact this
        have HS := Lib.hid hseg
        clear hseg hd hmid hc
        go_wp2_with (refine app2 slS _ rfl (.tmp 19) (.tmp 24) rfl w.heap.size _ _ _ rfl hown [_] 1 _ rfl rfl rfl (by intro u hu; simp at hu; subst hu; rfl) (by decide) (by omega) (by omega) hwz ?_; intro v2 w2 hA gA fA; have hB2 := below_own hbw hown gA hwz (Nat.le_refl _))
        go_roundw
        case rel => exact ⟨k + 1, k + 1, ps ++ [s.extract fr k], Nat.le_refl _, by omega, by simp; omega, by go_num, by go_num, by simpa [strsV] using hA, by simp, by rw [← HP.out, HS.out]; simp [lists], hB2⟩
        case measure => simp [intOf]; omega
      · have hci : ((s[k].toNat : Int) == c.toNat) = false := by
          rw [beq_eq_false_iff_ne]; exact fun e => hc (UInt8.toNat_inj.1 (by omega))
        have hn2 : c ∉ (s.data.toList.drop fr).take (k + 1 - fr) := by
          have e : (s.data.toList.drop fr).take (k + 1 - fr) = (s.data.toList.drop fr).take (k - fr) ++ [s[k]] := by
            rw [show k + 1 - fr = (k - fr) + 1 by omega, List.take_succ_eq_append_getElem (by simp; omega)]
            congr 2
            rw [List.getElem_drop]
            simp only [show fr + (k - fr) = k by omega]
            rfl
          rw [e]
          simp only [List.mem_append, List.mem_singleton, not_or]
          exact ⟨HN.out, fun q => hc q.symm⟩
        have HN2 := Lib.hid hn2
        clear hn2 hd hmid hc
        go_wp2_with fail
        go_roundw
        case rel => exact ⟨k + 1, fr, ps, by omega, by omega, hpl, by go_num, rfl, hown, HN2.out, HP.out, hbw⟩
        case measure => simp [intOf]; omega
    · have hseg : segs c (s.data.toList.drop fr) = [(s.extract fr s.size).data.toList] := by
        rw [ext_to]
        have hn := HN.out
        rw [List.take_of_length_le (by simp; omega)] at hn
        exact segs_one c _ hn
      have HS := Lib.hid hseg
      clear hseg
      go_wp2_with (refine app2 slS _ rfl (.tmp 28) (.tmp 32) rfl w.heap.size _ _ _ rfl hown [_] 1 _ rfl rfl rfl (by intro u hu; simp at hu; subst hu; rfl) (by decide) (by omega) (by omega) hwz ?_; intro v2 w2 hA gA fA; have hB2 := below_own hbw hown gA hwz (Nat.le_refl _))
      go_ret
      exact ⟨_, ps ++ [s.extract fr s.size], rfl, by simpa [strsV] using hA, by rw [← HP.out, HS.out]; simp [lists], hB2⟩
end Go.Proofs.YtgjooigolgdocaaGreatDoor
