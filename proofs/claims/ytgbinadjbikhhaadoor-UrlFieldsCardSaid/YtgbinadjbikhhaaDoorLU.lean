/- Escape (both packages). -/
import Derived.Test.YtgbinadjbikhhaaDoorUH
namespace Go.Proofs.YtgbinadjbikhhaaDoor
set_option linter.unusedVariables false
set_option linter.unusedSimpArgs false
open Go.RowKit

set_option maxRecDepth 20000 in
theorem escape_any (s keep : ByteArray) (w : World) (hs : s.size ≤ 1000000) (hk : keep.size ≤ 1000000) :
    Calls Tryd.prog 22 #[.string s, .string keep] w fun e w' => ∃ t : ByteArray, e = .returned (.string t) ∧ t.data.toList = conv (plainL ++ keep.data.toList) false s.data.toList ∧ Below w.heap.size w w' := by
  go_enter Tryd.func22, Tryd.ntmps22
  go_wp2_with (go_at_call 43; with_reducible refine (convert_any _ _ false _ hs).mono ?_; rintro e w1 ⟨t, rfl, ht, hb1⟩)
  go_ret
  exact ⟨t, rfl, by rw [ht, app_list]; rfl, hb1⟩
set_option maxRecDepth 20000 in
set_option maxHeartbeats 1000000 in
theorem rescape_any (s more : ByteArray) (w : World) (hs : s.size ≤ 1000000) (hm : more.size ≤ 1000000) :
    Calls Tryd.prog 23 #[.string s, .string more] w fun e w' => ∃ t : ByteArray, e = .returned (.string t) ∧ t.data.toList = conv (plainL ++ more.data.toList) false s.data.toList ∧ Below w.heap.size w w' := by
  obtain ⟨R, hR⟩ : ∃ R, conv (plainL ++ more.data.toList) false s.data.toList = R := ⟨_, rfl⟩
  have hRl : R.length ≤ 3 * s.size := by rw [← hR, ← size_len]; exact conv_len _ _ _
  rw [hR]
  have HR := Lib.hid hR
  clear hR
  go_enter Tryd.func23, Tryd.ntmps23
  go_wp2
  go_loopw [5, 6] (fun o i wr => ∃ (k : Nat) (t : ByteArray), k ≤ s.size ∧ i = .int .i64 k ∧ o = .string t ∧ Below w.heap.size w wr ∧ t.data.toList ++ conv (plainL ++ more.data.toList) false (s.data.toList.drop k) = R) (fun _ i _ => s.size - (intOf i).toNat)
  case atStart => exact ⟨0, ⟨#[]⟩, Nat.zero_le _, rfl, rfl, Below.refl _ _, HR.out⟩
  case round =>
    obtain ⟨k, t, hk, rfl, rfl, hbw, hacc⟩ := hrel
    have htl : t.size ≤ 3000000 := by have := congrArg List.length hacc; rw [List.length_append, size_len] at this; omega
    by_cases hlt : k < s.size
    · have hki : (k : Int) < (s.size : Int) := by omega
      have hcd : conv (plainL ++ more.data.toList) false (s.data.toList.drop k) = (if okC (plainL ++ more.data.toList) s[k] || (false && codedL (s.data.toList.drop k)) then [s[k]] else pct s[k]) ++ conv (plainL ++ more.data.toList) false (s.data.toList.drop (k + 1)) := by
        rw [drop_at s k hlt, conv]
      rw [hcd] at hacc
      have ho : okC (plainL ++ more.data.toList) s[k] = (letterI s[k].toNat || digitI s[k].toNat || (plainL.contains s[k] || more.data.toList.contains s[k])) := by rw [← contains_app]; rfl
      rw [ho, Bool.false_and, Bool.or_false] at hacc
      have cI := fun w => in_any s[k] ⟨#[45, 46, 95, 126]⟩ w (by decide)
      have cJ := fun w => in_any s[k] more w hm
      have cL := fun w => rletter_any (s[k].toNat : Int) w
      have cG := fun w => rdigit_any (s[k].toNat : Int) w
      have cC := fun w => code_any s[k] w
      have hx : (s.extract k (k + 1)).data.toList = [s[k]] := by
        rw [ext_list, drop_at s k hlt, show k + 1 - k = 1 by omega]; rfl
      obtain ⟨IN, hIN⟩ : ∃ D, plainL.contains s[k] = D := ⟨_, rfl⟩
      obtain ⟨MO, hMO⟩ : ∃ D, more.data.toList.contains s[k] = D := ⟨_, rfl⟩
      obtain ⟨LE, hLE⟩ : ∃ D, letterI (s[k].toNat : Int) = D := ⟨_, rfl⟩
      obtain ⟨DI, hDI⟩ : ∃ D, digitI (s[k].toNat : Int) = D := ⟨_, rfl⟩
      rw [hLE] at cL hacc
      rw [hDI] at cG hacc
      rw [hIN] at hacc
      rw [hMO] at cJ hacc
      have cI2 : ∀ w, Calls Tryd.prog 53 #[.int .u8 s[k].toNat, .string ⟨#[45, 46, 95, 126]⟩] w fun e w' => e = .returned (.bool IN) ∧ w = w' := fun w => by rw [← hIN]; exact cI w
      have I1 := Lib.hid cI2
      have I2 := Lib.hid cJ
      have L1 := Lib.hid cL
      have G1 := Lib.hid cG
      have C1 := Lib.hid cC
      have HA := Lib.hid hacc
      have HX := Lib.hid hx
      clear cI cI2 cJ cL cG cC hIN hMO hLE hDI ho hcd hacc hx
      go_wp2_with (first
        | (go_at_call 26; with_reducible refine (L1.out _).mono ?_; rintro e w' ⟨rfl, rfl⟩)
        | (go_at_call 27; with_reducible refine (G1.out _).mono ?_; rintro e w' ⟨rfl, rfl⟩)
        | (go_at_call 53; with_reducible refine (I1.out _).mono ?_; rintro e w' ⟨rfl, rfl⟩)
        | (go_at_call 53; with_reducible refine (I2.out _).mono ?_; rintro e w' ⟨rfl, rfl⟩)
        | (go_at_call 58; with_reducible refine (C1.out _).mono ?_; rintro e w1 ⟨t1, rfl, ht1, hb1⟩; have hz1 : t1.size = 3 := (by rw [← size_len, ht1]; simp [pct])))
      all_goals first
        | (go_roundw
           case rel =>
             refine ⟨k + 1, t ++ t1, by omega, by go_num, rfl, hbw.trans (hb1.mono hbw.size), ?_⟩
             rw [app_list, ht1, ← HA.out]; simp [*]
           case measure => simp [intOf]; omega)
        | (go_roundw
           case rel =>
             refine ⟨k + 1, t ++ s.extract k (k + 1), by omega, by go_num, rfl, hbw, ?_⟩
             rw [app_list, HX.out, ← HA.out]; simp [*]
           case measure => simp [intOf]; omega)
    · rw [drop_end s k (by omega), conv, List.append_nil] at hacc
      have HA := Lib.hid hacc
      clear hacc
      go_wp2_with fail
      go_ret
      exact ⟨t, rfl, HA.out, hbw⟩
end Go.Proofs.YtgbinadjbikhhaaDoor
