/- A text whose bytes are kept or turned to codes: the reference's way, by concatenation. -/
import Derived.Test.YtjdhaacmlpegoaaGreatDoorUG
namespace Go.Proofs.YtjdhaacmlpegoaaGreatDoor
set_option linter.unusedVariables false
set_option linter.unusedSimpArgs false
open Go.RowKit

abbrev plainL : List UInt8 := [45, 46, 95, 126]
abbrev innerL : List UInt8 := [45, 46, 95, 126, 33, 36, 38, 39, 40, 41, 42, 43, 44, 59, 61, 58, 64, 47]
theorem contains_app (a b : List UInt8) (x : UInt8) : (a ++ b).contains x = (a.contains x || b.contains x) := by simp
set_option maxRecDepth 20000 in
set_option maxHeartbeats 1000000 in
theorem rconvert_any (s more : ByteArray) (w : World) (hs : s.size ≤ 1000000) (hm : more.size ≤ 1000000) :
    Calls Tryz.prog 142 #[.string s, .string more] w fun e w' => ∃ t : ByteArray, e = .returned (.string t) ∧ t.data.toList = conv (innerL ++ more.data.toList) true s.data.toList ∧ Below w.heap.size w w' := by
  obtain ⟨R, hR⟩ : ∃ R, conv (innerL ++ more.data.toList) true s.data.toList = R := ⟨_, rfl⟩
  have hRl : R.length ≤ 3 * s.size := by rw [← hR, ← size_len]; exact conv_len _ _ _
  rw [hR]
  have HR := Lib.hid hR
  clear hR
  go_enter Tryz.func142, Tryz.ntmps142
  go_wp2
  go_loopw [5, 6] (fun o i wr => ∃ (k : Nat) (t : ByteArray), k ≤ s.size ∧ i = .int .i64 k ∧ o = .string t ∧ Below w.heap.size w wr ∧ t.data.toList ++ conv (innerL ++ more.data.toList) true (s.data.toList.drop k) = R) (fun _ i _ => s.size - (intOf i).toNat)
  case atStart => exact ⟨0, ⟨#[]⟩, Nat.zero_le _, rfl, rfl, Below.refl _ _, HR.out⟩
  case round =>
    obtain ⟨k, t, hk, rfl, rfl, hbw, hacc⟩ := hrel
    have htl : t.size ≤ 3000000 := by have := congrArg List.length hacc; rw [List.length_append, size_len] at this; omega
    by_cases hlt : k < s.size
    · have hki : (k : Int) < (s.size : Int) := by omega
      have hcd : conv (innerL ++ more.data.toList) true (s.data.toList.drop k) = (if okC (innerL ++ more.data.toList) s[k] || (true && codedL (s.data.toList.drop k)) then [s[k]] else pct s[k]) ++ conv (innerL ++ more.data.toList) true (s.data.toList.drop (k + 1)) := by
        rw [drop_at s k hlt, conv]
      rw [hcd] at hacc
      have ho : okC (innerL ++ more.data.toList) s[k] = (letterI s[k].toNat || digitI s[k].toNat || (innerL.contains s[k] || more.data.toList.contains s[k])) := by rw [← contains_app]; rfl
      rw [ho] at hacc
      have cI := fun w => in_any s[k] ⟨#[45, 46, 95, 126, 33, 36, 38, 39, 40, 41, 42, 43, 44, 59, 61, 58, 64, 47]⟩ w (by decide)
      have cJ := fun w => in_any s[k] more w hm
      have cL := fun w => rletter_any (s[k].toNat : Int) w
      have cG := fun w => rdigit_any (s[k].toNat : Int) w
      have cC := fun w => code_any s[k] w
      obtain ⟨IN, hIN⟩ : ∃ D, innerL.contains s[k] = D := ⟨_, rfl⟩
      obtain ⟨MO, hMO⟩ : ∃ D, more.data.toList.contains s[k] = D := ⟨_, rfl⟩
      obtain ⟨LE, hLE⟩ : ∃ D, letterI (s[k].toNat : Int) = D := ⟨_, rfl⟩
      obtain ⟨DI, hDI⟩ : ∃ D, digitI (s[k].toNat : Int) = D := ⟨_, rfl⟩
      rw [hLE] at cL hacc
      rw [hDI] at cG hacc
      rw [hIN] at hacc
      rw [hMO] at cJ hacc
      have cI2 : ∀ w, Calls Tryz.prog 146 #[.int .u8 s[k].toNat, .string ⟨#[45, 46, 95, 126, 33, 36, 38, 39, 40, 41, 42, 43, 44, 59, 61, 58, 64, 47]⟩] w fun e w' => e = .returned (.bool IN) ∧ w = w' := fun w => by rw [← hIN]; exact cI w
      have hcv := conv_one wr
      have hns := nums_size
      have I1 := Lib.hid cI2
      have I2 := Lib.hid cJ
      have L1 := Lib.hid cL
      have G1 := Lib.hid cG
      have C1 := Lib.hid cC
      clear cI cI2 cJ cL cG cC hIN hMO hLE hDI ho hcd
      by_cases hc : s[k] = 37
      · have hci : ((s[k].toNat : Int) == 37) = true := by rw [hc]; rfl
        by_cases h2 : k + 2 < s.size
        · have h2i : (k : Int) + 2 < (s.size : Int) := by omega
          have e3 : codedL (s.data.toList.drop k) = (decide (0 ≤ hexI (s[k + 1].toNat : Int)) && decide (0 ≤ hexI (s[k + 2].toNat : Int))) := by
            rw [drop3 s k h2, codedL, hc]; rfl
          rw [e3] at hacc
          have cA := fun w => rhex_any (s[k + 1].toNat : Int) w (byte_bd _)
          have cB := fun w => rhex_any (s[k + 2].toNat : Int) w (byte_bd _)
          obtain ⟨x, hx⟩ : ∃ x, hexI (s[k + 1].toNat : Int) = x := ⟨_, rfl⟩
          obtain ⟨y, hy⟩ : ∃ y, hexI (s[k + 2].toNat : Int) = y := ⟨_, rfl⟩
          rw [hx] at cA hacc
          rw [hy] at cB hacc
          have X1 := Lib.hid cA
          have X2 := Lib.hid cB
          have HA := Lib.hid hacc
          have hx2 : x = -1 ∨ ∃ n : Nat, x = n := by
            have := hexI_bd (s[k + 1].toNat : Int)
            rw [hx] at this
            rcases Int.lt_or_le x 0 with h | h
            · exact .inl (by omega)
            · exact .inr ⟨x.toNat, by omega⟩
          have hy2 : y = -1 ∨ ∃ n : Nat, y = n := by
            have := hexI_bd (s[k + 2].toNat : Int)
            rw [hy] at this
            rcases Int.lt_or_le y 0 with h | h
            · exact .inl (by omega)
            · exact .inr ⟨y.toNat, by omega⟩
          clear cA cB hx hy e3 hacc hc
          rcases hx2 with rfl | ⟨nx, rfl⟩ <;> rcases hy2 with rfl | ⟨ny, rfl⟩
          all_goals
            go_wp2_with (first
              | (go_at_call 143; with_reducible refine (L1.out _).mono ?_; rintro e w' ⟨rfl, rfl⟩)
              | (go_at_call 144; with_reducible refine (G1.out _).mono ?_; rintro e w' ⟨rfl, rfl⟩)
              | (go_at_call 146; with_reducible refine (I1.out _).mono ?_; rintro e w' ⟨rfl, rfl⟩)
              | (go_at_call 146; with_reducible refine (I2.out _).mono ?_; rintro e w' ⟨rfl, rfl⟩)
              | (go_at_call 203; with_reducible refine (X1.out _).mono ?_; rintro e w' ⟨rfl, rfl⟩)
              | (go_at_call 203; with_reducible refine (X2.out _).mono ?_; rintro e w' ⟨rfl, rfl⟩)
              | (go_at_call 204; with_reducible refine (C1.out _).mono ?_; rintro e w1 ⟨t1, rfl, ht1, hb1⟩; have hz1 : t1.size = 3 := (by rw [← size_len, ht1]; simp [pct])))
            all_goals first
              | (go_roundw
                 case rel =>
                   refine ⟨k + 1, t ++ t1, by omega, by go_num, rfl, hbw.trans (hb1.mono hbw.size), ?_⟩
                   rw [app_list, ht1, ← HA.out]; simp [*]
                 case measure => simp [intOf]; omega)
              | (go_roundw
                 case rel =>
                   refine ⟨k + 1, _, by omega, by go_num, rfl, hbw.alloc hbw.size _, ?_⟩
                   rw [app_list, nums_one, byte_ofNat, ← HA.out]; simp [*]
                 case measure => simp [intOf]; omega)
        · have h2i : ¬ (k : Int) + 2 < (s.size : Int) := by omega
          rw [codedL_short _ (by simp; omega)] at hacc
          have HA := Lib.hid hacc
          clear hacc hc
          go_wp2_with (first
            | (go_at_call 143; with_reducible refine (L1.out _).mono ?_; rintro e w' ⟨rfl, rfl⟩)
            | (go_at_call 144; with_reducible refine (G1.out _).mono ?_; rintro e w' ⟨rfl, rfl⟩)
            | (go_at_call 146; with_reducible refine (I1.out _).mono ?_; rintro e w' ⟨rfl, rfl⟩)
            | (go_at_call 146; with_reducible refine (I2.out _).mono ?_; rintro e w' ⟨rfl, rfl⟩)
            | (go_at_call 203; with_reducible refine (X1.out _).mono ?_; rintro e w' ⟨rfl, rfl⟩)
            | (go_at_call 203; with_reducible refine (X2.out _).mono ?_; rintro e w' ⟨rfl, rfl⟩)
            | (go_at_call 204; with_reducible refine (C1.out _).mono ?_; rintro e w1 ⟨t1, rfl, ht1, hb1⟩; have hz1 : t1.size = 3 := (by rw [← size_len, ht1]; simp [pct])))
          all_goals first
            | (go_roundw
               case rel =>
                 refine ⟨k + 1, t ++ t1, by omega, by go_num, rfl, hbw.trans (hb1.mono hbw.size), ?_⟩
                 rw [app_list, ht1, ← HA.out]; simp [*]
               case measure => simp [intOf]; omega)
            | (go_roundw
               case rel =>
                 refine ⟨k + 1, _, by omega, by go_num, rfl, hbw.alloc hbw.size _, ?_⟩
                 rw [app_list, nums_one, byte_ofNat, ← HA.out]; simp [*]
               case measure => simp [intOf]; omega)
      · have hci : ((s[k].toNat : Int) == 37) = false := by
          rw [beq_eq_false_iff_ne]; exact fun e => hc (UInt8.toNat_inj.1 (by rw [show (37 : UInt8).toNat = 37 from rfl]; omega))
        have e3 : codedL (s.data.toList.drop k) = false := by rw [drop_at s k hlt]; exact codedL_no _ _ hc
        rw [e3] at hacc
        have HA := Lib.hid hacc
        clear hacc hc e3
        go_wp2_with (first
          | (go_at_call 143; with_reducible refine (L1.out _).mono ?_; rintro e w' ⟨rfl, rfl⟩)
          | (go_at_call 144; with_reducible refine (G1.out _).mono ?_; rintro e w' ⟨rfl, rfl⟩)
          | (go_at_call 146; with_reducible refine (I1.out _).mono ?_; rintro e w' ⟨rfl, rfl⟩)
          | (go_at_call 146; with_reducible refine (I2.out _).mono ?_; rintro e w' ⟨rfl, rfl⟩)
          | (go_at_call 203; with_reducible refine (X1.out _).mono ?_; rintro e w' ⟨rfl, rfl⟩)
          | (go_at_call 203; with_reducible refine (X2.out _).mono ?_; rintro e w' ⟨rfl, rfl⟩)
          | (go_at_call 204; with_reducible refine (C1.out _).mono ?_; rintro e w1 ⟨t1, rfl, ht1, hb1⟩; have hz1 : t1.size = 3 := (by rw [← size_len, ht1]; simp [pct])))
        all_goals first
          | (go_roundw
             case rel =>
               refine ⟨k + 1, t ++ t1, by omega, by go_num, rfl, hbw.trans (hb1.mono hbw.size), ?_⟩
               rw [app_list, ht1, ← HA.out]; simp [*]
             case measure => simp [intOf]; omega)
          | (go_roundw
             case rel =>
               refine ⟨k + 1, _, by omega, by go_num, rfl, hbw.alloc hbw.size _, ?_⟩
               rw [app_list, nums_one, byte_ofNat, ← HA.out]; simp [*]
             case measure => simp [intOf]; omega)
    · rw [drop_end s k (by omega), conv, List.append_nil] at hacc
      have HA := Lib.hid hacc
      clear hacc
      go_wp2
      go_ret
      exact ⟨t, rfl, HA.out, hbw⟩
end Go.Proofs.YtjdhaacmlpegoaaGreatDoor
