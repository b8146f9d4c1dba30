/- The reference's Unescape. -/
import Derived.Test.YtgbinadjbikhhaaDoorLPA
import Derived.IntWalk
import Derived.Deep.RegionHeld3
namespace Go.Proofs.YtgbinadjbikhhaaDoor
set_option linter.unusedVariables false
set_option linter.unusedSimpArgs false
open Go.RowKit

theorem unesc_first (s : ByteArray) (k : Nat) (h : k < s.size) (hD : codedL (s.data.toList.drop k) = false) : unescL (s.data.toList.drop k) = s[k] :: unescL (s.data.toList.drop (k + 1)) := by
  rw [drop_at s k h] at hD ⊢
  exact unesc_plain _ _ hD
theorem unesc_three (s : ByteArray) (k : Nat) (h2 : k + 2 < s.size) (hc : s[k] = 37) (x y : Nat) (ex : hexI (s[k + 1].toNat : Int) = x) (ey : hexI (s[k + 2].toNat : Int) = y) : unescL (s.data.toList.drop k) = UInt8.ofNat (x * 16 + y) :: unescL (s.data.toList.drop (k + 3)) := by
  have e3 : codedL (s.data.toList.drop k) = true := by
    rw [drop3 s k h2, codedL, hc]
    simp only [hexB, ex, ey]; simp
  rw [drop3 s k h2] at e3 ⊢
  rw [unesc_coded _ _ _ _ e3, hexByte]
  simp only [hexB, ex, ey, Int.toNat_natCast]
theorem conv_one_drew (w : World) (n : Int) : (convert 69 9 (.slice (some ⟨w.heap.size, 0, none⟩) 1 1)).run Tryd.prog (w.alloc (.cells #[.int .u8 n] 5)).drew = .ok (.string (strOfNums [n])) (w.alloc (.cells #[.int .u8 n] 5)).drew :=
  run_convert_bytes_arg (w.alloc (.cells #[.int .u8 n] 5)).drew 69 5 Tryd.underlying69 Tryd.underlying5 w.heap.size 0 1 1 [n] rfl
    (fun i hi => by obtain rfl : i = 0 := by omega
                    simp) 9 Tryd.underlying9
set_option maxRecDepth 20000 in
set_option maxHeartbeats 1000000 in
theorem runescape_any (s : ByteArray) (w : World) (hs : s.size ≤ 1000000) :
    Calls Tryd.prog 25 #[.string s] w fun e w' => ∃ t : ByteArray, e = .returned (.string t) ∧ t.data.toList = unescL s.data.toList ∧ Below w.heap.size w w' := by
  obtain ⟨R, hR⟩ : ∃ R, unescL s.data.toList = R := ⟨_, rfl⟩
  have hRl : R.length ≤ s.size := by rw [← hR, ← size_len]; exact unesc_len _
  rw [hR]
  have HR := Lib.hid hR
  clear hR
  go_enter Tryd.func25, Tryd.ntmps25
  go_wp2
  go_loopw [3, 4] (fun o i wr => ∃ (k : Nat) (t : ByteArray), k ≤ s.size ∧ i = .int .i64 k ∧ o = .string t ∧ Below w.heap.size w wr ∧ t.data.toList ++ unescL (s.data.toList.drop k) = R) (fun _ i _ => s.size - (intOf i).toNat)
  case atStart => exact ⟨0, ⟨#[]⟩, Nat.zero_le _, rfl, rfl, Below.refl _ _, HR.out⟩
  case round =>
    obtain ⟨k, t, hk, rfl, rfl, hbw, hacc⟩ := hrel
    have htl : t.size ≤ 1000000 := by have := congrArg List.length hacc; rw [List.length_append, size_len] at this; omega
    by_cases hlt : k < s.size
    · have hki : (k : Int) < (s.size : Int) := by omega
      have hx : (s.extract k (k + 1)).data.toList = [s[k]] := by
        rw [ext_list, drop_at s k hlt, show k + 1 - k = 1 by omega]; rfl
      have HX := Lib.hid hx
      clear hx
      by_cases hc : s[k] = 37
      · have hci : ((s[k].toNat : Int) == 37) = true := by rw [hc]; rfl
        by_cases h2 : k + 2 < s.size
        · have h2i : (k : Int) + 2 < (s.size : Int) := by omega
          have e3 : codedL (s.data.toList.drop k) = (decide (0 ≤ hexI (s[k + 1].toNat : Int)) && decide (0 ≤ hexI (s[k + 2].toNat : Int))) := by
            rw [drop3 s k h2, codedL, hc]; rfl
          have ht := unesc_three s k h2 hc
          have hf := unesc_first s k hlt
          rw [e3] at hf
          have cA := fun w => rhex_any (s[k + 1].toNat : Int) w (byte_bd _)
          have cB := fun w => rhex_any (s[k + 2].toNat : Int) w (byte_bd _)
          have hxb := hexI_bd (s[k + 1].toNat : Int)
          have hyb := hexI_bd (s[k + 2].toNat : Int)
          obtain ⟨x, hx⟩ : ∃ x, hexI (s[k + 1].toNat : Int) = x := ⟨_, rfl⟩
          obtain ⟨y, hy⟩ : ∃ y, hexI (s[k + 2].toNat : Int) = y := ⟨_, rfl⟩
          rw [hx] at cA hf ht hxb
          rw [hy] at cB hf ht hyb
          have X1 := Lib.hid cA
          have X2 := Lib.hid cB
          have hx2 : x = -1 ∨ ∃ n : Nat, x = n ∧ n ≤ 15 := by
            rcases Int.lt_or_le x 0 with h | h
            · exact .inl (by omega)
            · exact .inr ⟨x.toNat, by omega, by omega⟩
          have hy2 : y = -1 ∨ ∃ n : Nat, y = n ∧ n ≤ 15 := by
            rcases Int.lt_or_le y 0 with h | h
            · exact .inl (by omega)
            · exact .inr ⟨y.toNat, by omega, by omega⟩
          clear cA cB hx hy e3 hc hxb hyb
          rcases hx2 with rfl | ⟨nx, rfl, hx3⟩
          · rw [hf (by simp)] at hacc
            have HA := Lib.hid hacc
            clear hacc hf ht
            go_wp2_with (first
              | (go_at_call 63; with_reducible refine (X1.out _).mono ?_; rintro e w' ⟨rfl, rfl⟩)
              | (go_at_call 63; with_reducible refine (X2.out _).mono ?_; rintro e w' ⟨rfl, rfl⟩))
            go_roundw
            case rel =>
              refine ⟨k + 1, t ++ s.extract k (k + 1), by omega, by go_num, rfl, hbw, ?_⟩
              rw [app_list, HX.out, ← HA.out]; simp
            case measure => simp [intOf]; omega
          · rcases hy2 with rfl | ⟨ny, rfl, hy3⟩
            · rw [hf (by simp)] at hacc
              have HA := Lib.hid hacc
              clear hacc hf ht
              go_wp2_with (first
                | (go_at_call 63; with_reducible refine (X1.out _).mono ?_; rintro e w' ⟨rfl, rfl⟩)
                | (go_at_call 63; with_reducible refine (X2.out _).mono ?_; rintro e w' ⟨rfl, rfl⟩))
              go_roundw
              case rel =>
                refine ⟨k + 1, t ++ s.extract k (k + 1), by omega, by go_num, rfl, hbw, ?_⟩
                rw [app_list, HX.out, ← HA.out]; simp
              case measure => simp [intOf]; omega
            · rw [ht nx ny rfl rfl] at hacc
              have HA := Lib.hid hacc
              clear hacc hf ht
              have hcv := conv_one_drew wr
              have hns := nums_size
              have hsz : ¬ 9223372036854775807 < t.size + 1 := by omega
              have s1 : IntKind.i64.wrap ((k : Int) + 1) = (k : Int) + 1 := IntWalk.i64_in _ (by omega)
              have s2 : IntKind.i64.wrap ((k : Int) + 2) = (k : Int) + 2 := IntWalk.i64_in _ (by omega)
              have p1 : (0 : Int) ≤ (k : Int) + 1 := by omega
              have p2 : (0 : Int) ≤ (k : Int) + 2 := by omega
              have q1 : ((k : Int) + 1).toNat = k + 1 := by omega
              have q2 : ((k : Int) + 2).toNat = k + 2 := by omega
              have l1 : (k : Int) + 1 < (s.size : Int) := by omega
              have s3 : IntKind.i64.wrap ((nx : Int) * 16) = (nx : Int) * 16 := IntWalk.i64_in _ (by omega)
              have s4 : IntKind.i64.wrap ((nx : Int) * 16 + (ny : Int)) = (nx : Int) * 16 + (ny : Int) := IntWalk.i64_in _ (by omega)
              go_wp2_with (first
                | (go_at_call 63; with_reducible refine (X1.out _).mono ?_; rintro e w' ⟨rfl, rfl⟩)
                | (go_at_call 63; with_reducible refine (X2.out _).mono ?_; rintro e w' ⟨rfl, rfl⟩))
              go_region_with (first
                | (go_at_call 63; with_reducible refine (X1.out _).mono ?_; rintro e w' ⟨rfl, rfl⟩)
                | (go_at_call 63; with_reducible refine (X2.out _).mono ?_; rintro e w' ⟨rfl, rfl⟩))
              all_goals
                go_wp2_with fail
                go_roundw
                case rel =>
                  refine ⟨k + 3, _, by omega, by go_num, rfl, (hbw.alloc hbw.size _).drew, ?_⟩
                  rw [app_list, nums_one, show ((nx : Int) * 16 + (ny : Int)).toNat = nx * 16 + ny by omega, ← HA.out]; simp
                case measure => simp [intOf]; omega
        · have h2i : ¬ (k : Int) + 2 < (s.size : Int) := by omega
          rw [unesc_first s k hlt (codedL_short _ (by simp; omega))] at hacc
          have HA := Lib.hid hacc
          clear hacc hc
          go_wp2_with (first
            | (go_at_call 63; with_reducible refine (X1.out _).mono ?_; rintro e w' ⟨rfl, rfl⟩)
            | (go_at_call 63; with_reducible refine (X2.out _).mono ?_; rintro e w' ⟨rfl, rfl⟩))
          go_roundw
          case rel =>
            refine ⟨k + 1, t ++ s.extract k (k + 1), by omega, by go_num, rfl, hbw, ?_⟩
            rw [app_list, HX.out, ← HA.out]; simp
          case measure => simp [intOf]; omega
      · have hci : ((s[k].toNat : Int) == 37) = false := by
          rw [beq_eq_false_iff_ne]; exact fun e => hc (UInt8.toNat_inj.1 (by rw [show (37 : UInt8).toNat = 37 from rfl]; omega))
        have e3 : codedL (s.data.toList.drop k) = false := by rw [drop_at s k hlt]; exact codedL_no _ _ hc
        rw [unesc_first s k hlt e3] at hacc
        have HA := Lib.hid hacc
        clear hacc hc e3
        go_wp2_with (first
          | (go_at_call 63; with_reducible refine (X1.out _).mono ?_; rintro e w' ⟨rfl, rfl⟩)
          | (go_at_call 63; with_reducible refine (X2.out _).mono ?_; rintro e w' ⟨rfl, rfl⟩))
        go_roundw
        case rel =>
          refine ⟨k + 1, t ++ s.extract k (k + 1), by omega, by go_num, rfl, hbw, ?_⟩
          rw [app_list, HX.out, ← HA.out]; simp
        case measure => simp [intOf]; omega
    · rw [drop_end s k (by omega), unescL, List.append_nil] at hacc
      have HA := Lib.hid hacc
      clear hacc
      go_wp2_with fail
      go_ret
      exact ⟨t, rfl, HA.out, hbw⟩
end Go.Proofs.YtgbinadjbikhhaaDoor
