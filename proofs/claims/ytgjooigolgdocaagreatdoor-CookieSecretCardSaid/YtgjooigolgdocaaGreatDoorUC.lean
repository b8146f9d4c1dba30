/- Texts: finding a byte, small letters, percent codes. -/
import Derived.Test.YtgjooigolgdocaaGreatDoorUB
namespace Go.Proofs.YtgjooigolgdocaaGreatDoor
set_option linter.unusedVariables false
set_option linter.unusedSimpArgs false
open Go.RowKit

def pre (c : UInt8) (l : List UInt8) : List UInt8 := l.takeWhile (· != c)
def post (c : UInt8) (l : List UInt8) : List UInt8 := (l.dropWhile (· != c)).drop 1
theorem find_any (b : UInt8) (s : ByteArray) (w : World) (hs : s.size ≤ 1000000) :
    Calls Tryz.prog 47 #[.string s, .int .u8 b.toNat] w fun e w' => e = .returned (.int .i64 ((pre b s.data.toList).length : Nat)) ∧ w = w' := by
  obtain ⟨R, hR⟩ : ∃ R, (pre b s.data.toList).length = R := ⟨_, rfl⟩
  rw [hR]
  have HR := Lib.hid hR
  clear hR
  go_enter Tryz.func47, Tryz.ntmps47
  go_wp2
  go_loop [5] (fun i => ∃ k : Nat, k ≤ s.size ∧ i = .int .i64 k ∧ k + (pre b (s.data.toList.drop k)).length = R) (fun i => s.size - (intOf i).toNat)
  case atStart => exact ⟨0, Nat.zero_le _, rfl, by rw [Nat.zero_add]; exact HR.out⟩
  case round =>
    obtain ⟨k, hk, rfl, hf⟩ := hrel
    by_cases hlt : k < s.size
    · rw [drop_at s k hlt, pre, List.takeWhile_cons] at hf
      by_cases hc : s[k] = b
      · rw [if_neg (by simp [hc])] at hf
        have HF := Lib.hid hf
        have hci : (s[k].toNat : Int) = b.toNat := by rw [hc]
        clear hf
        go_wp2
        go_ret
        exact ⟨ret_int (by have := HF.out; simp at this; omega), rfl⟩
      · rw [if_pos (by simp [hc])] at hf
        have HF := Lib.hid hf
        have hci : ¬ (s[k].toNat : Int) = b.toNat := fun e => hc (UInt8.toNat_inj.1 (by omega))
        clear hf
        go_wp2
        go_round
        case rel => exact ⟨k + 1, by omega, by go_num, by have := HF.out; simp at this; rw [pre]; omega⟩
        case measure => simp [intOf]; omega
    · rw [drop_end s k (by omega)] at hf
      have HF := Lib.hid hf
      clear hf
      go_wp2
      go_ret
      exact ⟨ret_int (by have := HF.out; simp [pre] at this; omega), rfl⟩
/-- a string of one byte -/
theorem conv_one (w : World) (n : Int) : (convert 85 9 (.slice (some ⟨w.heap.size, 0, none⟩) 1 1)).run Tryz.prog (w.alloc (.cells #[.int .u8 n] 5)) = .ok (.string (strOfNums [n])) (w.alloc (.cells #[.int .u8 n] 5)) :=
  run_convert_bytes_arg (w.alloc (.cells #[.int .u8 n] 5)) 85 5 Tryz.underlying85 Tryz.underlying5 w.heap.size 0 1 1 [n] rfl
    (fun i hi => by obtain rfl : i = 0 := by omega
                    simp) 9 Tryz.underlying9
theorem nums_one (n : Int) : (strOfNums [n]).data.toList = [UInt8.ofNat n.toNat] := by simp [strOfNums]
theorem nums_size (n : Int) : (strOfNums [n]).size = 1 := by rw [← size_len, nums_one]; rfl
theorem app_list (a b : ByteArray) : (a ++ b).data.toList = a.data.toList ++ b.data.toList := by simp
theorem byte_ofNat (b : UInt8) : UInt8.ofNat ((b.toNat : Int)).toNat = b := by simp
def lowB (b : UInt8) : UInt8 := if 65 ≤ b.toNat ∧ b.toNat ≤ 90 then b + 32 else b
theorem lowB_int (b : UInt8) : ((65 : Int) ≤ b.toNat → (b.toNat : Int) ≤ 90 → UInt8.ofNat ((b.toNat : Int) + 32).toNat = lowB b) ∧ (¬ ((65 : Int) ≤ b.toNat ∧ (b.toNat : Int) ≤ 90) → UInt8.ofNat ((b.toNat : Int)).toNat = lowB b) := by
  constructor
  · intro h1 h2
    rw [lowB, if_pos ⟨by omega, by omega⟩]
    apply UInt8.toNat_inj.1
    rw [show ((b.toNat : Int) + 32).toNat = b.toNat + 32 by omega, UInt8.toNat_ofNat', UInt8.toNat_add]
    rfl
  · intro h
    rw [lowB, if_neg (fun ⟨h1, h2⟩ => h ⟨by omega, by omega⟩), byte_ofNat]
def lowL (l : List UInt8) : List UInt8 := l.map lowB
set_option maxRecDepth 20000 in
theorem small_any (s : ByteArray) (w : World) (hs : s.size ≤ 1000000) :
    Calls Tryz.prog 48 #[.string s] w fun e w' => ∃ t : ByteArray, e = .returned (.string t) ∧ t.data.toList = lowL s.data.toList ∧ Below w.heap.size w w' := by
  go_enter Tryz.func48, Tryz.ntmps48
  go_wp2
  go_loopw [3, 4] (fun o i wr => ∃ (k : Nat) (t : ByteArray), k ≤ s.size ∧ i = .int .i64 k ∧ o = .string t ∧ t.data.toList = lowL (s.data.toList.take k) ∧ Below w.heap.size w wr) (fun _ i _ => s.size - (intOf i).toNat)
  case atStart => exact ⟨0, ⟨#[]⟩, Nat.zero_le _, rfl, rfl, rfl, Below.refl _ _⟩
  case round =>
    obtain ⟨k, t, hk, rfl, rfl, hf, hbw⟩ := hrel
    have htl : t.size = k := by rw [← size_len, hf]; simp [lowL]; omega
    have HF := Lib.hid hf
    clear hf
    by_cases hlt : k < s.size
    · have hcv := conv_one wr
      have hns := nums_size
      have hts : s.data.toList.take (k + 1) = s.data.toList.take k ++ [s[k]] := by rw [List.take_succ_eq_append_getElem (by simpa using hlt)]; rfl
      have HT := Lib.hid hts
      clear hts
      have hb := lowB_int s[k]
      have HB := Lib.hid hb
      clear hb
      go_wp2
      all_goals
        go_roundw
        case rel =>
          refine ⟨k + 1, _, by omega, by go_num, rfl, ?_, hbw.alloc hbw.size _⟩
          rw [app_list, HF.out, HT.out, nums_one]
          simp only [lowL, List.map_append, List.map_cons, List.map_nil]
          congr 2
          first | exact HB.out.1 (by omega) (by omega) | exact HB.out.2 (by omega)
        case measure => simp [intOf]; omega
    · go_wp2
      go_ret
      exact ⟨t, rfl, by rw [HF.out, List.take_of_length_le (by simp; omega)], hbw⟩
end Go.Proofs.YtgjooigolgdocaaGreatDoor
