/- Bytes: letters, digits, hexadecimal digits; whether a byte is in a text; walks of the small functions of the url package and of its reference. -/
import Derived.Test.YtgjooigolgdocaaGreatDoorK2
import Derived.Test.YtgjooigolgdocaaGreatDoorShelf
import Derived.WalkSpells
import Derived.BigQuiet
import Derived.Lib.Hide
import Derived.Lib.IndexAny
namespace Go.Proofs.YtgjooigolgdocaaGreatDoor
set_option linter.unusedVariables false
set_option linter.unusedSimpArgs false
open Go.RowKit

theorem ret_int {k : IntKind} {a b : Int} (h : a = b) : Ending.returned (.int k a) = .returned (.int k b) := by rw [h]
theorem ret_bool {a b : Bool} (h : a = b) : Ending.returned (.bool a) = .returned (.bool b) := by rw [h]
theorem ret_str {a b : ByteArray} (h : a = b) : Ending.returned (.string a) = .returned (.string b) := by rw [h]
theorem size_len (s : ByteArray) : s.data.toList.length = s.size := by simp
theorem wrap32_byte (b : UInt8) : wrap32 (b.toNat : Int) = b.toNat := IntWalk.wrap32_in _ (by have := b.toNat_lt; omega)
theorem drop_at (s : ByteArray) (k : Nat) (h : k < s.size) : s.data.toList.drop k = s[k] :: s.data.toList.drop (k + 1) := by
  rw [List.drop_eq_getElem_cons (by simpa using h)]; rfl
theorem drop_end (s : ByteArray) (k : Nat) (h : s.size ≤ k) : s.data.toList.drop k = [] := List.drop_eq_nil_of_le (by simpa using h)
theorem byte_bd (b : UInt8) : (0 : Int) ≤ b.toNat ∧ (b.toNat : Int) ≤ 255 := by have := b.toNat_lt; omega
theorem byte_back (b : UInt8) : ((b.toNat : Int)).toNat.toUInt8 = b := by simp

def letterI (x : Int) : Bool := decide (97 ≤ x ∧ x ≤ 122) || decide (65 ≤ x ∧ x ≤ 90)
def digitI (x : Int) : Bool := decide (48 ≤ x ∧ x ≤ 57)
def hexI (x : Int) : Int := if 48 ≤ x ∧ x ≤ 57 then x - 48 else if 97 ≤ x ∧ x ≤ 102 then x - 87 else if 65 ≤ x ∧ x ≤ 70 then x - 55 else -1
def letterB (b : UInt8) : Bool := letterI b.toNat
def digitB (b : UInt8) : Bool := digitI b.toNat
def hexB (b : UInt8) : Int := hexI b.toNat
theorem hexI_bd (x : Int) : -1 ≤ hexI x ∧ hexI x ≤ 15 := by unfold hexI; (repeat' split) <;> omega

theorem letter_any (x : Int) (w : World) : Calls Tryz.prog 145 #[.int .u8 x] w fun e w' => e = .returned (.bool (letterI x)) ∧ w = w' := by
  go_enter Tryz.func145, Tryz.ntmps145
  go_wp2
  all_goals (go_ret; exact ⟨ret_bool (by simp [letterI, *] <;> omega), rfl⟩)
theorem rletter_any (x : Int) (w : World) : Calls Tryz.prog 135 #[.int .u8 x] w fun e w' => e = .returned (.bool (letterI x)) ∧ w = w' := by
  go_enter Tryz.func135, Tryz.ntmps135
  go_wp2
  all_goals (go_ret; exact ⟨ret_bool (by simp [letterI, *] <;> omega), rfl⟩)
theorem digit_any (x : Int) (w : World) : Calls Tryz.prog 146 #[.int .u8 x] w fun e w' => e = .returned (.bool (digitI x)) ∧ w = w' := by
  go_enter Tryz.func146, Tryz.ntmps146
  go_wp2
  all_goals (go_ret; exact ⟨ret_bool (by simp [digitI, *] <;> omega), rfl⟩)
theorem rdigit_any (x : Int) (w : World) : Calls Tryz.prog 82 #[.int .u8 x] w fun e w' => e = .returned (.bool (digitI x)) ∧ w = w' := by
  go_enter Tryz.func82, Tryz.ntmps82
  go_wp2
  all_goals (go_ret; exact ⟨ret_bool (by simp [digitI, *] <;> omega), rfl⟩)
theorem hex_any (x : Int) (w : World) (hx : 0 ≤ x ∧ x ≤ 255) : Calls Tryz.prog 158 #[.int .u8 x] w fun e w' => e = .returned (.int .i64 (hexI x)) ∧ w = w' := by
  go_enter Tryz.func158, Tryz.ntmps158
  go_wp2_with (go_at_call 146; refine (digit_any _ _).mono ?_; rintro e w' ⟨rfl, rfl⟩)
  all_goals (go_ret; exact ⟨ret_int (by simp only [digitI, decide_eq_true_eq, decide_eq_false_iff_not] at *; unfold hexI; (repeat' split) <;> omega), rfl⟩)
theorem rhex_any (x : Int) (w : World) (hx : 0 ≤ x ∧ x ≤ 255) : Calls Tryz.prog 152 #[.int .u8 x] w fun e w' => e = .returned (.int .i64 (hexI x)) ∧ w = w' := by
  go_enter Tryz.func152, Tryz.ntmps152
  go_wp2_with (go_at_call 82; refine (rdigit_any _ _).mono ?_; rintro e w' ⟨rfl, rfl⟩)
  all_goals (go_ret; exact ⟨ret_int (by simp only [digitI, decide_eq_true_eq, decide_eq_false_iff_not] at *; unfold hexI; (repeat' split) <;> omega), rfl⟩)

/-- whether a byte is in a list -/
theorem idx_in (l : List UInt8) (b : UInt8) : (Lib.indexByte l b < 0) ↔ l.contains b = false := by
  rw [Lib.contains_iff_indexByte]; simp
/-- in: a scan -/
theorem in_any (b : UInt8) (s : ByteArray) (w : World) (hs : s.size ≤ 1000000) :
    Calls Tryz.prog 137 #[.int .u8 b.toNat, .string s] w fun e w' => e = .returned (.bool (s.data.toList.contains b)) ∧ w = w' := by
  obtain ⟨R, hR⟩ : ∃ R, s.data.toList.contains b = R := ⟨_, rfl⟩
  rw [hR]
  have HR := Lib.hid hR
  clear hR
  go_enter Tryz.func137, Tryz.ntmps137
  go_wp2
  go_loop [5] (fun i => ∃ k : Nat, k ≤ s.size ∧ i = .int .i64 k ∧ (s.data.toList.drop k).contains b = R) (fun i => s.size - (intOf i).toNat)
  case atStart => exact ⟨0, Nat.zero_le _, rfl, HR.out⟩
  case round =>
    obtain ⟨k, hk, rfl, hf⟩ := hrel
    by_cases hlt : k < s.size
    · rw [drop_at s k hlt, List.contains_cons] at hf
      have HF := Lib.hid hf
      clear hf
      go_wp2
      · go_ret
        have h1 : ((s[k].toNat : Int) == b.toNat) = true := by assumption
        have h2 : b = s[k] := (UInt8.toNat_inj.1 (by simp only [beq_iff_eq] at h1; omega)).symm
        exact ⟨ret_bool (by rw [← HF.out, ← h2]; simp), rfl⟩
      · go_round
        case rel =>
          have h1 : ((s[k].toNat : Int) == b.toNat) = false := by assumption
          have h2 : (b == s[k]) = false := by
            simp only [beq_eq_false_iff_ne] at h1 ⊢
            intro e
            exact h1 (by rw [e])
          exact ⟨k + 1, by omega, by go_num, by rw [← HF.out, h2]; simp⟩
        case measure => simp [intOf]; omega
    · rw [drop_end s k (by omega)] at hf
      have HF := Lib.hid hf
      clear hf
      go_wp2
      go_ret
      exact ⟨ret_bool (by rw [← HF.out]; rfl), rfl⟩
/-- the bytes that only lets by -/
def okC (more : List UInt8) (b : UInt8) : Bool := letterB b || digitB b || more.contains b
theorem only_any (s more : ByteArray) (w : World) (hs : s.size ≤ 1000000) :
    Calls Tryz.prog 119 #[.string s, .string more] w fun e w' => e = .returned (.bool (s.data.toList.all (okC more.data.toList))) ∧ w = w' := by
  obtain ⟨R, hR⟩ : ∃ R, s.data.toList.all (okC more.data.toList) = R := ⟨_, rfl⟩
  rw [hR]
  have HR := Lib.hid hR
  clear hR
  go_enter Tryz.func119, Tryz.ntmps119
  go_wp2
  go_loop [5] (fun i => ∃ k : Nat, k ≤ s.size ∧ i = .int .i64 k ∧ (s.data.toList.drop k).all (okC more.data.toList) = R) (fun i => s.size - (intOf i).toNat)
  case atStart => exact ⟨0, Nat.zero_le _, rfl, HR.out⟩
  case round =>
    obtain ⟨k, hk, rfl, hf⟩ := hrel
    by_cases hlt : k < s.size
    · rw [drop_at s k hlt, List.all_cons] at hf
      have cI := Tryz.strings_IndexByte more (s[k].toNat : Int)
      rw [byte_back] at cI
      have hc := idx_in more.data.toList s[k]
      have ho : okC more.data.toList s[k] = (letterI s[k].toNat || digitI s[k].toNat || more.data.toList.contains s[k]) := rfl
      obtain ⟨x, hx⟩ : ∃ x, Lib.indexByte more.data.toList s[k] = x := ⟨_, rfl⟩
      rw [hx] at cI hc
      obtain ⟨C, hC⟩ : ∃ C, more.data.toList.contains s[k] = C := ⟨_, rfl⟩
      rw [hC] at hc ho
      have CI := Lib.hid cI
      have HF := Lib.hid hf
      have HO := Lib.hid ho
      clear hf cI hx ho hC
      have hx : (C = false ∧ x < 0) ∨ (C = true ∧ ¬ x < 0) := by cases C <;> simp at hc <;> simp [hc]
      clear hc
      rcases hx with ⟨rfl, hx⟩ | ⟨rfl, hx⟩
      all_goals
        go_wp2_with (first
          | (go_at_call 145; refine (letter_any _ _).mono ?_; rintro e w' ⟨rfl, rfl⟩)
          | (go_at_call 146; refine (digit_any _ _).mono ?_; rintro e w' ⟨rfl, rfl⟩)
          | (go_at_call 120; refine (CI.out _).mono ?_; rintro e w' ⟨rfl, rfl⟩))
        all_goals first
          | (go_round
             case rel => exact ⟨k + 1, by omega, by go_num, by rw [← HF.out, HO.out]; simp [*]⟩
             case measure => simp [intOf]; omega)
          | (go_ret; exact ⟨ret_bool (by rw [← HF.out, HO.out]; simp [*]), rfl⟩)
    · rw [drop_end s k (by omega)] at hf
      have HF := Lib.hid hf
      clear hf
      go_wp2
      go_ret
      exact ⟨ret_bool (by rw [← HF.out]; rfl), rfl⟩
end Go.Proofs.YtgjooigolgdocaaGreatDoor
