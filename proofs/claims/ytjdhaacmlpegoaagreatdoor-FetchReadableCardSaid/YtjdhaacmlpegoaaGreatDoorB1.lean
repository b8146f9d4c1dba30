import Derived.Test.YtjdhaacmlpegoaaGreatDoorK2
import Derived.Test.YtjdhaacmlpegoaaGreatDoorShelf
import Derived.WalkSpells
import Derived.BigQuiet
import Derived.Lib.Hide
import Derived.Lib.IndexAny
import Derived.Lib.SplitLaws
import Derived.Lib.IndexMore
import Derived.Lib.CountLaws
import Derived.Lib.CutLaws
import Derived.Lib.ConvBytes
import Derived.Laws.IdiomStrings
import Derived.Shelf.Strings.SlTrimAscii
/- Bytes: letters, digits, hexadecimal digits; whether a byte is in a text; walks of the small functions of the url package and of its reference. -/
namespace Go.Proofs.YtjdhaacmlpegoaaGreatDoor
set_option linter.unusedVariables false
set_option linter.unusedSimpArgs false
open Go.RowKit

theorem ret_int {k : IntKind} {a b : Int} (h : a = b) : Ending.returned (.int k a) = .returned (.int k b) := by rw [h]
theorem ret_bool {a b : Bool} (h : a = b) : Ending.returned (.bool a) = .returned (.bool b) := by rw [h]
theorem ret_str {a b : ByteArray} (h : a = b) : Ending.returned (.string a) = .returned (.string b) := by rw [h]
theorem size_len (s : ByteArray) : s.data.toList.length = s.size := by simp
theorem wrap32_byte (b : UInt8) : wrap32 (b.toNat : Int) = b.toNat := IntWalk.wrap32_in _ (by have := b.toNat_lt; omega)
theorem drop_at (s : ByteArray) (k : Nat) (h : k < s.size) : s.data.toList.drop k = s[k] :: s.data.toList.drop (k + 1) := by
  rw [List.drop_eq_getElem_cons (by simpa using h)]; rfl
theorem drop_end (s : ByteArray) (k : Nat) (h : s.size ≤ k) : s.data.toList.drop k = [] := List.drop_eq_nil_of_le (by simpa using h)
theorem byte_bd (b : UInt8) : (0 : Int) ≤ b.toNat ∧ (b.toNat : Int) ≤ 255 := by have := b.toNat_lt; omega
theorem byte_back (b : UInt8) : ((b.toNat : Int)).toNat.toUInt8 = b := by simp

def letterI (x : Int) : Bool := decide (97 ≤ x ∧ x ≤ 122) || decide (65 ≤ x ∧ x ≤ 90)
def digitI (x : Int) : Bool := decide (48 ≤ x ∧ x ≤ 57)
def hexI (x : Int) : Int := if 48 ≤ x ∧ x ≤ 57 then x - 48 else if 97 ≤ x ∧ x ≤ 102 then x - 87 else if 65 ≤ x ∧ x ≤ 70 then x - 55 else -1
def letterB (b : UInt8) : Bool := letterI b.toNat
def digitB (b : UInt8) : Bool := digitI b.toNat
def hexB (b : UInt8) : Int := hexI b.toNat
theorem hexI_bd (x : Int) : -1 ≤ hexI x ∧ hexI x ≤ 15 := by unfold hexI; (repeat' split) <;> omega

theorem letter_any (x : Int) (w : World) : Calls Tryz.prog 106 #[.int .u8 x] w fun e w' => e = .returned (.bool (letterI x)) ∧ w = w' := by
  go_enter Tryz.func106, Tryz.ntmps106
  go_wp2
  all_goals (go_ret; exact ⟨ret_bool (by simp [letterI, *] <;> omega), rfl⟩)
theorem rletter_any (x : Int) (w : World) : Calls Tryz.prog 143 #[.int .u8 x] w fun e w' => e = .returned (.bool (letterI x)) ∧ w = w' := by
  go_enter Tryz.func143, Tryz.ntmps143
  go_wp2
  all_goals (go_ret; exact ⟨ret_bool (by simp [letterI, *] <;> omega), rfl⟩)
theorem digit_any (x : Int) (w : World) : Calls Tryz.prog 108 #[.int .u8 x] w fun e w' => e = .returned (.bool (digitI x)) ∧ w = w' := by
  go_enter Tryz.func108, Tryz.ntmps108
  go_wp2
  all_goals (go_ret; exact ⟨ret_bool (by simp [digitI, *] <;> omega), rfl⟩)
theorem rdigit_any (x : Int) (w : World) : Calls Tryz.prog 144 #[.int .u8 x] w fun e w' => e = .returned (.bool (digitI x)) ∧ w = w' := by
  go_enter Tryz.func144, Tryz.ntmps144
  go_wp2
  all_goals (go_ret; exact ⟨ret_bool (by simp [digitI, *] <;> omega), rfl⟩)
theorem hex_any (x : Int) (w : World) (hx : 0 ≤ x ∧ x ≤ 255) : Calls Tryz.prog 160 #[.int .u8 x] w fun e w' => e = .returned (.int .i64 (hexI x)) ∧ w = w' := by
  go_enter Tryz.func160, Tryz.ntmps160
  go_wp2_with (go_at_call 108; refine (digit_any _ _).mono ?_; rintro e w' ⟨rfl, rfl⟩)
  all_goals (go_ret; exact ⟨ret_int (by simp only [digitI, decide_eq_true_eq, decide_eq_false_iff_not] at *; unfold hexI; (repeat' split) <;> omega), rfl⟩)
theorem rhex_any (x : Int) (w : World) (hx : 0 ≤ x ∧ x ≤ 255) : Calls Tryz.prog 203 #[.int .u8 x] w fun e w' => e = .returned (.int .i64 (hexI x)) ∧ w = w' := by
  go_enter Tryz.func203, Tryz.ntmps203
  go_wp2_with (go_at_call 144; refine (rdigit_any _ _).mono ?_; rintro e w' ⟨rfl, rfl⟩)
  all_goals (go_ret; exact ⟨ret_int (by simp only [digitI, decide_eq_true_eq, decide_eq_false_iff_not] at *; unfold hexI; (repeat' split) <;> omega), rfl⟩)

/-- whether a byte is in a list -/
theorem idx_in (l : List UInt8) (b : UInt8) : (Lib.indexByte l b < 0) ↔ l.contains b = false := by
  rw [Lib.contains_iff_indexByte]; simp
/-- in: a scan -/
theorem in_any (b : UInt8) (s : ByteArray) (w : World) (hs : s.size ≤ 1000000) :
    Calls Tryz.prog 146 #[.int .u8 b.toNat, .string s] w fun e w' => e = .returned (.bool (s.data.toList.contains b)) ∧ w = w' := by
  obtain ⟨R, hR⟩ : ∃ R, s.data.toList.contains b = R := ⟨_, rfl⟩
  rw [hR]
  have HR := Lib.hid hR
  clear hR
  go_enter Tryz.func146, Tryz.ntmps146
  go_wp2
  go_loop [5] (fun i => ∃ k : Nat, k ≤ s.size ∧ i = .int .i64 k ∧ (s.data.toList.drop k).contains b = R) (fun i => s.size - (intOf i).toNat)
  case atStart => exact ⟨0, Nat.zero_le _, rfl, HR.out⟩
  case round =>
    obtain ⟨k, hk, rfl, hf⟩ := hrel
    by_cases hlt : k < s.size
    · rw [drop_at s k hlt, List.contains_cons] at hf
      have HF := Lib.hid hf
      clear hf
      go_wp2
      · go_ret
        have h1 : ((s[k].toNat : Int) == b.toNat) = true := by assumption
        have h2 : b = s[k] := (UInt8.toNat_inj.1 (by simp only [beq_iff_eq] at h1; omega)).symm
        exact ⟨ret_bool (by rw [← HF.out, ← h2]; simp), rfl⟩
      · go_round
        case rel =>
          have h1 : ((s[k].toNat : Int) == b.toNat) = false := by assumption
          have h2 : (b == s[k]) = false := by
            simp only [beq_eq_false_iff_ne] at h1 ⊢
            intro e
            exact h1 (by rw [e])
          exact ⟨k + 1, by omega, by go_num, by rw [← HF.out, h2]; simp⟩
        case measure => simp [intOf]; omega
    · rw [drop_end s k (by omega)] at hf
      have HF := Lib.hid hf
      clear hf
      go_wp2
      go_ret
      exact ⟨ret_bool (by rw [← HF.out]; rfl), rfl⟩
/-- the bytes that only lets by -/
def okC (more : List UInt8) (b : UInt8) : Bool := letterB b || digitB b || more.contains b
theorem only_any (s more : ByteArray) (w : World) (hs : s.size ≤ 1000000) :
    Calls Tryz.prog 62 #[.string s, .string more] w fun e w' => e = .returned (.bool (s.data.toList.all (okC more.data.toList))) ∧ w = w' := by
  obtain ⟨R, hR⟩ : ∃ R, s.data.toList.all (okC more.data.toList) = R := ⟨_, rfl⟩
  rw [hR]
  have HR := Lib.hid hR
  clear hR
  go_enter Tryz.func62, Tryz.ntmps62
  go_wp2
  go_loop [5] (fun i => ∃ k : Nat, k ≤ s.size ∧ i = .int .i64 k ∧ (s.data.toList.drop k).all (okC more.data.toList) = R) (fun i => s.size - (intOf i).toNat)
  case atStart => exact ⟨0, Nat.zero_le _, rfl, HR.out⟩
  case round =>
    obtain ⟨k, hk, rfl, hf⟩ := hrel
    by_cases hlt : k < s.size
    · rw [drop_at s k hlt, List.all_cons] at hf
      have cI := Tryz.strings_IndexByte more (s[k].toNat : Int)
      rw [byte_back] at cI
      have hc := idx_in more.data.toList s[k]
      have ho : okC more.data.toList s[k] = (letterI s[k].toNat || digitI s[k].toNat || more.data.toList.contains s[k]) := rfl
      obtain ⟨x, hx⟩ : ∃ x, Lib.indexByte more.data.toList s[k] = x := ⟨_, rfl⟩
      rw [hx] at cI hc
      obtain ⟨C, hC⟩ : ∃ C, more.data.toList.contains s[k] = C := ⟨_, rfl⟩
      rw [hC] at hc ho
      have CI := Lib.hid cI
      have HF := Lib.hid hf
      have HO := Lib.hid ho
      clear hf cI hx ho hC
      have hx : (C = false ∧ x < 0) ∨ (C = true ∧ ¬ x < 0) := by cases C <;> simp at hc <;> simp [hc]
      clear hc
      rcases hx with ⟨rfl, hx⟩ | ⟨rfl, hx⟩
      all_goals
        go_wp2_with (first
          | (go_at_call 106; refine (letter_any _ _).mono ?_; rintro e w' ⟨rfl, rfl⟩)
          | (go_at_call 108; refine (digit_any _ _).mono ?_; rintro e w' ⟨rfl, rfl⟩)
          | (go_at_call 64; refine (CI.out _).mono ?_; rintro e w' ⟨rfl, rfl⟩))
        all_goals first
          | (go_round
             case rel => exact ⟨k + 1, by omega, by go_num, by rw [← HF.out, HO.out]; simp [*]⟩
             case measure => simp [intOf]; omega)
          | (go_ret; exact ⟨ret_bool (by rw [← HF.out, HO.out]; simp [*]), rfl⟩)
    · rw [drop_end s k (by omega)] at hf
      have HF := Lib.hid hf
      clear hf
      go_wp2
      go_ret
      exact ⟨ret_bool (by rw [← HF.out]; rfl), rfl⟩
end Go.Proofs.YtjdhaacmlpegoaaGreatDoor

/- Texts: trimming, finding a byte, cutting. -/
namespace Go.Proofs.YtjdhaacmlpegoaaGreatDoor
set_option linter.unusedVariables false
set_option linter.unusedSimpArgs false
open Go.RowKit

def strLen : Value → Nat
  | .string s => s.size
  | _ => 0
theorem ext_list (s : ByteArray) (a b : Nat) : (s.extract a b).data.toList = (s.data.toList.drop a).take (b - a) := by
  simp [ByteArray.data_extract, List.drop_take, Array.toList_extract, List.extract_eq_take_drop]
theorem ext_to (s : ByteArray) (a : Nat) : (s.extract a s.size).data.toList = s.data.toList.drop a := by
  rw [ext_list, List.take_of_length_le (by simp)]
theorem ext_from (s : ByteArray) (b : Nat) : (s.extract 0 b).data.toList = s.data.toList.take b := by
  rw [ext_list]; simp
theorem empty_of (s : ByteArray) (h : s.size = 0) : s.toList.isEmpty = true := by
  rw [List.isEmpty_iff, ByteArray.toList_eq]; exact List.eq_nil_of_length_eq_zero (by rw [size_len]; exact h)
theorem nonempty_of (s : ByteArray) (h : 0 < s.size) : s.toList.isEmpty = false := by
  cases e : s.toList.isEmpty with
  | false => rfl
  | true =>
    rw [List.isEmpty_iff, ByteArray.toList_eq] at e
    have := size_len s
    rw [e] at this
    simp at this
    omega
def wsB (b : UInt8) : Bool := decide (b.toNat ≤ 32)
def trimF (l : List UInt8) : List UInt8 := l.dropWhile wsB
def trimE (l : List UInt8) : List UInt8 := (l.reverse.dropWhile wsB).reverse
def trimL (l : List UInt8) : List UInt8 := trimE (trimF l)
theorem trimE_snoc (l : List UInt8) (b : UInt8) : trimE (l ++ [b]) = if wsB b then trimE l else l ++ [b] := by
  unfold trimE
  rw [List.reverse_append, List.reverse_cons, List.reverse_nil, List.nil_append, List.singleton_append, List.dropWhile_cons]
  split <;> simp
theorem snoc_at (s : ByteArray) (k : Nat) (h : s.size = k + 1) : s.data.toList = s.data.toList.take k ++ [s[k]] := by
  have := List.take_succ_eq_append_getElem (i := k) (l := s.data.toList) (by simp; omega)
  rw [List.take_of_length_le (by simp; omega)] at this
  exact this
set_option maxHeartbeats 400000 in
theorem trim_any (s : ByteArray) (w : World) (hs : s.size ≤ 1000000) :
    Calls Tryz.prog 59 #[.string s] w fun e w' => ∃ t : ByteArray, e = .returned (.string t) ∧ t.data.toList = trimL s.data.toList ∧ w = w' := by
  obtain ⟨R, hR⟩ : ∃ R, trimL s.data.toList = R := ⟨_, rfl⟩
  rw [hR]
  have HR := Lib.hid hR
  clear hR
  go_enter Tryz.func59, Tryz.ntmps59
  go_wp2
  go_loop [0] (fun v => ∃ t : ByteArray, t.size ≤ 1000000 ∧ v = .string t ∧ trimL t.data.toList = R) strLen
  case atStart => exact ⟨s, hs, rfl, HR.out⟩
  case round =>
    obtain ⟨t, ht, rfl, hr⟩ := hrel
    by_cases h0 : t.size = 0
    · have hE := empty_of t h0
      have hl : t.data.toList = [] := List.eq_nil_of_length_eq_zero (by rw [size_len]; exact h0)
      have hr2 : trimE t.data.toList = R := by rw [← hr, hl]; rfl
      have HR2 := Lib.hid hr2
      have hz : (t.size : Int) = 0 := by omega
      clear hr hl hr2
      go_wp2_with fail
      go_loop [0] (fun v => ∃ t : ByteArray, t.size ≤ 1000000 ∧ v = .string t ∧ trimE t.data.toList = R) strLen
      case atStart => exact ⟨t, ht, rfl, HR2.out⟩
      case round =>
        clear hE
        obtain ⟨x, hx, rfl, hr3⟩ := hrel
        by_cases hx0 : x.size = 0
        · have hE := empty_of x hx0
          have hxl : x.data.toList = [] := List.eq_nil_of_length_eq_zero (by rw [size_len]; exact hx0)
          have hr4 : x.data.toList = R := by rw [← hr3, hxl]; rfl
          have HR4 := Lib.hid hr4
          have hxz : (x.size : Int) = 0 := by omega
          clear hr3 hxl hr4
          go_wp2_with fail
          go_ret
          exact ⟨x, rfl, HR4.out, rfl⟩
        · have hE := nonempty_of x (by omega)
          obtain ⟨k, hk⟩ : ∃ k, x.size = k + 1 := ⟨x.size - 1, by omega⟩
          have hs3 := snoc_at x k hk
          have hkx : (x.size : Int) - 1 = k := by omega
          have hkp : (0 : Int) < (x.size : Int) := by omega
          by_cases hc3 : x[k].toNat ≤ 32
          · have hci3 : (x[k].toNat : Int) ≤ 32 := by omega
            have hr4 : trimE (x.extract 0 k).data.toList = R := by
              have e := trimE_snoc (x.data.toList.take k) x[k]
              rw [if_pos (by simpa [wsB] using hc3), ← hs3] at e
              rw [ext_from, ← e]; exact hr3
            have HR4 := Lib.hid hr4
            clear hr3 hs3 hr4
            go_wp2_with fail
            go_round
            case rel => exact ⟨x.extract 0 k, by simp; omega, rfl, HR4.out⟩
            case measure => simp [strLen]; omega
          · have hci3 : ¬ (x[k].toNat : Int) ≤ 32 := by omega
            have hr4 : x.data.toList = R := by
              have e := trimE_snoc (x.data.toList.take k) x[k]
              rw [if_neg (by simpa [wsB] using hc3), ← hs3] at e
              rw [← e]; exact hr3
            have HR4 := Lib.hid hr4
            clear hr3 hs3 hr4
            go_wp2_with fail
            go_ret
            exact ⟨x, rfl, HR4.out, rfl⟩
    · have hE := nonempty_of t (by omega)
      have hd := drop_at t 0 (by omega)
      rw [List.drop_zero] at hd
      have hp : 0 < t.size := by omega
      have hpi : (0 : Int) < (t.size : Int) := by omega
      by_cases hc : t[0].toNat ≤ 32
      · have hci : (t[0].toNat : Int) ≤ 32 := by omega
        have hr2 : trimL (t.extract 1 t.size).data.toList = R := by
          rw [ext_to, ← hr, hd]
          unfold trimL trimF
          rw [List.dropWhile_cons, if_pos (by simpa [wsB] using hc)]
          simp
        have HR2 := Lib.hid hr2
        clear hr hd hr2
        go_wp2_with fail
        go_round
        case rel => exact ⟨t.extract 1 t.size, by simp; omega, rfl, HR2.out⟩
        case measure => simp [strLen]; omega
      · have hci : ¬ (t[0].toNat : Int) ≤ 32 := by omega
        have hr2 : trimE t.data.toList = R := by
          rw [← hr, hd]
          unfold trimL trimF
          rw [List.dropWhile_cons, if_neg (by simpa [wsB] using hc)]
        have HR2 := Lib.hid hr2
        clear hr hd hr2
        go_wp2_with fail
        go_loop [0] (fun v => ∃ t : ByteArray, t.size ≤ 1000000 ∧ v = .string t ∧ trimE t.data.toList = R) strLen
        case atStart => exact ⟨t, ht, rfl, HR2.out⟩
        case round =>
          clear hE
          obtain ⟨x, hx, rfl, hr3⟩ := hrel
          by_cases hx0 : x.size = 0
          · have hE := empty_of x hx0
            have hxl : x.data.toList = [] := List.eq_nil_of_length_eq_zero (by rw [size_len]; exact hx0)
            have hr4 : x.data.toList = R := by rw [← hr3, hxl]; rfl
            have HR4 := Lib.hid hr4
            have hxz : (x.size : Int) = 0 := by omega
            clear hr3 hxl hr4
            go_wp2_with fail
            go_ret
            exact ⟨x, rfl, HR4.out, rfl⟩
          · have hE := nonempty_of x (by omega)
            obtain ⟨k, hk⟩ : ∃ k, x.size = k + 1 := ⟨x.size - 1, by omega⟩
            have hs3 := snoc_at x k hk
            have hkx : (x.size : Int) - 1 = k := by omega
            have hkp : (0 : Int) < (x.size : Int) := by omega
            by_cases hc3 : x[k].toNat ≤ 32
            · have hci3 : (x[k].toNat : Int) ≤ 32 := by omega
              have hr4 : trimE (x.extract 0 k).data.toList = R := by
                have e := trimE_snoc (x.data.toList.take k) x[k]
                rw [if_pos (by simpa [wsB] using hc3), ← hs3] at e
                rw [ext_from, ← e]; exact hr3
              have HR4 := Lib.hid hr4
              clear hr3 hs3 hr4
              go_wp2_with fail
              go_round
              case rel => exact ⟨x.extract 0 k, by simp; omega, rfl, HR4.out⟩
              case measure => simp [strLen]; omega
            · have hci3 : ¬ (x[k].toNat : Int) ≤ 32 := by omega
              have hr4 : x.data.toList = R := by
                have e := trimE_snoc (x.data.toList.take k) x[k]
                rw [if_neg (by simpa [wsB] using hc3), ← hs3] at e
                rw [← e]; exact hr3
              have HR4 := Lib.hid hr4
              clear hr3 hs3 hr4
              go_wp2_with fail
              go_ret
              exact ⟨x, rfl, HR4.out, rfl⟩
set_option maxHeartbeats 400000 in
theorem rtrim_any (s : ByteArray) (w : World) (hs : s.size ≤ 1000000) :
    Calls Tryz.prog 138 #[.string s] w fun e w' => ∃ t : ByteArray, e = .returned (.string t) ∧ t.data.toList = trimL s.data.toList ∧ w = w' := by
  obtain ⟨R, hR⟩ : ∃ R, trimL s.data.toList = R := ⟨_, rfl⟩
  rw [hR]
  have HR := Lib.hid hR
  clear hR
  go_enter Tryz.func138, Tryz.ntmps138
  go_wp2
  go_loop [0] (fun v => ∃ t : ByteArray, t.size ≤ 1000000 ∧ v = .string t ∧ trimL t.data.toList = R) strLen
  case atStart => exact ⟨s, hs, rfl, HR.out⟩
  case round =>
    obtain ⟨t, ht, rfl, hr⟩ := hrel
    by_cases h0 : t.size = 0
    · have hE := empty_of t h0
      have hl : t.data.toList = [] := List.eq_nil_of_length_eq_zero (by rw [size_len]; exact h0)
      have hr2 : trimE t.data.toList = R := by rw [← hr, hl]; rfl
      have HR2 := Lib.hid hr2
      have hz : (t.size : Int) = 0 := by omega
      clear hr hl hr2
      go_wp2_with fail
      go_loop [0] (fun v => ∃ t : ByteArray, t.size ≤ 1000000 ∧ v = .string t ∧ trimE t.data.toList = R) strLen
      case atStart => exact ⟨t, ht, rfl, HR2.out⟩
      case round =>
        clear hE
        obtain ⟨x, hx, rfl, hr3⟩ := hrel
        by_cases hx0 : x.size = 0
        · have hE := empty_of x hx0
          have hxl : x.data.toList = [] := List.eq_nil_of_length_eq_zero (by rw [size_len]; exact hx0)
          have hr4 : x.data.toList = R := by rw [← hr3, hxl]; rfl
          have HR4 := Lib.hid hr4
          have hxz : (x.size : Int) = 0 := by omega
          clear hr3 hxl hr4
          go_wp2_with fail
          go_ret
          exact ⟨x, rfl, HR4.out, rfl⟩
        · have hE := nonempty_of x (by omega)
          obtain ⟨k, hk⟩ : ∃ k, x.size = k + 1 := ⟨x.size - 1, by omega⟩
          have hs3 := snoc_at x k hk
          have hkx : (x.size : Int) - 1 = k := by omega
          have hkp : (0 : Int) < (x.size : Int) := by omega
          by_cases hc3 : x[k].toNat ≤ 32
          · have hci3 : (x[k].toNat : Int) ≤ 32 := by omega
            have hr4 : trimE (x.extract 0 k).data.toList = R := by
              have e := trimE_snoc (x.data.toList.take k) x[k]
              rw [if_pos (by simpa [wsB] using hc3), ← hs3] at e
              rw [ext_from, ← e]; exact hr3
            have HR4 := Lib.hid hr4
            clear hr3 hs3 hr4
            go_wp2_with fail
            go_round
            case rel => exact ⟨x.extract 0 k, by simp; omega, rfl, HR4.out⟩
            case measure => simp [strLen]; omega
          · have hci3 : ¬ (x[k].toNat : Int) ≤ 32 := by omega
            have hr4 : x.data.toList = R := by
              have e := trimE_snoc (x.data.toList.take k) x[k]
              rw [if_neg (by simpa [wsB] using hc3), ← hs3] at e
              rw [← e]; exact hr3
            have HR4 := Lib.hid hr4
            clear hr3 hs3 hr4
            go_wp2_with fail
            go_ret
            exact ⟨x, rfl, HR4.out, rfl⟩
    · have hE := nonempty_of t (by omega)
      have hd := drop_at t 0 (by omega)
      rw [List.drop_zero] at hd
      have hp : 0 < t.size := by omega
      have hpi : (0 : Int) < (t.size : Int) := by omega
      by_cases hc : t[0].toNat ≤ 32
      · have hci : (t[0].toNat : Int) ≤ 32 := by omega
        have hr2 : trimL (t.extract 1 t.size).data.toList = R := by
          rw [ext_to, ← hr, hd]
          unfold trimL trimF
          rw [List.dropWhile_cons, if_pos (by simpa [wsB] using hc)]
          simp
        have HR2 := Lib.hid hr2
        clear hr hd hr2
        go_wp2_with fail
        go_round
        case rel => exact ⟨t.extract 1 t.size, by simp; omega, rfl, HR2.out⟩
        case measure => simp [strLen]; omega
      · have hci : ¬ (t[0].toNat : Int) ≤ 32 := by omega
        have hr2 : trimE t.data.toList = R := by
          rw [← hr, hd]
          unfold trimL trimF
          rw [List.dropWhile_cons, if_neg (by simpa [wsB] using hc)]
        have HR2 := Lib.hid hr2
        clear hr hd hr2
        go_wp2_with fail
        go_loop [0] (fun v => ∃ t : ByteArray, t.size ≤ 1000000 ∧ v = .string t ∧ trimE t.data.toList = R) strLen
        case atStart => exact ⟨t, ht, rfl, HR2.out⟩
        case round =>
          clear hE
          obtain ⟨x, hx, rfl, hr3⟩ := hrel
          by_cases hx0 : x.size = 0
          · have hE := empty_of x hx0
            have hxl : x.data.toList = [] := List.eq_nil_of_length_eq_zero (by rw [size_len]; exact hx0)
            have hr4 : x.data.toList = R := by rw [← hr3, hxl]; rfl
            have HR4 := Lib.hid hr4
            have hxz : (x.size : Int) = 0 := by omega
            clear hr3 hxl hr4
            go_wp2_with fail
            go_ret
            exact ⟨x, rfl, HR4.out, rfl⟩
          · have hE := nonempty_of x (by omega)
            obtain ⟨k, hk⟩ : ∃ k, x.size = k + 1 := ⟨x.size - 1, by omega⟩
            have hs3 := snoc_at x k hk
            have hkx : (x.size : Int) - 1 = k := by omega
            have hkp : (0 : Int) < (x.size : Int) := by omega
            by_cases hc3 : x[k].toNat ≤ 32
            · have hci3 : (x[k].toNat : Int) ≤ 32 := by omega
              have hr4 : trimE (x.extract 0 k).data.toList = R := by
                have e := trimE_snoc (x.data.toList.take k) x[k]
                rw [if_pos (by simpa [wsB] using hc3), ← hs3] at e
                rw [ext_from, ← e]; exact hr3
              have HR4 := Lib.hid hr4
              clear hr3 hs3 hr4
              go_wp2_with fail
              go_round
              case rel => exact ⟨x.extract 0 k, by simp; omega, rfl, HR4.out⟩
              case measure => simp [strLen]; omega
            · have hci3 : ¬ (x[k].toNat : Int) ≤ 32 := by omega
              have hr4 : x.data.toList = R := by
                have e := trimE_snoc (x.data.toList.take k) x[k]
                rw [if_neg (by simpa [wsB] using hc3), ← hs3] at e
                rw [← e]; exact hr3
              have HR4 := Lib.hid hr4
              clear hr3 hs3 hr4
              go_wp2_with fail
              go_ret
              exact ⟨x, rfl, HR4.out, rfl⟩
end Go.Proofs.YtjdhaacmlpegoaaGreatDoor

/- Texts: finding a byte, small letters, percent codes. -/
namespace Go.Proofs.YtjdhaacmlpegoaaGreatDoor
set_option linter.unusedVariables false
set_option linter.unusedSimpArgs false
open Go.RowKit

def pre (c : UInt8) (l : List UInt8) : List UInt8 := l.takeWhile (· != c)
def post (c : UInt8) (l : List UInt8) : List UInt8 := (l.dropWhile (· != c)).drop 1
theorem find_any (b : UInt8) (s : ByteArray) (w : World) (hs : s.size ≤ 1000000) :
    Calls Tryz.prog 141 #[.string s, .int .u8 b.toNat] w fun e w' => e = .returned (.int .i64 ((pre b s.data.toList).length : Nat)) ∧ w = w' := by
  obtain ⟨R, hR⟩ : ∃ R, (pre b s.data.toList).length = R := ⟨_, rfl⟩
  rw [hR]
  have HR := Lib.hid hR
  clear hR
  go_enter Tryz.func141, Tryz.ntmps141
  go_wp2
  go_loop [5] (fun i => ∃ k : Nat, k ≤ s.size ∧ i = .int .i64 k ∧ k + (pre b (s.data.toList.drop k)).length = R) (fun i => s.size - (intOf i).toNat)
  case atStart => exact ⟨0, Nat.zero_le _, rfl, by rw [Nat.zero_add]; exact HR.out⟩
  case round =>
    obtain ⟨k, hk, rfl, hf⟩ := hrel
    by_cases hlt : k < s.size
    · rw [drop_at s k hlt, pre, List.takeWhile_cons] at hf
      by_cases hc : s[k] = b
      · rw [if_neg (by simp [hc])] at hf
        have HF := Lib.hid hf
        have hci : (s[k].toNat : Int) = b.toNat := by rw [hc]
        clear hf
        go_wp2
        go_ret
        exact ⟨ret_int (by have := HF.out; simp at this; omega), rfl⟩
      · rw [if_pos (by simp [hc])] at hf
        have HF := Lib.hid hf
        have hci : ¬ (s[k].toNat : Int) = b.toNat := fun e => hc (UInt8.toNat_inj.1 (by omega))
        clear hf
        go_wp2
        go_round
        case rel => exact ⟨k + 1, by omega, by go_num, by have := HF.out; simp at this; rw [pre]; omega⟩
        case measure => simp [intOf]; omega
    · rw [drop_end s k (by omega)] at hf
      have HF := Lib.hid hf
      clear hf
      go_wp2
      go_ret
      exact ⟨ret_int (by have := HF.out; simp [pre] at this; omega), rfl⟩
/-- a string of one byte -/
theorem conv_one (w : World) (n : Int) : (convert 68 9 (.slice (some ⟨w.heap.size, 0, none⟩) 1 1)).run Tryz.prog (w.alloc (.cells #[.int .u8 n] 5)) = .ok (.string (strOfNums [n])) (w.alloc (.cells #[.int .u8 n] 5)) :=
  run_convert_bytes_arg (w.alloc (.cells #[.int .u8 n] 5)) 68 5 Tryz.underlying68 Tryz.underlying5 w.heap.size 0 1 1 [n] rfl
    (fun i hi => by obtain rfl : i = 0 := by omega
                    simp) 9 Tryz.underlying9
theorem nums_one (n : Int) : (strOfNums [n]).data.toList = [UInt8.ofNat n.toNat] := by simp [strOfNums]
theorem nums_size (n : Int) : (strOfNums [n]).size = 1 := by rw [← size_len, nums_one]; rfl
theorem app_list (a b : ByteArray) : (a ++ b).data.toList = a.data.toList ++ b.data.toList := by simp
theorem byte_ofNat (b : UInt8) : UInt8.ofNat ((b.toNat : Int)).toNat = b := by simp
def lowB (b : UInt8) : UInt8 := if 65 ≤ b.toNat ∧ b.toNat ≤ 90 then b + 32 else b
theorem lowB_int (b : UInt8) : ((65 : Int) ≤ b.toNat → (b.toNat : Int) ≤ 90 → UInt8.ofNat ((b.toNat : Int) + 32).toNat = lowB b) ∧ (¬ ((65 : Int) ≤ b.toNat ∧ (b.toNat : Int) ≤ 90) → UInt8.ofNat ((b.toNat : Int)).toNat = lowB b) := by
  constructor
  · intro h1 h2
    rw [lowB, if_pos ⟨by omega, by omega⟩]
    apply UInt8.toNat_inj.1
    rw [show ((b.toNat : Int) + 32).toNat = b.toNat + 32 by omega, UInt8.toNat_ofNat', UInt8.toNat_add]
    rfl
  · intro h
    rw [lowB, if_neg (fun ⟨h1, h2⟩ => h ⟨by omega, by omega⟩), byte_ofNat]
def lowL (l : List UInt8) : List UInt8 := l.map lowB
set_option maxRecDepth 20000 in
theorem small_any (s : ByteArray) (w : World) (hs : s.size ≤ 1000000) :
    Calls Tryz.prog 140 #[.string s] w fun e w' => ∃ t : ByteArray, e = .returned (.string t) ∧ t.data.toList = lowL s.data.toList ∧ Below w.heap.size w w' := by
  go_enter Tryz.func140, Tryz.ntmps140
  go_wp2
  go_loopw [3, 4] (fun o i wr => ∃ (k : Nat) (t : ByteArray), k ≤ s.size ∧ i = .int .i64 k ∧ o = .string t ∧ t.data.toList = lowL (s.data.toList.take k) ∧ Below w.heap.size w wr) (fun _ i _ => s.size - (intOf i).toNat)
  case atStart => exact ⟨0, ⟨#[]⟩, Nat.zero_le _, rfl, rfl, rfl, Below.refl _ _⟩
  case round =>
    obtain ⟨k, t, hk, rfl, rfl, hf, hbw⟩ := hrel
    have htl : t.size = k := by rw [← size_len, hf]; simp [lowL]; omega
    have HF := Lib.hid hf
    clear hf
    by_cases hlt : k < s.size
    · have hcv := conv_one wr
      have hns := nums_size
      have hts : s.data.toList.take (k + 1) = s.data.toList.take k ++ [s[k]] := by rw [List.take_succ_eq_append_getElem (by simpa using hlt)]; rfl
      have HT := Lib.hid hts
      clear hts
      have hb := lowB_int s[k]
      have HB := Lib.hid hb
      clear hb
      go_wp2
      all_goals
        go_roundw
        case rel =>
          refine ⟨k + 1, _, by omega, by go_num, rfl, ?_, hbw.alloc hbw.size _⟩
          rw [app_list, HF.out, HT.out, nums_one]
          simp only [lowL, List.map_append, List.map_cons, List.map_nil]
          congr 2
          first | exact HB.out.1 (by omega) (by omega) | exact HB.out.2 (by omega)
        case measure => simp [intOf]; omega
    · go_wp2
      go_ret
      exact ⟨t, rfl, by rw [HF.out, List.take_of_length_le (by simp; omega)], hbw⟩
end Go.Proofs.YtjdhaacmlpegoaaGreatDoor

/- Plain laws: a text divided at a byte. -/
namespace Go.Proofs.YtjdhaacmlpegoaaGreatDoor
set_option linter.unusedVariables false
set_option linter.unusedSimpArgs false
open Go.RowKit

def segs (c : UInt8) : List UInt8 → List (List UInt8)
  | [] => [[]]
  | b :: l => if b == c then [] :: segs c l else match segs c l with
    | [] => [[b]]
    | p :: r => (b :: p) :: r
theorem segs_ne (c : UInt8) (l : List UInt8) : segs c l ≠ [] := by
  cases l with
  | nil => simp [segs]
  | cons b l => unfold segs; split
                · simp
                · split <;> simp
theorem segs_pre (c : UInt8) (r : List UInt8) : ∀ p : List UInt8, c ∉ p → segs c (p ++ c :: r) = p :: segs c r := by
  intro p
  induction p with
  | nil => intro _; simp [segs]
  | cons b p ih =>
    intro h
    have hb : (b == c) = false := by simp; intro e; exact h (by simp [e])
    rw [List.cons_append, segs, hb, ih (fun q => h (List.mem_cons_of_mem _ q))]
    rfl
theorem segs_one (c : UInt8) : ∀ p : List UInt8, c ∉ p → segs c p = [p] := by
  intro p
  induction p with
  | nil => intro _; rfl
  | cons b p ih =>
    intro h
    have hb : (b == c) = false := by simp; intro e; exact h (by simp [e])
    rw [segs, hb, ih (fun q => h (List.mem_cons_of_mem _ q))]
    rfl
theorem pre_not (c : UInt8) (l : List UInt8) : c ∉ pre c l := by
  unfold pre
  induction l with
  | nil => simp
  | cons b l ih =>
    rw [List.takeWhile_cons]
    split
    · next h => simp only [List.mem_cons, not_or]; exact ⟨fun e => by simp [e] at h, ih⟩
    · simp
theorem pre_post (c : UInt8) (l : List UInt8) (h : c ∈ l) : l = pre c l ++ c :: post c l := by
  unfold pre post
  induction l with
  | nil => cases h
  | cons b l ih =>
    by_cases hb : b = c
    · subst hb; simp
    · have : c ∈ l := by rcases List.mem_cons.1 h with h | h; exact absurd h.symm hb; exact h
      rw [List.takeWhile_cons, if_pos (by simpa using hb), List.dropWhile_cons, if_pos (by simpa using hb), List.cons_append, ← ih this]
theorem pre_all (c : UInt8) (l : List UInt8) (h : c ∉ l) : pre c l = l := by
  unfold pre
  induction l with
  | nil => rfl
  | cons b l ih =>
    have hb : b ≠ c := fun e => h (by simp [e])
    rw [List.takeWhile_cons, if_pos (by simpa using hb), ih (fun q => h (List.mem_cons_of_mem _ q))]
theorem post_none (c : UInt8) (l : List UInt8) (h : c ∉ l) : post c l = [] := by
  unfold post
  induction l with
  | nil => rfl
  | cons b l ih =>
    have hb : b ≠ c := fun e => h (by simp [e])
    rw [List.dropWhile_cons, if_pos (by simpa using hb)]
    exact ih (fun q => h (List.mem_cons_of_mem _ q))
/-- the first place of a byte -/
theorem indexByte_pre (c : UInt8) (l : List UInt8) : Lib.indexByte l c = if c ∈ l then ((pre c l).length : Int) else -1 := by
  induction l with
  | nil => simp [Lib.indexByte]
  | cons b l ih =>
    unfold Lib.indexByte
    by_cases hb : b = c
    · subst hb; simp [pre]
    · have hb2 : (b == c) = false := by simp [hb]
      rw [hb2, ih]
      by_cases hc : c ∈ l
      · have e : pre c (b :: l) = b :: pre c l := by unfold pre; rw [List.takeWhile_cons, if_pos (by simpa using hb)]
        rw [if_pos hc, if_pos (List.mem_cons_of_mem _ hc), e]
        have : ¬ ((((pre c l).length : Int) == -1) = true) := by rw [beq_iff_eq]; omega
        rw [if_neg this]
        simp
      · have hn : c ∉ b :: l := fun q => by rcases List.mem_cons.1 q with q | q; exact hb q.symm; exact hc q
        rw [if_neg hc, if_neg hn]
        simp
/-- Cut at a byte -/
theorem cut_eq (c : UInt8) (l : List UInt8) : Lib.cut l [c] = (pre c l, post c l, l.contains c) := by
  unfold Lib.cut
  rw [Lib.index_one, indexByte_pre]
  by_cases h : c ∈ l
  · have e := pre_post c l h
    have e1 : l.take (pre c l).length = pre c l := by
      have := congrArg (List.take (pre c l).length) e
      rw [this]; exact List.take_left' rfl
    have e2 : l.drop ((pre c l).length + 1) = post c l := by
      have := congrArg (List.drop ((pre c l).length + 1)) e
      rw [this, ← List.drop_drop, List.drop_left' rfl]; rfl
    rw [if_pos h, if_pos (by omega), Int.toNat_natCast, List.length_singleton, e1, e2]
    simp [h]
  · rw [if_neg h, if_neg (by omega), pre_all c l h, post_none c l h]
    simp [h]
end Go.Proofs.YtjdhaacmlpegoaaGreatDoor

/- Plain law: strings.Split at a byte. -/
namespace Go.Proofs.YtjdhaacmlpegoaaGreatDoor
set_option linter.unusedVariables false
set_option linter.unusedSimpArgs false
open Go.RowKit

theorem indexB_one (s : ByteArray) (c : UInt8) : Lib.indexB s ⟨#[c]⟩ = Lib.indexByte s.data.toList c := by
  rw [Lib.indexB]
  exact Lib.index_one _ _
theorem split_segs (c : UInt8) : ∀ (k : Nat) (s : ByteArray), Lib.countB s ⟨#[c]⟩ = k → (Lib.splitB ⟨#[c]⟩ 0 k s).map (·.data.toList) = segs c s.data.toList := by
  intro k
  induction k with
  | zero =>
    intro s h
    have hi := indexB_one s c
    rw [indexByte_pre] at hi
    by_cases hc : c ∈ s.data.toList
    · rw [if_pos hc] at hi
      have := Lib.countB_hit s ⟨#[c]⟩ _ (Nat.le_refl 1) hi
      omega
    · rw [Lib.splitB_zero, segs_one c _ hc]; rfl
  | succ k ih =>
    intro s h
    have hi := indexB_one s c
    rw [indexByte_pre] at hi
    by_cases hc : c ∈ s.data.toList
    · rw [if_pos hc] at hi
      have h1 := Lib.countB_hit s ⟨#[c]⟩ _ (Nat.le_refl 1) hi
      have hm : ¬ ((Lib.indexB s ⟨#[c]⟩ == -1) = true) := by rw [hi, beq_iff_eq]; omega
      rw [Lib.splitB, if_neg hm, hi, Int.toNat_natCast, List.map_cons]
      have e := pre_post c s.data.toList hc
      have z : (⟨#[c]⟩ : ByteArray).size = 1 := rfl
      rw [z] at h1 ⊢
      rw [ih _ (by omega)]
      have e1 : (s.extract 0 ((pre c s.data.toList).length + 0)).data.toList = pre c s.data.toList := by
        rw [Nat.add_zero, ext_from]
        have := congrArg (List.take (pre c s.data.toList).length) e
        rw [this]; exact List.take_left' rfl
      have e2 : (s.extract ((pre c s.data.toList).length + 1) s.size).data.toList = post c s.data.toList := by
        rw [ext_to]
        have := congrArg (List.drop ((pre c s.data.toList).length + 1)) e
        rw [this, ← List.drop_drop, List.drop_left' rfl]; rfl
      rw [e1, e2]
      have := congrArg (segs c) e
      rw [segs_pre c _ _ (pre_not c _)] at this
      exact this.symm
    · rw [if_neg hc] at hi
      have := Lib.countB_miss s ⟨#[c]⟩ hi
      omega
end Go.Proofs.YtjdhaacmlpegoaaGreatDoor

/- The walk of the reference's Segments. -/
namespace Go.Proofs.YtjdhaacmlpegoaaGreatDoor
set_option linter.unusedVariables false
set_option linter.unusedSimpArgs false
open Go.RowKit

theorem slS : SlTy Tryz.prog 75 9 1 16 := .mk' (z := .string ⟨#[]⟩) Tryz.underlying75 (by kernel_rfl) rfl (by decide)
def strsV (l : List ByteArray) : List Value := l.map Value.string
def lists (l : List ByteArray) : List (List UInt8) := l.map (·.data.toList)
theorem mid_drop (l : List UInt8) (a b : Nat) (h : a ≤ b) : l.drop a = (l.drop a).take (b - a) ++ l.drop b := by
  have := (List.take_append_drop (b - a) (l.drop a)).symm
  rwa [List.drop_drop, show a + (b - a) = b by omega] at this
set_option maxHeartbeats 1000000 in
set_option maxRecDepth 20000 in
theorem segments_any (s : ByteArray) (c : UInt8) (w : World) (hs : s.size ≤ 1000000) :
    Calls Tryz.prog 205 #[.string s, .int .u8 c.toNat] w fun e w' => ∃ v ps, e = .returned v ∧ w'.ownsRow w.heap.size 9 1 v ps.length (strsV ps) ∧ lists ps = segs c s.data.toList ∧ Below w.heap.size w w' := by
  obtain ⟨R, hR⟩ : ∃ R, segs c s.data.toList = R := ⟨_, rfl⟩
  rw [hR]
  have HR := Lib.hid hR
  clear hR
  go_enter Tryz.func205, Tryz.ntmps205
  go_wp2
  go_loopw [5, 6, 7] (fun v fv iv wr => ∃ (k fr : Nat) (ps : List ByteArray), fr ≤ k ∧ k ≤ s.size ∧ ps.length ≤ fr ∧ iv = .int .i64 k ∧ fv = .int .i64 fr ∧ wr.ownsRow w.heap.size 9 1 v ps.length (strsV ps) ∧ c ∉ (s.data.toList.drop fr).take (k - fr) ∧ lists ps ++ segs c (s.data.toList.drop fr) = R ∧ Below w.heap.size w wr) (fun _ _ iv _ => s.size - (intOf iv).toNat)
  case atStart => exact ⟨0, 0, [], Nat.le_refl _, Nat.zero_le _, Nat.le_refl _, rfl, rfl, World.ownsRow_nil _ _ _ _, by simp, HR.out, Below.refl _ _⟩
  case round =>
    obtain ⟨k, fr, ps, hfk, hk, hpl, rfl, rfl, hown, hnot, hps, hbw⟩ := hrel
    have HN := Lib.hid hnot
    have HP := Lib.hid hps
    clear hnot hps
    have hwz := hbw.size
    by_cases hlt : k < s.size
    · have hd := drop_at s k hlt
      have hmid := mid_drop s.data.toList fr k hfk
      by_cases hc : s[k] = c
      · have hci : ((s[k].toNat : Int) == c.toNat) = true := by rw [hc]; simp
        have hseg : segs c (s.data.toList.drop fr) = (s.extract fr k).data.toList :: segs c (s.data.toList.drop (k + 1)) := by
          rw [ext_list]
          have := congrArg (segs c) hmid
          rw [hd, hc, segs_pre c _ _ HN.out] at this
          exact this
        have HS := Lib.hid hseg
        clear hseg hd hmid hc
        go_wp2_with (refine app2 slS _ rfl (.tmp 19) (.tmp 24) rfl w.heap.size _ _ _ rfl hown [_] 1 _ rfl rfl rfl (by intro u hu; simp at hu; subst hu; rfl) (by decide) (by omega) (by omega) hwz ?_; intro v2 w2 hA gA fA; have hB2 := below_own hbw hown gA hwz (Nat.le_refl _))
        go_roundw
        case rel => exact ⟨k + 1, k + 1, ps ++ [s.extract fr k], Nat.le_refl _, by omega, by simp; omega, by go_num, by go_num, by simpa [strsV] using hA, by simp, by rw [← HP.out, HS.out]; simp [lists], hB2⟩
        case measure => simp [intOf]; omega
      · have hci : ((s[k].toNat : Int) == c.toNat) = false := by
          rw [beq_eq_false_iff_ne]; exact fun e => hc (UInt8.toNat_inj.1 (by omega))
        have hn2 : c ∉ (s.data.toList.drop fr).take (k + 1 - fr) := by
          have e : (s.data.toList.drop fr).take (k + 1 - fr) = (s.data.toList.drop fr).take (k - fr) ++ [s[k]] := by
            rw [show k + 1 - fr = (k - fr) + 1 by omega, List.take_succ_eq_append_getElem (by simp; omega)]
            congr 2
            rw [List.getElem_drop]
            simp only [show fr + (k - fr) = k by omega]
            rfl
          rw [e]
          simp only [List.mem_append, List.mem_singleton, not_or]
          exact ⟨HN.out, fun q => hc q.symm⟩
        have HN2 := Lib.hid hn2
        clear hn2 hd hmid hc
        go_wp2_with fail
        go_roundw
        case rel => exact ⟨k + 1, fr, ps, by omega, by omega, hpl, by go_num, rfl, hown, HN2.out, HP.out, hbw⟩
        case measure => simp [intOf]; omega
    · have hseg : segs c (s.data.toList.drop fr) = [(s.extract fr s.size).data.toList] := by
        rw [ext_to]
        have hn := HN.out
        rw [List.take_of_length_le (by simp; omega)] at hn
        exact segs_one c _ hn
      have HS := Lib.hid hseg
      clear hseg
      go_wp2_with (refine app2 slS _ rfl (.tmp 28) (.tmp 32) rfl w.heap.size _ _ _ rfl hown [_] 1 _ rfl rfl rfl (by intro u hu; simp at hu; subst hu; rfl) (by decide) (by omega) (by omega) hwz ?_; intro v2 w2 hA gA fA; have hB2 := below_own hbw hown gA hwz (Nat.le_refl _))
      go_ret
      exact ⟨_, ps ++ [s.extract fr s.size], rfl, by simpa [strsV] using hA, by rw [← HP.out, HS.out]; simp [lists], hB2⟩
end Go.Proofs.YtjdhaacmlpegoaaGreatDoor

/- Texts: small letters in place; a byte changed. -/
namespace Go.Proofs.YtjdhaacmlpegoaaGreatDoor
set_option linter.unusedVariables false
set_option linter.unusedSimpArgs false
open Go.RowKit

/-- a block of the call's own whose first cells are bytes that may be written -/
structure BytesAt (w : World) (b : Nat) (l : List UInt8) : Prop where
  cell : ∀ j (h : j < l.length), w.cell? ⟨b, j, none⟩ = some (.int .u8 (l[j].toNat : Int))
  free : ∀ j, j < l.length → w.frozen? ⟨b, j, none⟩ = false
  lt : b < w.heap.size
theorem conv_bytes (w : World) (s : ByteArray) : ∃ cap w', (convert 9 68 (.string s)).run Tryz.prog w = .ok (.slice (some ⟨w.heap.size, 0, none⟩) s.size cap) w' ∧ BytesAt w' w.heap.size s.data.toList ∧ Below w.heap.size w w' := by
  refine ⟨_, _, Lib.run_convert_string_bytes w 9 68 5 s Tryz.underlying9 Tryz.underlying68 Tryz.underlying5, ⟨fun j h => ?_, fun j h => ?_, ?_⟩, ?_⟩
  · rw [Lib.bytesWorld_cell w 5 s j (by simpa using h), List.getD_eq_getElem?_getD, List.getElem?_eq_getElem h]; rfl
  · unfold World.frozen?
    rw [Lib.bytesWorld_at_new]
    have : s.size ≤ (Lib.bytesCells w 5 s).size := by simp [Lib.bytesCells]
    simp at h ⊢
    omega
  · rw [Lib.bytesWorld_size]; omega
  · exact ⟨rfl, rfl, rfl, by rw [Lib.bytesWorld_size]; omega, fun k hk => Lib.bytesWorld_at_old w 5 s k hk⟩
theorem BytesAt.set {w : World} {b : Nat} {l : List UInt8} (h : BytesAt w b l) (k : Nat) (hk : k < l.length) (x : UInt8) : BytesAt (w.setCell ⟨b, k, none⟩ (.int .u8 (x.toNat : Int))) b (l.set k x) := by
  refine ⟨fun j hj => ?_, fun j hj => ?_, by simpa using h.lt⟩
  · have hj' : j < l.length := by simpa using hj
    by_cases e : j = k
    · subst e
      rw [World.cell?_setCell_same _ _ _ (h.cell j hj')]
      simp
    · have := h.cell j hj'
      have hne : k ≠ j := fun q => e q.symm
      rw [World.cell?_setCell_other _ _ _ _ (by simp [hne]), this]
      simp [hne]
  · have hj' : j < l.length := by simpa using hj
    have := h.free j hj'
    simpa using this
set_option maxRecDepth 20000 in
theorem lower_any (s : ByteArray) (w : World) (hs : s.size ≤ 1000000) :
    Calls Tryz.prog 66 #[.string s] w fun e w' => ∃ t : ByteArray, e = .returned (.string t) ∧ t.data.toList = lowL s.data.toList ∧ Below w.heap.size w w' := by
  obtain ⟨cap, w1, hcv, hby, hb1⟩ := conv_bytes w s
  go_enter Tryz.func66, Tryz.ntmps66
  go_wp2
  go_loopw [10] (fun iv wr => ∃ (k : Nat), k ≤ s.size ∧ iv = .int .i64 k ∧ BytesAt wr w.heap.size (lowL (s.data.toList.take k) ++ s.data.toList.drop k) ∧ Below w.heap.size w wr) (fun iv _ => s.size - (intOf iv).toNat)
  case atStart => exact ⟨0, Nat.zero_le _, rfl, hby, hb1⟩
  case round =>
    obtain ⟨k, hk, rfl, hbl, hbw⟩ := hrel
    clear hby hb1 hcv
    by_cases hlt : k < s.size
    · have hd := drop_at s k hlt
      have hll : (lowL (s.data.toList.take k)).length = k := by simp [lowL]; omega
      obtain ⟨P, hP⟩ : ∃ P, lowL (s.data.toList.take k) = P := ⟨_, rfl⟩
      rw [hd, hP] at hbl
      rw [hP] at hll
      have c0 := hbl.cell k (by simp; omega)
      have f0 := hbl.free k (by simp; omega)
      rw [List.getElem_append_right (by omega)] at c0
      simp only [hll, Nat.sub_self, List.getElem_cons_zero] at c0
      have hlt2 := hbl.lt
      have hts : s.data.toList.take (k + 1) = s.data.toList.take k ++ [s[k]] := by rw [List.take_succ_eq_append_getElem (by simpa using hlt)]; rfl
      have hn : lowL (s.data.toList.take (k + 1)) = P ++ [lowB s[k]] := by rw [hts, ← hP]; simp [lowL]
      have hset := hbl.set k (by simp; omega) (lowB s[k])
      rw [List.set_append_right _ _ (by omega), hll, Nat.sub_self, List.set_cons_zero] at hset
      have hb := lowB_int s[k]
      have HB := Lib.hid hb
      have HN := Lib.hid hn
      have HS := Lib.hid hset
      have HBL := Lib.hid hbl
      clear hb hn hset hbl hd hP hts
      have hkk : (k : Int) < (s.size : Int) := by omega
      go_wp2
      · go_roundw
        case rel =>
          refine ⟨k + 1, by omega, by go_num, ?_, hbw.setCell (Nat.le_refl _) _⟩
          rw [HN.out, List.append_assoc, List.singleton_append]
          have e := HB.out.1 (by omega) (by omega)
          have e2 : ((lowB s[k]).toNat : Int) = (s[k].toNat : Int) + 97 - 65 := by
            rw [← e, show ((s[k].toNat : Int) + 32).toNat = s[k].toNat + 32 by omega, UInt8.toNat_ofNat']
            omega
          have := HS.out
          rwa [e2] at this
        case measure => simp [intOf]; omega
      all_goals
        go_roundw
        case rel =>
          refine ⟨k + 1, by omega, by go_num, ?_, hbw⟩
          have e := HB.out.2 (by omega)
          rw [byte_ofNat] at e
          rw [HN.out, List.append_assoc, List.singleton_append, ← e]
          exact HBL.out
        case measure => simp [intOf]; omega
    · rw [drop_end s k (by omega), List.append_nil, List.take_of_length_le (by simp; omega)] at hbl
      have hcv2 := run_convert_bytes_back (P := Tryz.prog) wr 68 9 5 ⟨w.heap.size, 0, none⟩ cap (lowL s.data.toList) Tryz.underlying68 Tryz.underlying5 Tryz.underlying9 (fun j hj => by rw [show (⟨w.heap.size, 0, none⟩ : Addr).add j = ⟨w.heap.size, j, none⟩ by cases j <;> simp [Addr.add]]; exact hbl.cell j hj)
      have hll : (lowL s.data.toList).length = s.size := by simp [lowL]
      obtain ⟨t, ht⟩ : ∃ t : ByteArray, (⟨(lowL s.data.toList).toArray⟩ : ByteArray) = t := ⟨_, rfl⟩
      rw [hll, ht] at hcv2
      have ht2 : t.data.toList = lowL s.data.toList := by rw [← ht]
      have HT2 := Lib.hid ht2
      clear hbl hll ht ht2
      go_wp2
      go_ret
      exact ⟨t, rfl, HT2.out, hbw⟩
end Go.Proofs.YtjdhaacmlpegoaaGreatDoor

/- Cookies: domains and paths, in both packages. -/
namespace Go.Proofs.YtjdhaacmlpegoaaGreatDoor
set_option linter.unusedVariables false
set_option linter.unusedSimpArgs false
open Go.RowKit

def numB (b : UInt8) : Bool := digitB b || b == 46
def numericL (l : List UInt8) : Bool := l.all numB
/-- a host belongs to a domain -/
def domL (h d : List UInt8) : Bool := !d.isEmpty && (h == d || (Lib.hasSuffix h (46 :: d) && !numericL h))
/-- a path belongs to a prefix -/
def pathL (p q : List UInt8) : Bool := p == q || (Lib.hasPrefix p q && (Lib.hasSuffix q [47] || (p.drop q.length).head? == some 47))
def befL (l : List UInt8) : List UInt8 := ((l.reverse.dropWhile (· != 47)).drop 1).reverse
/-- the part before the last slash -/
def defpL (l : List UInt8) : List UInt8 := if l.head? ≠ some 47 ∨ befL l = [] then [47] else befL l

theorem suf_iff (s t : ByteArray) (h : t.size ≤ s.size) : ((s.extract (s.size - t.size) s.size).toList == t.toList) = Lib.hasSuffix s.data.toList t.data.toList := by
  rw [ByteArray.toList_eq, ByteArray.toList_eq, ext_to, Lib.hasSuffix, Bool.eq_iff_iff, beq_iff_eq, List.isSuffixOf_iff_suffix, List.suffix_iff_eq_drop]
  rw [size_len, size_len]
  exact ⟨fun e => e.symm, fun e => e.symm⟩
theorem suf_short (s t : ByteArray) (h : ¬ t.size ≤ s.size) : Lib.hasSuffix s.data.toList t.data.toList = false := by
  rw [Lib.hasSuffix, Bool.eq_false_iff, ne_eq, List.isSuffixOf_iff_suffix]
  intro e
  have := e.length_le
  rw [size_len, size_len] at this
  omega
theorem pre_iff (s t : ByteArray) : ((s.extract 0 t.size).toList == t.toList) = Lib.hasPrefix s.data.toList t.data.toList := by
  rw [ByteArray.toList_eq, ByteArray.toList_eq, ext_from, Lib.hasPrefix, Bool.eq_iff_iff, beq_iff_eq, List.isPrefixOf_iff_prefix, List.prefix_iff_eq_take]
  rw [size_len]
  exact ⟨fun e => e.symm, fun e => e.symm⟩
theorem pre_short (s t : ByteArray) (h : ¬ t.size ≤ s.size) : Lib.hasPrefix s.data.toList t.data.toList = false := by
  rw [Lib.hasPrefix, Bool.eq_false_iff, ne_eq, List.isPrefixOf_iff_prefix]
  intro e
  have := e.length_le
  rw [size_len, size_len] at this
  omega
theorem endsb_any (s t : ByteArray) (w : World) (hs : s.size ≤ 1000000) (ht : t.size ≤ 1000001) :
    Calls Tryz.prog 251 #[.string s, .string t] w fun e w' => e = .returned (.bool (Lib.hasSuffix s.data.toList t.data.toList)) ∧ w = w' := by
  by_cases h : t.size ≤ s.size
  · have H := Lib.hid (suf_iff s t h)
    obtain ⟨R, hR⟩ : ∃ R, Lib.hasSuffix s.data.toList t.data.toList = R := ⟨_, rfl⟩
    rw [hR] at H ⊢
    have hle : (t.size : Int) ≤ s.size := by omega
    clear hR
    go_enter Tryz.func251, Tryz.ntmps251
    go_wp2_with fail
    go_ret
    exact ⟨ret_bool H.out, rfl⟩
  · rw [suf_short s t h]
    have hle : ¬ (t.size : Int) ≤ s.size := by omega
    go_enter Tryz.func251, Tryz.ntmps251
    go_wp2_with fail
    go_ret
    exact ⟨rfl, rfl⟩
theorem ends_any (s t : ByteArray) (w : World) (hs : s.size ≤ 1000000) (ht : t.size ≤ 1000000) :
    Calls Tryz.prog 251 #[.string s, .string t] w fun e w' => e = .returned (.bool (Lib.hasSuffix s.data.toList t.data.toList)) ∧ w = w' := endsb_any s t w hs (by omega)
theorem starts_any (s t : ByteArray) (w : World) (hs : s.size ≤ 1000000) (ht : t.size ≤ 1000000) :
    Calls Tryz.prog 217 #[.string s, .string t] w fun e w' => e = .returned (.bool (Lib.hasPrefix s.data.toList t.data.toList)) ∧ w = w' := by
  by_cases h : t.size ≤ s.size
  · have H := Lib.hid (pre_iff s t)
    obtain ⟨R, hR⟩ : ∃ R, Lib.hasPrefix s.data.toList t.data.toList = R := ⟨_, rfl⟩
    rw [hR] at H ⊢
    have hle : (t.size : Int) ≤ s.size := by omega
    clear hR
    go_enter Tryz.func217, Tryz.ntmps217
    go_wp2_with fail
    go_ret
    exact ⟨ret_bool H.out, rfl⟩
  · rw [pre_short s t h]
    have hle : ¬ (t.size : Int) ≤ s.size := by omega
    go_enter Tryz.func217, Tryz.ntmps217
    go_wp2_with fail
    go_ret
    exact ⟨rfl, rfl⟩
theorem numeric_any (s : ByteArray) (w : World) (hs : s.size ≤ 1000000) :
    Calls Tryz.prog 252 #[.string s] w fun e w' => e = .returned (.bool (numericL s.data.toList)) ∧ w = w' := by
  obtain ⟨R, hR⟩ : ∃ R, numericL s.data.toList = R := ⟨_, rfl⟩
  rw [hR]
  have HR := Lib.hid hR
  clear hR
  go_enter Tryz.func252, Tryz.ntmps252
  go_wp2
  go_loop [3] (fun i => ∃ k : Nat, k ≤ s.size ∧ i = .int .i64 k ∧ numericL (s.data.toList.drop k) = R) (fun i => s.size - (intOf i).toNat)
  case atStart => exact ⟨0, Nat.zero_le _, rfl, HR.out⟩
  case round =>
    obtain ⟨k, hk, rfl, hf⟩ := hrel
    by_cases hlt : k < s.size
    · rw [drop_at s k hlt, numericL, List.all_cons] at hf
      have hn : numB s[k] = (digitI s[k].toNat || ((s[k].toNat : Int) == 46)) := by
        unfold numB digitB
        congr 1
        rw [Bool.eq_iff_iff, beq_iff_eq, beq_iff_eq]
        exact ⟨fun e => by rw [e]; rfl, fun e => UInt8.toNat_inj.1 (by have : (46 : UInt8).toNat = 46 := rfl; omega)⟩
      have HN := Lib.hid hn
      have HF := Lib.hid hf
      clear hf hn
      by_cases hc : (s[k].toNat : Int) = 46
      · have hcb : ((s[k].toNat : Int) == 46) = true := beq_iff_eq.2 hc
        have hcc : ((s[k].toNat : Int) != 46) = false := by simp [hc]
        clear hc
        go_wp2_with (go_at_call 144; refine (rdigit_any _ _).mono ?_; rintro e w' ⟨rfl, rfl⟩)
        all_goals
          go_round
          case rel => exact ⟨k + 1, by omega, by go_num, by rw [← HF.out, HN.out, hcb]; simp [numericL]⟩
          case measure => simp [intOf]; omega
      · have hcb : ((s[k].toNat : Int) == 46) = false := beq_eq_false_iff_ne.2 hc
        have hcc : ((s[k].toNat : Int) != 46) = true := by simp [hc]
        clear hc
        obtain ⟨D, hD⟩ : ∃ D, digitI s[k].toNat = D := ⟨_, rfl⟩
        have cD := fun w => rdigit_any (s[k].toNat : Int) w
        rw [hD] at cD
        have CD := Lib.hid cD
        have HD := Lib.hid hD
        clear cD hD
        cases D
        · go_wp2_with (go_at_call 144; with_reducible refine (CD.out _).mono ?_; rintro e w' ⟨rfl, rfl⟩)
          go_ret
          exact ⟨ret_bool (by rw [← HF.out, HN.out, hcb, HD.out]; rfl), rfl⟩
        · go_wp2_with (go_at_call 144; with_reducible refine (CD.out _).mono ?_; rintro e w' ⟨rfl, rfl⟩)
          go_round
          case rel => exact ⟨k + 1, by omega, by go_num, by rw [← HF.out, HN.out, HD.out]; simp [numericL]⟩
          case measure => simp [intOf]; omega
    · rw [drop_end s k (by omega)] at hf
      have HF := Lib.hid hf
      clear hf
      go_wp2
      go_ret
      exact ⟨ret_bool (by rw [← HF.out]; rfl), rfl⟩
abbrev numCut : ByteArray := ⟨#[48, 49, 50, 51, 52, 53, 54, 55, 56, 57, 46]⟩
theorem trimcs_any (s cs : ByteArray) (w : World) (hs : s.size ≤ 1000000) (hcs : cs.size ≤ 1000) (ha : cs.data.toList.all (fun b => decide (b.toNat < 128)) = true) :
    Calls Tryz.prog 134 #[.string s, .string cs] w fun e w' => e = .returned (.string ⟨(Lib.trimS s.data.toList cs.data.toList).toArray⟩) ∧ Below w.heap.size w w' :=
  Any.strings_Trim_laid Tryz.lays160 (by kernel_rfl) s cs w (by omega) (by omega) (ascii_of_all ha)
theorem dropW_nil {p : UInt8 → Bool} (l : List UInt8) : l.dropWhile p = [] ↔ l.all p = true := by
  induction l with
  | nil => simp
  | cons b l ih =>
    rw [List.dropWhile_cons, List.all_cons]
    cases h : p b with
    | true => simp [ih]
    | false => simp
theorem trimS_nil (l cs : List UInt8) : Lib.trimS l cs = [] ↔ l.all (cs.contains ·) = true := by
  unfold Lib.trimS Lib.trimLeftS Lib.trimRightS
  rw [dropW_nil, List.all_reverse]
  constructor
  · intro h
    have h2 : l.reverse.dropWhile (cs.contains ·) = [] := by
      cases e : l.reverse.dropWhile (cs.contains ·) with
      | nil => rfl
      | cons b r =>
        have := List.head?_dropWhile_not (p := (cs.contains ·)) (l := l.reverse)
        rw [e] at this h
        simp at this h
        exact absurd h.1 this
    rw [dropW_nil, List.all_reverse] at h2
    exact h2
  · intro h
    have : l.reverse.dropWhile (cs.contains ·) = [] := by rw [dropW_nil, List.all_reverse]; exact h
    rw [this]; rfl
theorem numB_in : ∀ b : UInt8, numCut.data.toList.contains b = numB b := by
  have : ∀ n : Fin 256, numCut.data.toList.contains (UInt8.ofNat n.1) = numB (UInt8.ofNat n.1) := by decide +kernel
  intro b
  have h := this ⟨b.toNat, b.toNat_lt⟩
  simpa using h
theorem trimS_num (l : List UInt8) : (Lib.trimS l numCut.data.toList).isEmpty = numericL l := by
  rw [Bool.eq_iff_iff, List.isEmpty_iff, trimS_nil]
  unfold numericL
  rw [show (fun b => numCut.data.toList.contains b) = numB from funext numB_in]
end Go.Proofs.YtjdhaacmlpegoaaGreatDoor

/- Cookies: DomainMatches, PathMatches, DefaultPath: the walks, in both packages. -/
namespace Go.Proofs.YtjdhaacmlpegoaaGreatDoor
set_option linter.unusedVariables false
set_option linter.unusedSimpArgs false
open Go.RowKit

theorem dot_app (d : ByteArray) : ((⟨#[46]⟩ : ByteArray) ++ d).data.toList = 46 :: d.data.toList := by rw [app_list]; rfl
theorem domL_nil (h : List UInt8) : domL h [] = false := rfl
theorem domL_ne (h d : List UInt8) (hd : d ≠ []) : domL h d = (h == d || (Lib.hasSuffix h (46 :: d) && !numericL h)) := by
  unfold domL
  cases d with
  | nil => exact absurd rfl hd
  | cons b r => rfl
theorem list_ne' {s : ByteArray} (h : ¬ s.size = 0) : s.data.toList ≠ [] := fun e => h (by rw [← size_len, e]; rfl)
theorem list_nil' {s : ByteArray} (h : s.size = 0) : s.data.toList = [] := List.eq_nil_of_length_eq_zero (by rw [size_len]; exact h)
theorem beq_lists (a b : ByteArray) : (a.toList == b.toList) = (a.data.toList == b.data.toList) := by rw [ByteArray.toList_eq, ByteArray.toList_eq]
set_option maxRecDepth 20000 in
theorem dom_any (h d : ByteArray) (w : World) (hh : h.size ≤ 1000000) (hd : d.size ≤ 1000000) :
    Calls Tryz.prog 83 #[.string h, .string d] w fun e w' => e = .returned (.bool (domL h.data.toList d.data.toList)) ∧ Below w.heap.size w w' := by
  by_cases h0 : d.size = 0
  · rw [list_nil' h0, domL_nil]
    have hE := empty_of d h0
    clear h0
    go_enter Tryz.func83, Tryz.ntmps83
    go_wp2_with fail
    go_ret
    exact ⟨rfl, Below.refl _ _⟩
  · have hE := nonempty_of d (by omega)
    rw [domL_ne _ _ (list_ne' h0), ← beq_lists]
    obtain ⟨A, hA⟩ : ∃ A, (h.toList == d.toList) = A := ⟨_, rfl⟩
    have cS := fun w => Tryz.strings_HasSuffix h (⟨#[46]⟩ ++ d) w (by omega)
    rw [dot_app] at cS
    obtain ⟨S, hS⟩ : ∃ S, Lib.hasSuffix h.data.toList (46 :: d.data.toList) = S := ⟨_, rfl⟩
    have cT := fun w => trimcs_any h numCut w hh (by decide) (by decide)
    obtain ⟨T, hT⟩ : ∃ T : ByteArray, ⟨(Lib.trimS h.data.toList numCut.data.toList).toArray⟩ = T := ⟨_, rfl⟩
    have hN := trimS_num h.data.toList
    have hTl : T.toList = Lib.trimS h.data.toList numCut.data.toList := by rw [ByteArray.toList_eq, ← hT]
    rw [← hTl] at hN
    obtain ⟨N, hN2⟩ : ∃ N, numericL h.data.toList = N := ⟨_, rfl⟩
    rw [hS, hN2, hA]
    rw [hS] at cS
    rw [hT] at cT
    rw [hN2] at hN
    have CS := Lib.hid cS
    have CT := Lib.hid cT
    clear cS cT hT hTl hS hN2 h0
    cases A
    · cases S
      · go_enter Tryz.func83, Tryz.ntmps83
        go_wp2_with (go_at_call 133; with_reducible refine (CS.out _).mono ?_; rintro e w' ⟨rfl, rfl⟩)
        go_ret
        exact ⟨rfl, Below.refl _ _⟩
      · cases N
        all_goals
          go_enter Tryz.func83, Tryz.ntmps83
          go_wp2_with (first | (go_at_call 133; with_reducible refine (CS.out _).mono ?_; rintro e w' ⟨rfl, rfl⟩) | (go_at_call 134; with_reducible refine (CT.out _).mono ?_; rintro e w1 ⟨rfl, hb1⟩))
          go_ret
          exact ⟨rfl, hb1⟩
    · go_enter Tryz.func83, Tryz.ntmps83
      go_wp2_with fail
      go_ret
      exact ⟨rfl, Below.refl _ _⟩
set_option maxRecDepth 20000 in
theorem rdomq_any (h d : ByteArray) (w : World) (hh : h.size ≤ 1000000) (hd : d.size ≤ 1000000) :
    Calls Tryz.prog 210 #[.string h, .string d] w fun e w' => e = .returned (.bool (domL h.data.toList d.data.toList)) ∧ w = w' := by
  by_cases h0 : d.size = 0
  · rw [list_nil' h0, domL_nil]
    have hE := empty_of d h0
    clear h0
    go_enter Tryz.func210, Tryz.ntmps210
    go_wp2_with fail
    go_ret
    exact ⟨rfl, rfl⟩
  · have hE := nonempty_of d (by omega)
    rw [domL_ne _ _ (list_ne' h0), ← beq_lists]
    obtain ⟨A, hA⟩ : ∃ A, (h.toList == d.toList) = A := ⟨_, rfl⟩
    have cS := fun w => endsb_any h (⟨#[46]⟩ ++ d) w hh (by rw [ByteArray.size_append]; have : (⟨#[46]⟩ : ByteArray).size = 1 := rfl; omega)
    rw [dot_app] at cS
    obtain ⟨S, hS⟩ : ∃ S, Lib.hasSuffix h.data.toList (46 :: d.data.toList) = S := ⟨_, rfl⟩
    have cT := fun w => numeric_any h w hh
    obtain ⟨N, hN2⟩ : ∃ N, numericL h.data.toList = N := ⟨_, rfl⟩
    rw [hS, hN2, hA]
    rw [hS] at cS
    rw [hN2] at cT
    have CS := Lib.hid cS
    have CT := Lib.hid cT
    clear cS cT hS hN2 h0
    cases A
    · cases S
      · go_enter Tryz.func210, Tryz.ntmps210
        go_wp2_with (go_at_call 251; with_reducible refine (CS.out _).mono ?_; rintro e w' ⟨rfl, rfl⟩)
        go_ret
        exact ⟨rfl, rfl⟩
      · cases N
        all_goals
          go_enter Tryz.func210, Tryz.ntmps210
          go_wp2_with (first | (go_at_call 251; with_reducible refine (CS.out _).mono ?_; rintro e w' ⟨rfl, rfl⟩) | (go_at_call 252; with_reducible refine (CT.out _).mono ?_; rintro e w' ⟨rfl, rfl⟩))
          go_ret
          exact ⟨rfl, rfl⟩
    · go_enter Tryz.func210, Tryz.ntmps210
      go_wp2_with fail
      go_ret
      exact ⟨rfl, rfl⟩

/-! PathMatches -/
theorem pathL_eq (p : List UInt8) : pathL p p = true := by simp [pathL]
theorem pathL_ne (p q : List UInt8) (h : p ≠ q) : pathL p q = (Lib.hasPrefix p q && (Lib.hasSuffix q [47] || (p.drop q.length).head? == some 47)) := by
  unfold pathL
  rw [beq_eq_false_iff_ne.2 h]; rfl
theorem ba_ext' {a b : ByteArray} (h : a.data.toList = b.data.toList) : a = b := by
  cases a; cases b; congr 1; exact Array.toList_inj.1 h
theorem hasPrefix_drop {p q : List UInt8} (h : Lib.hasPrefix p q = true) : p = q ++ p.drop q.length := by
  unfold Lib.hasPrefix at h
  rw [List.isPrefixOf_iff_prefix] at h
  obtain ⟨r, rfl⟩ := h
  simp
theorem path_len {p q : ByteArray} (h : Lib.hasPrefix p.data.toList q.data.toList = true) (hne : p.data.toList ≠ q.data.toList) : q.size < p.size := by
  have h1 := hasPrefix_drop h
  have h2 := congrArg List.length h1
  rw [List.length_append, size_len, size_len] at h2
  rcases Nat.lt_or_ge q.size p.size with h3 | h3
  · exact h3
  · exfalso
    apply hne
    rw [h1, List.eq_nil_of_length_eq_zero (l := p.data.toList.drop q.data.toList.length) (by rw [List.length_drop, size_len, size_len]; omega), List.append_nil]
theorem head_drop (p : ByteArray) (n : Nat) (h : n < p.size) : ((p.data.toList.drop n).head? == some 47) = ((p[n].toNat : Int) == 47) := by
  rw [drop_at p n h]
  simp only [List.head?_cons]
  rw [Bool.eq_iff_iff, beq_iff_eq, beq_iff_eq, Option.some_inj]
  exact ⟨fun e => by rw [e]; rfl, fun e => UInt8.toNat_inj.1 (by have : (47 : UInt8).toNat = 47 := rfl; omega)⟩
set_option maxRecDepth 20000 in
theorem rpath_any (p q : ByteArray) (w : World) (hp : p.size ≤ 1000000) (hq : q.size ≤ 1000000) :
    Calls Tryz.prog 211 #[.string p, .string q] w fun e w' => e = .returned (.bool (pathL p.data.toList q.data.toList)) ∧ w = w' := by
  by_cases h0 : p.data.toList = q.data.toList
  · obtain rfl := ba_ext' h0
    rw [pathL_eq]
    clear h0
    go_enter Tryz.func211, Tryz.ntmps211
    go_wp2_with fail
    go_ret
    exact ⟨rfl, rfl⟩
  · rw [pathL_ne _ _ h0]
    have hE : (p.toList == q.toList) = false := by rw [beq_lists]; exact beq_eq_false_iff_ne.2 h0
    have cP := fun w => starts_any p q w hp hq
    have cS := fun w => ends_any q ⟨#[47]⟩ w hq (by decide)
    obtain ⟨A, hA⟩ : ∃ A, Lib.hasPrefix p.data.toList q.data.toList = A := ⟨_, rfl⟩
    obtain ⟨B, hB⟩ : ∃ B, Lib.hasSuffix q.data.toList [47] = B := ⟨_, rfl⟩
    rw [show (⟨#[47]⟩ : ByteArray).data.toList = [47] from rfl, hB] at cS
    rw [hA] at cP
    rw [hA, hB]
    have CS := Lib.hid cS
    have CP := Lib.hid cP
    clear cS cP
    cases A
    · clear hA hB h0
      go_enter Tryz.func211, Tryz.ntmps211
      go_wp2_with (go_at_call 217; with_reducible refine (CP.out _).mono ?_; rintro e w' ⟨rfl, rfl⟩)
      go_ret
      exact ⟨rfl, rfl⟩
    · have hl := path_len hA h0
      have hh := head_drop p q.size hl
      rw [size_len, hh]
      have hli : (q.size : Int) < p.size := by omega
      clear hA hB h0 hh
      cases B
      all_goals
        go_enter Tryz.func211, Tryz.ntmps211
        go_wp2_with (first | (go_at_call 217; with_reducible refine (CP.out _).mono ?_; rintro e w' ⟨rfl, rfl⟩) | (go_at_call 251; with_reducible refine (CS.out _).mono ?_; rintro e w' ⟨rfl, rfl⟩))
        go_ret
        exact ⟨ret_bool (by simp), rfl⟩
set_option maxRecDepth 20000 in
theorem path_any (p q : ByteArray) (w : World) (hp : p.size ≤ 1000000) (hq : q.size ≤ 1000000) :
    Calls Tryz.prog 85 #[.string p, .string q] w fun e w' => e = .returned (.bool (pathL p.data.toList q.data.toList)) ∧ w = w' := by
  have cP := fun w => Tryz.strings_CutPrefix p q w
  have cS := fun w => Tryz.strings_HasSuffix q ⟨#[47]⟩ w (by omega)
  obtain ⟨T, hT⟩ : ∃ T : ByteArray, ⟨(Lib.trimPrefix p.data.toList q.data.toList).toArray⟩ = T := ⟨_, rfl⟩
  rw [hT] at cP
  by_cases h0 : p.data.toList = q.data.toList
  · obtain rfl := ba_ext' h0
    rw [pathL_eq]
    have h1 : Lib.hasPrefix p.data.toList p.data.toList = true := by unfold Lib.hasPrefix; rw [List.isPrefixOf_iff_prefix]; exact List.prefix_refl _
    have hE : T.toList.isEmpty = true := by
      rw [ByteArray.toList_eq, ← hT, List.isEmpty_iff]
      unfold Lib.trimPrefix
      rw [if_pos h1]; simp
    rw [h1] at cP
    have CP := Lib.hid cP
    clear cP h0 hT cS h1
    go_enter Tryz.func85, Tryz.ntmps85
    go_wp2_with (go_at_call 63; with_reducible refine (CP.out _).mono ?_; rintro e w' ⟨rfl, rfl⟩)
    go_ret
    exact ⟨rfl, rfl⟩
  · rw [pathL_ne _ _ h0]
    obtain ⟨A, hA⟩ : ∃ A, Lib.hasPrefix p.data.toList q.data.toList = A := ⟨_, rfl⟩
    obtain ⟨B, hB⟩ : ∃ B, Lib.hasSuffix q.data.toList [47] = B := ⟨_, rfl⟩
    rw [show (⟨#[47]⟩ : ByteArray).data.toList = [47] from rfl, hB] at cS
    rw [hA] at cP
    rw [hA, hB]
    have CS := Lib.hid cS
    have CP := Lib.hid cP
    clear cS cP
    cases A
    · clear hA hB h0 hT
      go_enter Tryz.func85, Tryz.ntmps85
      go_wp2_with (go_at_call 63; with_reducible refine (CP.out _).mono ?_; rintro e w' ⟨rfl, rfl⟩)
      go_ret
      exact ⟨rfl, rfl⟩
    · have hl := path_len hA h0
      have hTl : T.data.toList = p.data.toList.drop q.data.toList.length := by
        rw [← hT]; show (Lib.trimPrefix p.data.toList q.data.toList) = _
        unfold Lib.trimPrefix; rw [if_pos hA]
      have hTs : 0 < T.size := by rw [← size_len, hTl, List.length_drop, size_len, size_len]; omega
      have hE := nonempty_of T hTs
      have hh : ((p.data.toList.drop q.data.toList.length).head? == some 47) = ((T[0].toNat : Int) == 47) := by
        rw [← hTl]
        have := head_drop T 0 hTs
        rwa [List.drop_zero] at this
      rw [hh]
      have hTi : (0 : Int) < T.size := by omega
      clear hA hB h0 hh hT hTl
      cases B
      all_goals
        go_enter Tryz.func85, Tryz.ntmps85
        go_wp2_with (first | (go_at_call 63; with_reducible refine (CP.out _).mono ?_; rintro e w' ⟨rfl, rfl⟩) | (go_at_call 133; with_reducible refine (CS.out _).mono ?_; rintro e w' ⟨rfl, rfl⟩))
        go_ret
        exact ⟨ret_bool (by simp), rfl⟩

/-! DefaultPath -/
theorem bef_of (l : List UInt8) (i : Nat) (h : l[i]? = some 47) (hl : ∀ j, i < j → l[j]? ≠ some 47) : befL l = l.take i := by
  have hi : i < l.length := (List.getElem?_eq_some_iff.1 h).1
  have e : l = l.take i ++ 47 :: l.drop (i + 1) := by
    have := (List.getElem?_eq_some_iff.1 h).2
    rw [← this, ← List.drop_eq_getElem_cons hi, List.take_append_drop]
  have hn : ∀ b ∈ l.drop (i + 1), (b != 47) = true := fun b hb => by
    obtain ⟨j, hj, rfl⟩ := List.getElem_of_mem hb
    rw [List.getElem_drop, bne_iff_ne]
    intro e
    refine hl (i + 1 + j) (by omega) ?_
    rw [List.getElem?_eq_getElem (by rw [List.length_drop] at hj; omega), e]
  unfold befL
  conv => lhs; rw [e]
  rw [List.reverse_append, List.reverse_cons, List.append_assoc, List.dropWhile_append_of_pos (fun b hb => hn b (List.mem_reverse.1 hb))]
  simp
theorem bef_none (l : List UInt8) (hl : ∀ j : Nat, l[j]? ≠ some 47) : befL l = [] := by
  unfold befL
  have : l.reverse.dropWhile (· != 47) = [] := by
    rw [dropW_nil, List.all_reverse, List.all_eq_true]
    intro b hb
    obtain ⟨j, hj, rfl⟩ := List.getElem_of_mem hb
    rw [bne_iff_ne]
    intro e
    exact hl j (by rw [List.getElem?_eq_getElem hj, e])
  rw [this]; rfl
theorem at47 (s : ByteArray) (i : Nat) : s.data.toList[i]? = some 47 ↔ i < s.size ∧ ((s.data[i]!).toNat : Int) = 47 := by
  constructor
  · intro h
    have h1 := List.getElem?_eq_some_iff.1 h
    obtain ⟨h2, h3⟩ := h1
    have h4 : i < s.size := by rwa [size_len] at h2
    refine ⟨h4, ?_⟩
    rw [getElem!_pos s.data i h4]
    rw [Array.getElem_toList] at h3
    rw [h3]; rfl
  · rintro ⟨h1, h2⟩
    rw [List.getElem?_eq_getElem (by rw [size_len]; exact h1)]
    rw [getElem!_pos s.data i h1] at h2
    rw [Array.getElem_toList]
    congr 1
    exact UInt8.toNat_inj.1 (by have : (47 : UInt8).toNat = 47 := rfl; omega)
theorem last47 (s : ByteArray) : (Lib.lastIndexByte s 47 = -1 ∧ ∀ j : Nat, s.data.toList[j]? ≠ some 47) ∨ ∃ i : Nat, i < s.size ∧ Lib.lastIndexByte s 47 = i ∧ s.data.toList[i]? = some 47 ∧ ∀ j, i < j → s.data.toList[j]? ≠ some 47 := by
  rcases Lib.lastIndexByte_spec s 47 with ⟨h1, h2⟩ | ⟨i, h1, h2, h3, h4⟩
  · refine .inl ⟨h1, fun j hj => ?_⟩
    obtain ⟨a, b⟩ := (at47 s j).1 hj
    exact h2 j a b
  · refine .inr ⟨i, h1, h2, (at47 s i).2 ⟨h1, h3⟩, fun j hj hj2 => ?_⟩
    obtain ⟨a, b⟩ := (at47 s j).1 hj2
    exact h4 j hj a b
theorem head47 (s : ByteArray) (h : 0 < s.size) : s.data.toList.head? = some s[0] := by
  rw [← List.drop_zero (l := s.data.toList), drop_at s 0 h]; rfl
set_option maxRecDepth 20000 in
theorem defp_any (s : ByteArray) (w : World) (hs : s.size ≤ 1000000) :
    Calls Tryz.prog 172 #[.string s] w fun e w' => ∃ t : ByteArray, e = .returned (.string t) ∧ t.data.toList = defpL s.data.toList ∧ w = w' := by
  obtain ⟨R, hR⟩ : ∃ R, defpL s.data.toList = R := ⟨_, rfl⟩
  rw [hR]
  have cL := fun w => Tryz.strings_LastIndexByte s 47 (by omega) w
  rcases last47 s with ⟨h1, h2⟩ | ⟨i, h1, h2, h3, h4⟩
  · rw [h1] at cL
    have CL := Lib.hid cL
    have HR := Lib.hid (show [47] = R by
      rw [← hR]; unfold defpL; rw [bef_none _ h2, if_pos (Or.inr rfl)])
    clear cL h1 h2 hR
    go_enter Tryz.func172, Tryz.ntmps172
    go_wp2_with (go_at_call 236; with_reducible refine (CL.out _).mono ?_; rintro e w' ⟨rfl, rfl⟩)
    go_ret
    exact ⟨_, rfl, HR.out, rfl⟩
  · rw [h2] at cL
    have CL := Lib.hid cL
    have hb := bef_of _ i h3 h4
    have hp : (0 : Nat) < s.size := by omega
    have hpi : (0 : Int) < s.size := by omega
    have hhd := head47 s hp
    clear cL h2 h3 h4
    by_cases hi : i = 0
    · subst hi
      have HR := Lib.hid (show [47] = R by
        rw [← hR]; unfold defpL; rw [hb, if_pos (Or.inr (by simp))])
      clear hR hb hhd h1
      go_enter Tryz.func172, Tryz.ntmps172
      go_wp2_with (go_at_call 236; with_reducible refine (CL.out _).mono ?_; rintro e w' ⟨rfl, rfl⟩)
      go_ret
      exact ⟨_, rfl, HR.out, rfl⟩
    · have hii : (0 : Int) < (i : Int) := by omega
      have hne : s.data.toList.take i ≠ [] := fun e => by
        have := congrArg List.length e
        rw [List.length_take, size_len, List.length_nil] at this
        omega
      by_cases hz : (s[0].toNat : Int) = 47
      · have hz1 : ((s[0].toNat : Int) != 47) = false := by simp [hz]
        have HR := Lib.hid (show s.data.toList.take i = R by
          rw [← hR]; unfold defpL
          rw [hb, hhd, if_neg (by
            rintro (h | h)
            · exact h (by congr 1; exact UInt8.toNat_inj.1 (by have : (47 : UInt8).toNat = 47 := rfl; omega))
            · exact hne h)])
        clear hR hb hhd hz hi
        go_enter Tryz.func172, Tryz.ntmps172
        go_wp2_with (go_at_call 236; with_reducible refine (CL.out _).mono ?_; rintro e w' ⟨rfl, rfl⟩)
        go_ret
        exact ⟨_, rfl, by rw [← HR.out, ext_from], rfl⟩
      · have hz1 : ((s[0].toNat : Int) != 47) = true := by simp [hz]
        have HR := Lib.hid (show [47] = R by
          rw [← hR]; unfold defpL
          rw [hhd, if_pos (.inl (fun h => hz (by injection h with h; rw [h]; rfl)))])
        clear hR hb hhd hz hi
        go_enter Tryz.func172, Tryz.ntmps172
        go_wp2_with (go_at_call 236; with_reducible refine (CL.out _).mono ?_; rintro e w' ⟨rfl, rfl⟩)
        go_ret
        exact ⟨_, rfl, HR.out, rfl⟩
set_option maxRecDepth 20000 in
theorem rdefp_any (s : ByteArray) (w : World) (hs : s.size ≤ 1000000) :
    Calls Tryz.prog 213 #[.string s] w fun e w' => ∃ t : ByteArray, e = .returned (.string t) ∧ t.data.toList = defpL s.data.toList ∧ w = w' := by
  obtain ⟨R, hR⟩ : ∃ R, defpL s.data.toList = R := ⟨_, rfl⟩
  rw [hR]
  by_cases h0 : s.size = 0
  · have hE := empty_of s h0
    have HR := Lib.hid (show [47] = R by
      rw [← hR, list_nil' h0]; rfl)
    clear hR h0
    go_enter Tryz.func213, Tryz.ntmps213
    go_wp2_with fail
    go_ret
    exact ⟨_, rfl, HR.out, rfl⟩
  · have hE := nonempty_of s (by omega)
    have hp : (0 : Nat) < s.size := by omega
    have hpi : (0 : Int) < s.size := by omega
    have hhd := head47 s hp
    by_cases hz : (s[0].toNat : Int) = 47
    · have hz1 : ((s[0].toNat : Int) != 47) = false := by simp [hz]
      have hz47 : s.data.toList[0]? = some 47 := by
        rw [← List.head?_eq_getElem?, hhd]
        congr 1; exact UInt8.toNat_inj.1 (by have : (47 : UInt8).toNat = 47 := rfl; omega)
      rcases last47 s with ⟨h1, h2⟩ | ⟨i, h1, h2, h3, h4⟩
      · exact absurd hz47 (h2 0)
      · have hb := bef_of _ i h3 h4
        have hdf : R = if i = 0 then [47] else s.data.toList.take i := by
          rw [← hR]; unfold defpL
          rw [hb, List.head?_eq_getElem?, hz47]
          by_cases hi : i = 0
          · subst hi; simp
          · rw [if_neg hi, if_neg]
            rintro (h | h)
            · exact h rfl
            · have := congrArg List.length h
              rw [List.length_take, size_len, List.length_nil] at this
              omega
        have h47 := (at47 s i).1 h3
        have hnt : ∀ j, i < j → (h : j < s.size) → ¬ (s[j].toNat : Int) = 47 := fun j hj h e => h4 j hj ((at47 s j).2 ⟨h, by rw [getElem!_pos s.data j h]; exact e⟩)
        have hit : (s[i].toNat : Int) = 47 := by have := h47.2; rwa [getElem!_pos s.data i h1] at this
        have HDF := Lib.hid hdf
        have HNT := Lib.hid hnt
        have HIT := Lib.hid hit
        have hoi : ¬ (s.size : Int) - 1 < 0 := by omega
        clear hR hb hhd hz h2 h3 h4 hdf h47 hnt hit hz47 h0
        go_enter Tryz.func213, Tryz.ntmps213
        go_wp2_with fail
        go_loop [3] (fun v => ∃ k : Nat, i ≤ k ∧ k < s.size ∧ v = .int .i64 k) (fun v => (intOf v).toNat)
        case atStart => exact ⟨s.size - 1, by omega, by omega, by go_num⟩
        case round =>
          obtain ⟨k, hik, hk, rfl⟩ := hrel
          have hki : (k : Int) < s.size := by omega
          by_cases hke : k = i
          · subst hke
            have hc : (s[k].toNat : Int) = 47 := HIT.out
            have hcc : ((s[k].toNat : Int) != 47) = false := by simp [hc]
            clear hc
            by_cases hk0 : k = 0
            · subst hk0
              have HR2 := Lib.hid (show R = [47] by rw [HDF.out]; rfl)
              go_wp2_with fail
              go_ret
              exact ⟨_, rfl, HR2.out.symm, rfl⟩
            · have HR2 := Lib.hid (show R = s.data.toList.take k by rw [HDF.out, if_neg hk0])
              have hkb : ((k : Int) == 0) = false := by rw [beq_eq_false_iff_ne]; omega
              clear hk0
              go_wp2_with fail
              go_ret
              exact ⟨_, rfl, by rw [HR2.out, ext_from], rfl⟩
          · have hc := HNT.out k (by omega) hk
            have hcc : ((s[k].toNat : Int) != 47) = true := by simp [hc]
            clear hc
            go_wp2_with fail
            go_round
            case rel => exact ⟨k - 1, by omega, by omega, by go_num⟩
            case measure => simp [intOf]; omega
    · have hz1 : ((s[0].toNat : Int) != 47) = true := by simp [hz]
      have HR := Lib.hid (show [47] = R by
        rw [← hR]; unfold defpL
        rw [hhd, if_pos (.inl (fun h => hz (by injection h with h; rw [h]; rfl)))])
      clear hR hhd hz h0
      go_enter Tryz.func213, Tryz.ntmps213
      go_wp2_with fail
      go_ret
      exact ⟨_, rfl, HR.out, rfl⟩
end Go.Proofs.YtjdhaacmlpegoaaGreatDoor

/- The walk of Clean: what it needs of rows of strings; plain functions. -/
namespace Go.Proofs.YtjdhaacmlpegoaaGreatDoor
set_option linter.unusedVariables false
set_option linter.unusedSimpArgs false
open Go.RowKit

def kstep (acc : List (List UInt8)) (p : List UInt8) : List (List UInt8) := if p = [46, 46] then acc.dropLast else if p = [46] then acc else acc ++ [p]
def isDot (p : List UInt8) : Bool := p == [46] || p == [46, 46]
/-- what is kept of the first k segments; behind the last one, an empty one where that was a dot -/
def kpt (l : List (List UInt8)) (k : Nat) : List (List UInt8) := (l.take k).foldl kstep [] ++ (if k = l.length ∧ (l.getLast?.map isDot).getD false = true then [[]] else [])
def keptL (l : List (List UInt8)) : List (List UInt8) := kpt l l.length
theorem kpt_zero (l : List (List UInt8)) : kpt l 0 = [] := by
  unfold kpt
  cases l with
  | nil => rfl
  | cons a b => simp
theorem kpt_fold (l : List (List UInt8)) (k : Nat) (h : k < l.length) : kpt l k = (l.take k).foldl kstep [] := by
  unfold kpt
  rw [if_neg (by omega), List.append_nil]
theorem kpt_succ (l : List (List UInt8)) (k : Nat) (h : k < l.length) : kpt l (k + 1) = kstep (kpt l k) l[k] ++ (if k + 1 = l.length ∧ isDot l[k] = true then [[]] else []) := by
  rw [kpt_fold l k h, kpt, List.take_succ_eq_append_getElem h, List.foldl_append]
  congr 1
  by_cases hk : k + 1 = l.length
  · have : l.getLast? = some l[k] := by rw [List.getLast?_eq_getElem?, show l.length - 1 = k by omega, List.getElem?_eq_getElem h]
    rw [this]; rfl
  · simp [hk]
theorem kstep_mem (acc : List (List UInt8)) (p x : List UInt8) (h : x ∈ kstep acc p) : x ∈ acc ∨ x = p := by
  unfold kstep at h
  split at h
  · exact .inl (List.dropLast_subset _ h)
  · split at h
    · exact .inl h
    · simpa using h
theorem fold_mem (l : List (List UInt8)) : ∀ (acc : List (List UInt8)) (x : List UInt8), x ∈ l.foldl kstep acc → x ∈ acc ∨ x ∈ l := by
  induction l with
  | nil => intro acc x h; exact .inl h
  | cons p r ih =>
    intro acc x h
    rcases ih _ x h with h | h
    · rcases kstep_mem _ _ _ h with h | h
      · exact .inl h
      · exact .inr (by simp [h])
    · exact .inr (List.mem_cons_of_mem _ h)
theorem kpt_mem (l : List (List UInt8)) (k : Nat) (x : List UInt8) (h : x ∈ kpt l k) : x = [] ∨ x ∈ l := by
  unfold kpt at h
  rcases List.mem_append.1 h with h | h
  · rcases fold_mem _ _ _ h with h | h
    · cases h
    · exact .inr (List.mem_of_mem_take h)
  · split at h
    · exact .inl (by simpa using h)
    · cases h
theorem segs_len (c : UInt8) (l : List UInt8) : ∀ p ∈ segs c l, p.length ≤ l.length := by
  induction l with
  | nil => intro p h; simp [segs] at h; simp [h]
  | cons b l ih =>
    intro p h
    unfold segs at h
    split at h
    · rcases List.mem_cons.1 h with rfl | h
      · simp
      · have := ih p h; simp; omega
    · split at h
      · next e => exact absurd e (segs_ne c l)
      · next q r e =>
        rcases List.mem_cons.1 h with rfl | h
        · have := ih q (by simp [e]); simp; omega
        · have := ih p (by simp [e, h]); simp; omega
theorem join_len (N : Nat) : ∀ xs : List (List UInt8), (∀ x ∈ xs, x.length ≤ N) → (Lib.join xs [47]).length ≤ xs.length * (N + 1) := by
  intro xs
  induction xs with
  | nil => intro _; simp [Lib.join_nil]
  | cons x r ih =>
    intro h
    have hx := h x List.mem_cons_self
    have := ih fun y hy => h y (List.mem_cons_of_mem _ hy)
    cases r with
    | nil => rw [Lib.join_one]; simp; omega
    | cons y r =>
      have e : Lib.join (x :: y :: r) [47] = x ++ 47 :: Lib.join (y :: r) [47] := by simp [Lib.join, List.intercalate]
      have hl : (x :: y :: r).length = (y :: r).length + 1 := rfl
      rw [e, List.length_append, List.length_cons, hl, Nat.add_mul]
      omega
def outL (k : List (List UInt8)) : List UInt8 := (k.map (47 :: ·)).flatten
/-- without an empty first one -/
def tailE (l : List (List UInt8)) : List (List UInt8) := if l.head? = some [] then l.tail else l
theorem out_join : ∀ xs : List (List UInt8), xs ≠ [] → 47 :: Lib.join xs [47] = outL xs := by
  intro xs
  induction xs with
  | nil => intro h; exact absurd rfl h
  | cons x r ih =>
    intro _
    cases r with
    | nil => rw [Lib.join_one]; simp [outL]
    | cons y r =>
      have e : Lib.join (x :: y :: r) [47] = x ++ 47 :: Lib.join (y :: r) [47] := by simp [Lib.join, List.intercalate]
      rw [e, ih (by simp)]
      simp [outL]
def cleanL (l : List UInt8) : List UInt8 := if keptL (tailE (segs 47 l)) = [] then [47] else outL (keptL (tailE (segs 47 l)))
theorem own_shape {w : World} {b e n : Nat} {v : Value} {xs : List Value} (h : w.ownsRow b e 1 v n xs) : (v = .slice none 0 0 ∧ n = 0 ∧ xs = []) ∨ ∃ g cap, v = .slice (some ⟨g, 0, none⟩) n cap ∧ n ≤ cap ∧ cap ≤ maxLen := by
  rcases h.2 with ⟨rfl, rfl⟩ | ⟨g, cap, cur, rfl, hbg, hg, hnc, hcm, hcs, htake⟩
  · exact .inl ⟨rfl, rfl, List.eq_nil_of_length_eq_zero (by simpa using h.1)⟩
  · exact .inr ⟨g, cap, rfl, hnc, hcm⟩
theorem own_shrink {w : World} {b e n g cap : Nat} {xs : List Value} (h : w.ownsRow b e 1 (.slice (some ⟨g, 0, none⟩) n cap) n xs) (m : Nat) (hm : m ≤ n) : w.ownsRow b e 1 (.slice (some ⟨g, 0, none⟩) m cap) m (xs.take m) := by
  have h1 := h.1
  rcases h.2 with ⟨h0, _⟩ | ⟨g', cap', cur, hv, hbg, hg, hnc, hcm, hcs, htake⟩
  · cases h0
  · cases hv
    refine ⟨by rw [List.length_take]; omega, .inr ⟨g, cap, cur, rfl, hbg, hg, by omega, hcm, hcs, ?_⟩⟩
    rw [← htake]
    simp [List.take_take, Nat.min_eq_left hm]
end Go.Proofs.YtjdhaacmlpegoaaGreatDoor

/- The walk of Clean. -/
namespace Go.Proofs.YtjdhaacmlpegoaaGreatDoor
set_option linter.unusedVariables false
set_option linter.unusedSimpArgs false
open Go.RowKit

/-- internal/bytealg.MaxLen holds a number -/
def MaxAt (w : World) : Prop := ∃ m, w.cell? ⟨0, 0, none⟩ = some (.int .i64 m)
theorem cell_lt {w : World} {b o : Nat} {v : Value} (h : w.cell? ⟨b, o, none⟩ = some v) : b < w.heap.size := by
  unfold World.cell? at h
  rcases Nat.lt_or_ge b w.heap.size with h1 | h1
  · exact h1
  · simp [Array.getElem?_eq_none h1] at h
theorem MaxAt.below {w w' : World} {B : Nat} (h : MaxAt w) (hb : Below B w w') (hB : w.heap.size ≤ B) : MaxAt w' := by
  obtain ⟨m, hm⟩ := h
  exact ⟨m, (hb.cell (p := ⟨0, 0, none⟩) (Nat.lt_of_lt_of_le (cell_lt hm) hB)).trans hm⟩
theorem toList_ne {p : ByteArray} {a : Array UInt8} (h : ¬ p = ⟨a⟩) : p.data.toList ≠ a.toList := fun e => h (by cases p; congr 1; exact Array.toList_inj.1 e)
theorem kstep_other (acc : List (List UInt8)) (p : ByteArray) (h1 : ¬ p = ⟨#[46, 46]⟩) (h2 : ¬ p = ⟨#[46]⟩) : kstep acc p.data.toList = acc ++ [p.data.toList] := by
  rw [kstep, if_neg (toList_ne h1), if_neg (toList_ne h2)]
theorem notDot (p : ByteArray) (h1 : ¬ p = ⟨#[46, 46]⟩) (h2 : ¬ p = ⟨#[46]⟩) : isDot p.data.toList = false := by
  have a := toList_ne h1
  have b := toList_ne h2
  unfold isDot
  rw [Bool.or_eq_false_iff]
  exact ⟨by rw [beq_eq_false_iff_ne]; exact b, by rw [beq_eq_false_iff_ne]; exact a⟩
theorem segs_count (c : UInt8) (l : List UInt8) : (segs c l).length ≤ l.length + 1 := by
  induction l with
  | nil => simp [segs]
  | cons b l ih =>
    unfold segs
    split
    · simp; omega
    · split
      · simp
      · next q r e => rw [e] at ih; simp at ih ⊢; omega
set_option maxRecDepth 20000 in
set_option maxHeartbeats 2000000 in
theorem cleanA (s : ByteArray) (w : World) (p0 : ByteArray) (ps : List ByteArray) (hlen : ps.length ≤ 1000000) (hq : ∀ p ∈ lists ps, p.length ≤ 1000000) (hE : p0.toList.isEmpty = true) (hne : ps≠[])
    (cS : Calls Tryz.prog 115 #[.string s, .string ⟨#[47]⟩] w fun e w' => e = .returned (.slice (some ⟨w.heap.size, 0, none⟩) (p0 :: ps).length (p0 :: ps).length) ∧ w' = w.alloc (.cells ((p0 :: ps).map Value.string).toArray 9)) :
    Calls Tryz.prog 67 #[.string s] w fun e w' => ∃ t : ByteArray, e = .returned (.string t) ∧ t.data.toList = (if keptL (lists ps) = [] then [47] else outL (keptL (lists ps))) ∧ Below w.heap.size w w' := by
  have S := Lib.hid cS
  have HQ := Lib.hid hq
  obtain ⟨R, hR⟩ : ∃ R, (if keptL (lists ps) = [] then [47] else outL (keptL (lists ps))) = R := ⟨_, rfl⟩
  rw [hR]
  have HR := Lib.hid hR
  clear cS hq hR
  go_enter Tryz.func67, Tryz.ntmps67
  go_wp2_with (go_at_call 115; with_reducible refine S.out.mono ?_; rintro e w1 ⟨rfl, rfl⟩)
  obtain ⟨wA, hwA⟩ : ∃ wA, w.alloc (.cells ((p0 :: ps).map Value.string).toArray 9) = wA := ⟨_, rfl⟩
  have hA : wA.heap.size = w.heap.size + 1 := by rw [← hwA]; simp
  have hAB : Below w.heap.size w wA := by rw [← hwA]; exact (Below.refl _ w).alloc (Nat.le_refl _) _
  have hcell : ∀ j (h : j < (ps).length), wA.cell? ⟨w.heap.size, 1 + j, none⟩ = some (.string (ps)[j]) := fun j h => by
    rw [← hwA]
    have := cells_new w ((p0 :: ps).map Value.string) 9 (1 + j) (.string (ps)[j]) (by first | (rw [Nat.zero_add, List.getElem?_map, List.getElem?_eq_getElem h]; rfl) | (rw [Nat.add_comm, List.map_cons, List.getElem?_cons_succ, List.getElem?_map, List.getElem?_eq_getElem h]; rfl))
    rwa [show (⟨w.heap.size, 0, none⟩ : Addr).add (1 + j) = ⟨w.heap.size, 1 + j, none⟩ by unfold Addr.add; split <;> simp_all] at this
  simp only [List.map_cons] at hwA
  rw [hwA]
  clear hwA
  have hB1 : w.heap.size + 1 ≤ wA.heap.size := by omega
  go_loopw [4, 17] (fun v iv wr => ∃ (k : Nat) (ks : List ByteArray), k ≤ (ps).length ∧ iv = .int .i64 k ∧ wr.ownsRow (w.heap.size + 1) 9 1 v ks.length (strsV ks) ∧ lists ks = kpt (lists ps) k ∧ ks.length ≤ k + 1 ∧ Below (w.heap.size + 1) wA wr) (fun _ iv _ => (ps).length - (intOf iv).toNat)
  case atStart => exact ⟨0, [], Nat.zero_le _, rfl, World.ownsRow_nil _ _ _ _, by rw [kpt_zero]; rfl, Nat.zero_le _, Below.refl _ _⟩
  case round =>
    obtain ⟨k, ks, hk, rfl, hown, hks, hkl, hbw⟩ := hrel
    have hwz := hbw.size
    by_cases hlt : k < (ps).length
    · have c0 := (hbw.cell (p := ⟨w.heap.size, 1 + k, none⟩) (Nat.lt_succ_self _)).trans (hcell k hlt)
      obtain ⟨p, hp⟩ : ∃ p, (ps)[k] = p := ⟨_, rfl⟩
      have hsu := kpt_succ (lists ps) k (by simpa [lists] using hlt)
      have hpe : (lists ps)[k]'(by simpa [lists] using hlt) = p.data.toList := by simp only [lists, List.getElem_map, hp]
      have hll : (lists ps).length = (ps).length := by simp [lists]
      rw [hpe, ← hks, hll] at hsu
      rw [hp] at c0
      have HS := Lib.hid hsu
      have HK := Lib.hid hks
      clear hsu hpe hp hll hks
      by_cases hl : k + 1 = (ps).length
      · have hlb : ((k : Int) == ((ps.length:Int)-1)) = true := by (try simp only [List.length_cons] at hl ⊢); rw [beq_iff_eq]; omega
        try simp only [List.length_cons, Nat.zero_add] at hlt c0 hk hl
        by_cases h1 : p = ⟨#[46, 46]⟩
        · subst h1
          have KN : kpt (lists ps) (k + 1) = (lists ks).dropLast ++ [[]] := by rw [HS.out, if_pos ⟨hl, rfl⟩]; rfl
          have HN := Lib.hid KN
          clear KN HS
          rcases own_shape hown with ⟨rfl, hk0, hx0⟩ | ⟨g, cap, rfl, hcap, hcm⟩
          · obtain rfl : ks = [] := List.eq_nil_of_length_eq_zero hk0
            have hm0 : (max (-1 : Int) 0).toNat = 0 := by decide
            have hown2 : wr.ownsRow (w.heap.size + 1) 9 1 (.slice none 0 0) 0 [] := World.ownsRow_nil _ _ _ _
            go_wp2_with (refine app2 slS _ rfl (.tmp 42) (.tmp 43) rfl (w.heap.size + 1) _ _ _ rfl hown2 [_] 1 _ rfl rfl rfl (by intro u hu; simp at hu; subst hu; rfl) (by decide) (by omega) (by omega) (by omega) ?_; intro v2 w2 hA2 gA fA; have hB2 := below_own hbw hown2 gA (by omega) (by omega))
            go_roundw
            case rel => exact ⟨k + 1, [⟨#[]⟩], by (try simp only [List.length_cons]); omega, by go_num, hA2, by rw [HN.out]; rfl, by simp, hB2⟩
            case measure => simp [intOf]; omega
          · have hm0 : (max ((ks.length : Int) - 1) 0).toNat = ks.length - 1 := by omega
            have hown2 := own_shrink hown (ks.length - 1) (by omega)
            go_wp2_with (refine app2 slS _ rfl (.tmp 42) (.tmp 43) rfl (w.heap.size + 1) _ _ _ rfl hown2 [_] 1 _ rfl rfl rfl (by intro u hu; simp at hu; subst hu; rfl) (by decide) (by omega) (by omega) (by omega) ?_; intro v2 w2 hA2 gA fA; have hB2 := below_own hbw hown2 gA (by omega) (by omega))
            go_roundw
            case rel => exact ⟨k + 1, ks.dropLast ++ [⟨#[]⟩], by (try simp only [List.length_cons]); omega, by go_num, by rw [List.dropLast_eq_take]; simpa [strsV] using hA2, by rw [HN.out]; simp [lists], by simp; omega, hB2⟩
            case measure => simp [intOf]; omega
        · have h1b : (p.toList == [46, 46]) = false := by rw [beq_eq_false_iff_ne, ByteArray.toList_eq]; exact toList_ne h1
          by_cases h2 : p = ⟨#[46]⟩
          · subst h2
            have KN : kpt (lists ps) (k + 1) = lists ks ++ [[]] := by rw [HS.out, if_pos ⟨hl, rfl⟩]; rfl
            have HN := Lib.hid KN
            clear KN HS
            go_wp2_with (refine app2 slS _ rfl (.tmp 42) (.tmp 43) rfl (w.heap.size + 1) _ _ _ rfl hown [_] 1 _ rfl rfl rfl (by intro u hu; simp at hu; subst hu; rfl) (by decide) (by omega) (by omega) (by omega) ?_; intro v2 w2 hA2 gA fA; have hB2 := below_own hbw hown gA (by omega) (by omega))
            go_roundw
            case rel => exact ⟨k + 1, ks ++ [⟨#[]⟩], by (try simp only [List.length_cons]); omega, by go_num, by simpa [strsV] using hA2, by rw [HN.out]; simp [lists], by simp; omega, hB2⟩
            case measure => simp [intOf]; omega
          · have h2b : (p.toList == [46]) = false := by rw [beq_eq_false_iff_ne, ByteArray.toList_eq]; exact toList_ne h2
            have KN : kpt (lists ps) (k + 1) = lists ks ++ [p.data.toList] := by rw [HS.out, kstep_other _ _ h1 h2, notDot _ h1 h2]; simp
            have HN := Lib.hid KN
            clear KN HS
            go_wp2_with (refine app2 slS _ rfl (.tmp 23) (.tmp 25) rfl (w.heap.size + 1) _ _ _ rfl hown [_] 1 _ rfl rfl rfl (by intro u hu; simp at hu; subst hu; rfl) (by decide) (by omega) (by omega) (by omega) ?_; intro v2 w2 hA2 gA fA; have hB2 := below_own hbw hown gA (by omega) (by omega))
            go_roundw
            case rel => exact ⟨k + 1, ks ++ [p], by (try simp only [List.length_cons]); omega, by go_num, by simpa [strsV] using hA2, by rw [HN.out]; simp [lists], by simp; omega, hB2⟩
            case measure => simp [intOf]; omega
      · have hlb : ((k : Int) == ((ps.length:Int)-1)) = false := by (try simp only [List.length_cons] at hl hlt ⊢); rw [beq_eq_false_iff_ne]; omega
        try simp only [List.length_cons, Nat.zero_add] at hlt c0 hk hl
        by_cases h1 : p = ⟨#[46, 46]⟩
        · subst h1
          have KN : kpt (lists ps) (k + 1) = (lists ks).dropLast := by rw [HS.out, if_neg fun h => hl h.1, List.append_nil]; rfl
          have HN := Lib.hid KN
          clear KN HS
          rcases own_shape hown with ⟨rfl, hk0, hx0⟩ | ⟨g, cap, rfl, hcap, hcm⟩
          · obtain rfl : ks = [] := List.eq_nil_of_length_eq_zero hk0
            have hm0 : (max (-1 : Int) 0).toNat = 0 := by decide
            go_wp2_with fail
            go_roundw
            case rel => exact ⟨k + 1, [], by (try simp only [List.length_cons]); omega, by go_num, World.ownsRow_nil _ _ _ _, by rw [HN.out]; rfl, by simp, hbw⟩
            case measure => simp [intOf]; omega
          · have hm0 : (max ((ks.length : Int) - 1) 0).toNat = ks.length - 1 := by omega
            have hown2 := own_shrink hown (ks.length - 1) (by omega)
            go_wp2_with fail
            go_roundw
            case rel => exact ⟨k + 1, ks.dropLast, by (try simp only [List.length_cons]); omega, by go_num, by rw [List.dropLast_eq_take]; simpa [strsV] using hown2, by rw [HN.out]; simp [lists], by simp; omega, hbw⟩
            case measure => simp [intOf]; omega
        · have h1b : (p.toList == [46, 46]) = false := by rw [beq_eq_false_iff_ne, ByteArray.toList_eq]; exact toList_ne h1
          by_cases h2 : p = ⟨#[46]⟩
          · subst h2
            have KN : kpt (lists ps) (k + 1) = lists ks := by rw [HS.out, if_neg fun h => hl h.1, List.append_nil]; rfl
            have HN := Lib.hid KN
            clear KN HS
            go_wp2_with fail
            go_roundw
            case rel => exact ⟨k + 1, ks, by (try simp only [List.length_cons]); omega, by go_num, hown, by rw [HN.out], by omega, hbw⟩
            case measure => simp [intOf]; omega
          · have h2b : (p.toList == [46]) = false := by rw [beq_eq_false_iff_ne, ByteArray.toList_eq]; exact toList_ne h2
            have KN : kpt (lists ps) (k + 1) = lists ks ++ [p.data.toList] := by rw [HS.out, kstep_other _ _ h1 h2, notDot _ h1 h2]; simp
            have HN := Lib.hid KN
            clear KN HS
            go_wp2_with (refine app2 slS _ rfl (.tmp 23) (.tmp 25) rfl (w.heap.size + 1) _ _ _ rfl hown [_] 1 _ rfl rfl rfl (by intro u hu; simp at hu; subst hu; rfl) (by decide) (by omega) (by omega) (by omega) ?_; intro v2 w2 hA2 gA fA; have hB2 := below_own hbw hown gA (by omega) (by omega))
            go_roundw
            case rel => exact ⟨k + 1, ks ++ [p], by (try simp only [List.length_cons]); omega, by go_num, by simpa [strsV] using hA2, by rw [HN.out]; simp [lists], by simp; omega, hB2⟩
            case measure => simp [intOf]; omega
    · have hkk : k = (ps).length := by omega
      subst hkk
      have hK2 : lists ks = keptL (lists ps) := by rw [hks, keptL]; simp [lists]
      have hmem : ∀ x ∈ lists ks, x.length ≤ 1000000 := fun x hx => by
        rw [hK2] at hx
        rcases kpt_mem _ _ _ hx with rfl | h
        · simp
        · exact HQ.out x h
      have hR2 := HR.out
      rw [← hK2] at hR2
      have HM := Lib.hid hmem
      have HR2 := Lib.hid hR2
      obtain ⟨a, cap, rfl, hnc, hcm, hc⟩ := own_reads hown
      clear hks hK2 hmem hR2 hown
      have hbA : Below w.heap.size w wr := hAB.trans (hbw.mono (by omega))
      try simp only [List.length_cons] at hk hkl hlt
      by_cases h0 : ks.length = 0
      · obtain rfl : ks = [] := List.eq_nil_of_length_eq_zero h0
        go_wp2_with fail
        go_ret
        exact ⟨_, rfl, by rw [← HR2.out]; rfl, hbA⟩
      · rcases hc with ⟨rfl, h⟩ | ⟨g, rfl, hbg, hgs, hcl⟩
        · exact absurd h h0
        · have h0b : ((ks.length : Int) == 0) = false := by rw [beq_eq_false_iff_ne]; omega
          have hj : (Lib.join (ks.map (·.data.toList)) [47]).length ≤ 140737488355328 := by
            have := join_len 1000000 (lists ks) HM.out
            have h2 : (lists ks).length * (1000000 + 1) ≤ 1000002 * (1000000 + 1) := Nat.mul_le_mul_right _ (by simp [lists]; omega)
            exact Nat.le_trans this (by omega)
          have cJ := Tryz.strings_Join g 0 cap ks ⟨#[47]⟩ wr (fun j x hx => by have := hcl j (.string x) (by simp [strsV, hx]); simpa using this) hgs (by omega) hnc hj
          obtain ⟨J, hJ⟩ : ∃ J : ByteArray, ⟨(Lib.join (ks.map (·.data.toList)) [47]).toArray⟩ = J := ⟨_, rfl⟩
          have hJl : J.data.toList = Lib.join (lists ks) [47] := by rw [← hJ]; rfl
          have hJs : J.size ≤ 140737488355328 := by rw [← size_len, hJl]; exact hj
          have HJ := Lib.hid hJl
          replace cJ := Lib.hid (show Calls Tryz.prog 81 _ wr (fun e w' => e = .returned (.string J) ∧ Below wr.heap.size wr w') from hJ ▸ cJ)
          clear hJ hJl
          clear hcl hj
          go_wp2_with (go_at_call 81; with_reducible refine cJ.out.mono ?_; rintro e w2 ⟨rfl, hb2⟩)
          go_ret
          refine ⟨_, rfl, ?_, hbA.trans (hb2.mono hbA.size)⟩
          rw [← HR2.out, if_neg (fun h => h0 (by simpa [lists] using congrArg List.length h)), ← out_join _ (fun h => h0 (by simpa [lists] using congrArg List.length h)), app_list, HJ.out]
          rfl
set_option maxRecDepth 20000 in
set_option maxHeartbeats 2000000 in
theorem cleanB (s : ByteArray) (w : World) (p0 : ByteArray) (ps : List ByteArray) (hlen : ps.length ≤ 1000000) (hq : ∀ p ∈ lists (p0::ps), p.length ≤ 1000000) (hE : p0.toList.isEmpty = false) (hne : True)
    (cS : Calls Tryz.prog 115 #[.string s, .string ⟨#[47]⟩] w fun e w' => e = .returned (.slice (some ⟨w.heap.size, 0, none⟩) (p0 :: ps).length (p0 :: ps).length) ∧ w' = w.alloc (.cells ((p0 :: ps).map Value.string).toArray 9)) :
    Calls Tryz.prog 67 #[.string s] w fun e w' => ∃ t : ByteArray, e = .returned (.string t) ∧ t.data.toList = (if keptL (lists (p0::ps)) = [] then [47] else outL (keptL (lists (p0::ps)))) ∧ Below w.heap.size w w' := by
  have S := Lib.hid cS
  have HQ := Lib.hid hq
  obtain ⟨R, hR⟩ : ∃ R, (if keptL (lists (p0::ps)) = [] then [47] else outL (keptL (lists (p0::ps)))) = R := ⟨_, rfl⟩
  rw [hR]
  have HR := Lib.hid hR
  clear cS hq hR
  go_enter Tryz.func67, Tryz.ntmps67
  go_wp2_with (go_at_call 115; with_reducible refine S.out.mono ?_; rintro e w1 ⟨rfl, rfl⟩)
  obtain ⟨wA, hwA⟩ : ∃ wA, w.alloc (.cells ((p0 :: ps).map Value.string).toArray 9) = wA := ⟨_, rfl⟩
  have hA : wA.heap.size = w.heap.size + 1 := by rw [← hwA]; simp
  have hAB : Below w.heap.size w wA := by rw [← hwA]; exact (Below.refl _ w).alloc (Nat.le_refl _) _
  have hcell : ∀ j (h : j < ((p0::ps)).length), wA.cell? ⟨w.heap.size, 0 + j, none⟩ = some (.string ((p0::ps))[j]) := fun j h => by
    rw [← hwA]
    have := cells_new w ((p0 :: ps).map Value.string) 9 (0 + j) (.string ((p0::ps))[j]) (by first | (rw [Nat.zero_add, List.getElem?_map, List.getElem?_eq_getElem h]; rfl) | (rw [Nat.add_comm, List.map_cons, List.getElem?_cons_succ, List.getElem?_map, List.getElem?_eq_getElem h]; rfl))
    rwa [show (⟨w.heap.size, 0, none⟩ : Addr).add (0 + j) = ⟨w.heap.size, 0 + j, none⟩ by unfold Addr.add; split <;> simp_all] at this
  simp only [List.map_cons] at hwA
  rw [hwA]
  clear hwA
  have hB1 : w.heap.size + 1 ≤ wA.heap.size := by omega
  go_loopw [4, 17] (fun v iv wr => ∃ (k : Nat) (ks : List ByteArray), k ≤ ((p0::ps)).length ∧ iv = .int .i64 k ∧ wr.ownsRow (w.heap.size + 1) 9 1 v ks.length (strsV ks) ∧ lists ks = kpt (lists (p0::ps)) k ∧ ks.length ≤ k + 1 ∧ Below (w.heap.size + 1) wA wr) (fun _ iv _ => ((p0::ps)).length - (intOf iv).toNat)
  case atStart => exact ⟨0, [], Nat.zero_le _, rfl, World.ownsRow_nil _ _ _ _, by rw [kpt_zero]; rfl, Nat.zero_le _, Below.refl _ _⟩
  case round =>
    obtain ⟨k, ks, hk, rfl, hown, hks, hkl, hbw⟩ := hrel
    have hwz := hbw.size
    by_cases hlt : k < ((p0::ps)).length
    · have c0 := (hbw.cell (p := ⟨w.heap.size, 0 + k, none⟩) (Nat.lt_succ_self _)).trans (hcell k hlt)
      obtain ⟨p, hp⟩ : ∃ p, ((p0::ps))[k] = p := ⟨_, rfl⟩
      have hsu := kpt_succ (lists (p0::ps)) k (by simpa [lists] using hlt)
      have hpe : (lists (p0::ps))[k]'(by simpa [lists] using hlt) = p.data.toList := by simp only [lists, List.getElem_map, hp]
      have hll : (lists (p0::ps)).length = ((p0::ps)).length := by simp [lists]
      rw [hpe, ← hks, hll] at hsu
      rw [hp] at c0
      have HS := Lib.hid hsu
      have HK := Lib.hid hks
      clear hsu hpe hp hll hks
      by_cases hl : k + 1 = ((p0::ps)).length
      · have hlb : ((k : Int) == (ps.length:Int)) = true := by (try simp only [List.length_cons] at hl ⊢); rw [beq_iff_eq]; omega
        try simp only [List.length_cons, Nat.zero_add] at hlt c0 hk hl
        by_cases h1 : p = ⟨#[46, 46]⟩
        · subst h1
          have KN : kpt (lists (p0::ps)) (k + 1) = (lists ks).dropLast ++ [[]] := by rw [HS.out, if_pos ⟨hl, rfl⟩]; rfl
          have HN := Lib.hid KN
          clear KN HS
          rcases own_shape hown with ⟨rfl, hk0, hx0⟩ | ⟨g, cap, rfl, hcap, hcm⟩
          · obtain rfl : ks = [] := List.eq_nil_of_length_eq_zero hk0
            have hm0 : (max (-1 : Int) 0).toNat = 0 := by decide
            have hown2 : wr.ownsRow (w.heap.size + 1) 9 1 (.slice none 0 0) 0 [] := World.ownsRow_nil _ _ _ _
            go_wp2_with (refine app2 slS _ rfl (.tmp 42) (.tmp 43) rfl (w.heap.size + 1) _ _ _ rfl hown2 [_] 1 _ rfl rfl rfl (by intro u hu; simp at hu; subst hu; rfl) (by decide) (by omega) (by omega) (by omega) ?_; intro v2 w2 hA2 gA fA; have hB2 := below_own hbw hown2 gA (by omega) (by omega))
            go_roundw
            case rel => exact ⟨k + 1, [⟨#[]⟩], by (try simp only [List.length_cons]); omega, by go_num, hA2, by rw [HN.out]; rfl, by simp, hB2⟩
            case measure => simp [intOf]; omega
          · have hm0 : (max ((ks.length : Int) - 1) 0).toNat = ks.length - 1 := by omega
            have hown2 := own_shrink hown (ks.length - 1) (by omega)
            go_wp2_with (refine app2 slS _ rfl (.tmp 42) (.tmp 43) rfl (w.heap.size + 1) _ _ _ rfl hown2 [_] 1 _ rfl rfl rfl (by intro u hu; simp at hu; subst hu; rfl) (by decide) (by omega) (by omega) (by omega) ?_; intro v2 w2 hA2 gA fA; have hB2 := below_own hbw hown2 gA (by omega) (by omega))
            go_roundw
            case rel => exact ⟨k + 1, ks.dropLast ++ [⟨#[]⟩], by (try simp only [List.length_cons]); omega, by go_num, by rw [List.dropLast_eq_take]; simpa [strsV] using hA2, by rw [HN.out]; simp [lists], by simp; omega, hB2⟩
            case measure => simp [intOf]; omega
        · have h1b : (p.toList == [46, 46]) = false := by rw [beq_eq_false_iff_ne, ByteArray.toList_eq]; exact toList_ne h1
          by_cases h2 : p = ⟨#[46]⟩
          · subst h2
            have KN : kpt (lists (p0::ps)) (k + 1) = lists ks ++ [[]] := by rw [HS.out, if_pos ⟨hl, rfl⟩]; rfl
            have HN := Lib.hid KN
            clear KN HS
            go_wp2_with (refine app2 slS _ rfl (.tmp 42) (.tmp 43) rfl (w.heap.size + 1) _ _ _ rfl hown [_] 1 _ rfl rfl rfl (by intro u hu; simp at hu; subst hu; rfl) (by decide) (by omega) (by omega) (by omega) ?_; intro v2 w2 hA2 gA fA; have hB2 := below_own hbw hown gA (by omega) (by omega))
            go_roundw
            case rel => exact ⟨k + 1, ks ++ [⟨#[]⟩], by (try simp only [List.length_cons]); omega, by go_num, by simpa [strsV] using hA2, by rw [HN.out]; simp [lists], by simp; omega, hB2⟩
            case measure => simp [intOf]; omega
          · have h2b : (p.toList == [46]) = false := by rw [beq_eq_false_iff_ne, ByteArray.toList_eq]; exact toList_ne h2
            have KN : kpt (lists (p0::ps)) (k + 1) = lists ks ++ [p.data.toList] := by rw [HS.out, kstep_other _ _ h1 h2, notDot _ h1 h2]; simp
            have HN := Lib.hid KN
            clear KN HS
            go_wp2_with (refine app2 slS _ rfl (.tmp 23) (.tmp 25) rfl (w.heap.size + 1) _ _ _ rfl hown [_] 1 _ rfl rfl rfl (by intro u hu; simp at hu; subst hu; rfl) (by decide) (by omega) (by omega) (by omega) ?_; intro v2 w2 hA2 gA fA; have hB2 := below_own hbw hown gA (by omega) (by omega))
            go_roundw
            case rel => exact ⟨k + 1, ks ++ [p], by (try simp only [List.length_cons]); omega, by go_num, by simpa [strsV] using hA2, by rw [HN.out]; simp [lists], by simp; omega, hB2⟩
            case measure => simp [intOf]; omega
      · have hlb : ((k : Int) == (ps.length:Int)) = false := by (try simp only [List.length_cons] at hl hlt ⊢); rw [beq_eq_false_iff_ne]; omega
        try simp only [List.length_cons, Nat.zero_add] at hlt c0 hk hl
        by_cases h1 : p = ⟨#[46, 46]⟩
        · subst h1
          have KN : kpt (lists (p0::ps)) (k + 1) = (lists ks).dropLast := by rw [HS.out, if_neg fun h => hl h.1, List.append_nil]; rfl
          have HN := Lib.hid KN
          clear KN HS
          rcases own_shape hown with ⟨rfl, hk0, hx0⟩ | ⟨g, cap, rfl, hcap, hcm⟩
          · obtain rfl : ks = [] := List.eq_nil_of_length_eq_zero hk0
            have hm0 : (max (-1 : Int) 0).toNat = 0 := by decide
            go_wp2_with fail
            go_roundw
            case rel => exact ⟨k + 1, [], by (try simp only [List.length_cons]); omega, by go_num, World.ownsRow_nil _ _ _ _, by rw [HN.out]; rfl, by simp, hbw⟩
            case measure => simp [intOf]; omega
          · have hm0 : (max ((ks.length : Int) - 1) 0).toNat = ks.length - 1 := by omega
            have hown2 := own_shrink hown (ks.length - 1) (by omega)
            go_wp2_with fail
            go_roundw
            case rel => exact ⟨k + 1, ks.dropLast, by (try simp only [List.length_cons]); omega, by go_num, by rw [List.dropLast_eq_take]; simpa [strsV] using hown2, by rw [HN.out]; simp [lists], by simp; omega, hbw⟩
            case measure => simp [intOf]; omega
        · have h1b : (p.toList == [46, 46]) = false := by rw [beq_eq_false_iff_ne, ByteArray.toList_eq]; exact toList_ne h1
          by_cases h2 : p = ⟨#[46]⟩
          · subst h2
            have KN : kpt (lists (p0::ps)) (k + 1) = lists ks := by rw [HS.out, if_neg fun h => hl h.1, List.append_nil]; rfl
            have HN := Lib.hid KN
            clear KN HS
            go_wp2_with fail
            go_roundw
            case rel => exact ⟨k + 1, ks, by (try simp only [List.length_cons]); omega, by go_num, hown, by rw [HN.out], by omega, hbw⟩
            case measure => simp [intOf]; omega
          · have h2b : (p.toList == [46]) = false := by rw [beq_eq_false_iff_ne, ByteArray.toList_eq]; exact toList_ne h2
            have KN : kpt (lists (p0::ps)) (k + 1) = lists ks ++ [p.data.toList] := by rw [HS.out, kstep_other _ _ h1 h2, notDot _ h1 h2]; simp
            have HN := Lib.hid KN
            clear KN HS
            go_wp2_with (refine app2 slS _ rfl (.tmp 23) (.tmp 25) rfl (w.heap.size + 1) _ _ _ rfl hown [_] 1 _ rfl rfl rfl (by intro u hu; simp at hu; subst hu; rfl) (by decide) (by omega) (by omega) (by omega) ?_; intro v2 w2 hA2 gA fA; have hB2 := below_own hbw hown gA (by omega) (by omega))
            go_roundw
            case rel => exact ⟨k + 1, ks ++ [p], by (try simp only [List.length_cons]); omega, by go_num, by simpa [strsV] using hA2, by rw [HN.out]; simp [lists], by simp; omega, hB2⟩
            case measure => simp [intOf]; omega
    · have hkk : k = ((p0::ps)).length := by omega
      subst hkk
      have hK2 : lists ks = keptL (lists (p0::ps)) := by rw [hks, keptL]; simp [lists]
      have hmem : ∀ x ∈ lists ks, x.length ≤ 1000000 := fun x hx => by
        rw [hK2] at hx
        rcases kpt_mem _ _ _ hx with rfl | h
        · simp
        · exact HQ.out x h
      have hR2 := HR.out
      rw [← hK2] at hR2
      have HM := Lib.hid hmem
      have HR2 := Lib.hid hR2
      obtain ⟨a, cap, rfl, hnc, hcm, hc⟩ := own_reads hown
      clear hks hK2 hmem hR2 hown
      have hbA : Below w.heap.size w wr := hAB.trans (hbw.mono (by omega))
      try simp only [List.length_cons] at hk hkl hlt
      by_cases h0 : ks.length = 0
      · obtain rfl : ks = [] := List.eq_nil_of_length_eq_zero h0
        go_wp2_with fail
        go_ret
        exact ⟨_, rfl, by rw [← HR2.out]; rfl, hbA⟩
      · rcases hc with ⟨rfl, h⟩ | ⟨g, rfl, hbg, hgs, hcl⟩
        · exact absurd h h0
        · have h0b : ((ks.length : Int) == 0) = false := by rw [beq_eq_false_iff_ne]; omega
          have hj : (Lib.join (ks.map (·.data.toList)) [47]).length ≤ 140737488355328 := by
            have := join_len 1000000 (lists ks) HM.out
            have h2 : (lists ks).length * (1000000 + 1) ≤ 1000002 * (1000000 + 1) := Nat.mul_le_mul_right _ (by simp [lists]; omega)
            exact Nat.le_trans this (by omega)
          have cJ := Tryz.strings_Join g 0 cap ks ⟨#[47]⟩ wr (fun j x hx => by have := hcl j (.string x) (by simp [strsV, hx]); simpa using this) hgs (by omega) hnc hj
          obtain ⟨J, hJ⟩ : ∃ J : ByteArray, ⟨(Lib.join (ks.map (·.data.toList)) [47]).toArray⟩ = J := ⟨_, rfl⟩
          have hJl : J.data.toList = Lib.join (lists ks) [47] := by rw [← hJ]; rfl
          have hJs : J.size ≤ 140737488355328 := by rw [← size_len, hJl]; exact hj
          have HJ := Lib.hid hJl
          replace cJ := Lib.hid (show Calls Tryz.prog 81 _ wr (fun e w' => e = .returned (.string J) ∧ Below wr.heap.size wr w') from hJ ▸ cJ)
          clear hJ hJl
          clear hcl hj
          go_wp2_with (go_at_call 81; with_reducible refine cJ.out.mono ?_; rintro e w2 ⟨rfl, hb2⟩)
          go_ret
          refine ⟨_, rfl, ?_, hbA.trans (hb2.mono hbA.size)⟩
          rw [← HR2.out, if_neg (fun h => h0 (by simpa [lists] using congrArg List.length h)), ← out_join _ (fun h => h0 (by simpa [lists] using congrArg List.length h)), app_list, HJ.out]
          rfl
set_option maxRecDepth 20000 in
set_option maxHeartbeats 2000000 in
theorem cleanZ (s : ByteArray) (w : World) (p0 : ByteArray) (hE : p0.toList.isEmpty = true)
    (cS : Calls Tryz.prog 115 #[.string s, .string ⟨#[47]⟩] w fun e w' => e = .returned (.slice (some ⟨w.heap.size, 0, none⟩) [p0].length [p0].length) ∧ w' = w.alloc (.cells ([p0].map Value.string).toArray 9)) :
    Calls Tryz.prog 67 #[.string s] w fun e w' => ∃ t : ByteArray, e = .returned (.string t) ∧ t.data.toList = [47] ∧ Below w.heap.size w w' := by
  have S := Lib.hid cS
  clear cS
  go_enter Tryz.func67, Tryz.ntmps67
  go_wp2_with (go_at_call 115; with_reducible refine S.out.mono ?_; rintro e w1 ⟨rfl, rfl⟩)
  obtain ⟨wA, hwA⟩ : ∃ wA, w.alloc (.cells ([p0].map Value.string).toArray 9) = wA := ⟨_, rfl⟩
  have hAB : Below w.heap.size w wA := by rw [← hwA]; exact (Below.refl _ w).alloc (Nat.le_refl _) _
  simp only [List.map_cons, List.map_nil] at hwA
  rw [hwA]
  clear hwA
  go_loopw [4, 17] (fun v iv wr => v = .slice none 0 0 ∧ iv = .int .i64 0 ∧ Below w.heap.size w wr) (fun _ iv _ => 0)
  case atStart => exact ⟨rfl, rfl, hAB⟩
  case round =>
    obtain ⟨rfl, rfl, hbw⟩ := hrel
    go_wp2_with fail
    go_ret
    exact ⟨_, rfl, rfl, hbw⟩
theorem clean_any (s : ByteArray) (w : World) (hs : s.size ≤ 1000000) (hM : MaxAt w) :
    Calls Tryz.prog 67 #[.string s] w fun e w' => ∃ t : ByteArray, e = .returned (.string t) ∧ t.data.toList = cleanL s.data.toList ∧ Below w.heap.size w w' := by
  obtain ⟨m, hm⟩ := hM
  have cS := Tryz.strings_Split s ⟨#[47]⟩ m w (by omega) hm (by decide)
  have hsg := split_segs 47 _ s rfl
  obtain ⟨l, hl⟩ : ∃ l, Lib.splitB ⟨#[47]⟩ 0 (Lib.countB s ⟨#[47]⟩) s = l := ⟨_, rfl⟩
  have hsl := Lib.splitB_all ⟨#[47]⟩ (by decide) 0 (Lib.countB s ⟨#[47]⟩) s rfl
  rw [hl] at cS hsg hsl
  rw [← hsl] at cS
  have hN : l.length ≤ 1000001 := by
    have h1 := congrArg List.length hsg
    rw [List.length_map] at h1
    have h2 := segs_count 47 s.data.toList
    rw [size_len] at h2
    omega
  have hseg : lists l = segs 47 s.data.toList := hsg
  have hmx : ∀ p ∈ lists l, p.length ≤ 1000000 := fun p hp => by
    rw [hseg] at hp
    have := segs_len 47 _ p hp
    rw [size_len] at this
    omega
  unfold cleanL
  rw [← hseg]
  match l, cS, hN, hmx with
  | [], _, _, _ => exact absurd hseg.symm (segs_ne 47 _)
  | p0 :: ps, cS, hN, hmx =>
    simp only [List.length_cons] at hN
    by_cases h0 : p0.data.toList = []
    · have hE : p0.toList.isEmpty = true := by rw [List.isEmpty_iff, ByteArray.toList_eq]; exact h0
      have ht : tailE (lists (p0 :: ps)) = lists ps := by simp [tailE, lists, h0]
      rw [ht]
      by_cases hp : ps = []
      · subst hp
        exact cleanZ s w p0 hE cS
      · exact cleanA s w p0 ps (by omega) (fun p h => hmx p (List.mem_cons_of_mem _ h)) hE hp cS
    · have hE : p0.toList.isEmpty = false := by
        cases e : p0.toList.isEmpty with
        | false => rfl
        | true => rw [List.isEmpty_iff, ByteArray.toList_eq] at e; exact absurd e h0
      have ht : tailE (lists (p0 :: ps)) = lists (p0 :: ps) := by simp [tailE, lists, h0]
      rw [ht]
      exact cleanB s w p0 ps (by omega) hmx hE trivial cS
end Go.Proofs.YtjdhaacmlpegoaaGreatDoor

/- Cookies: the small functions: times, trimming, pairs, ages, control characters. -/
namespace Go.Proofs.YtjdhaacmlpegoaaGreatDoor
set_option linter.unusedVariables false
set_option linter.unusedSimpArgs false
open Go.RowKit

def clockI (now : Int) : Int := min (max now 0) 9007199254740992
theorem clock_bd (now : Int) : 0 ≤ clockI now ∧ clockI now ≤ 9007199254740992 := by unfold clockI; omega
theorem clock_any (x : Int) (w : World) : Calls Tryz.prog 135 #[.int .i64 x] w fun e w' => e = .returned (.int .i64 (clockI x)) ∧ w = w' := by
  go_enter Tryz.func135, Tryz.ntmps135
  go_wp2
  go_ret
  exact ⟨ret_int rfl, rfl⟩
theorem rtime_any (x : Int) (w : World) : Calls Tryz.prog 216 #[.int .i64 x] w fun e w' => e = .returned (.int .i64 (clockI x)) ∧ w = w' := by
  go_enter Tryz.func216, Tryz.ntmps216
  go_wp2
  go_ret
  exact ⟨ret_int rfl, rfl⟩

/-! trimming -/
def wsC (b : UInt8) : Bool := [32, 9].contains b
def ldrop (l : List UInt8) : List UInt8 := l.dropWhile wsC
def rdrop (l : List UInt8) : List UInt8 := (l.reverse.dropWhile wsC).reverse
def trimC (l : List UInt8) : List UInt8 := rdrop (ldrop l)
theorem rdrop_cons (b : UInt8) (l : List UInt8) : rdrop (b :: l) = if rdrop l = [] then (if wsC b then [] else [b]) else b :: rdrop l := by
  unfold rdrop
  rw [List.reverse_cons, List.dropWhile_append]
  by_cases h : l.reverse.dropWhile wsC = []
  · rw [h]
    simp only [List.isEmpty_nil, if_true, List.reverse_nil]
    rw [List.dropWhile_cons]
    cases wsC b <;> simp
  · have h2 : (l.reverse.dropWhile wsC).isEmpty = false := by simpa using h
    rw [h2, if_neg (by simp), if_neg (by simpa using h)]
    simp
theorem trim_comm : ∀ l : List UInt8, ldrop (rdrop l) = rdrop (ldrop l) := by
  intro l
  induction l with
  | nil => rfl
  | cons b l ih =>
    have e : ldrop (b :: l) = if wsC b then ldrop l else b :: l := by unfold ldrop; rw [List.dropWhile_cons]
    rw [rdrop_cons, e]
    cases hb : wsC b with
    | true =>
      rw [if_pos rfl, if_pos rfl]
      by_cases h : rdrop l = []
      · rw [if_pos h, ← ih, h]
      · rw [if_neg h]
        have e2 : ldrop (b :: rdrop l) = ldrop (rdrop l) := by unfold ldrop; rw [List.dropWhile_cons, if_pos hb]
        rw [e2, ih]
    | false =>
      rw [if_neg Bool.false_ne_true, if_neg Bool.false_ne_true, rdrop_cons, hb, if_neg Bool.false_ne_true]
      by_cases h : rdrop l = []
      · rw [if_pos h]
        unfold ldrop; rw [List.dropWhile_cons, if_neg (by simp [hb])]
      · rw [if_neg h]
        unfold ldrop; rw [List.dropWhile_cons, if_neg (by simp [hb])]
theorem trimC_is (l : List UInt8) : Lib.trimS l [32, 9] = trimC l := by
  show ldrop (rdrop l) = _
  rw [trim_comm]; rfl
theorem trimC_len (l : List UInt8) : (trimC l).length ≤ l.length := by
  unfold trimC rdrop ldrop
  rw [List.length_reverse]
  have h1 := (List.dropWhile_sublist (p := wsC) (l := (l.dropWhile wsC).reverse)).length_le
  have h2 := (List.dropWhile_sublist (p := wsC) (l := l)).length_le
  rw [List.length_reverse] at h1
  omega
theorem rdrop_snoc (l : List UInt8) (b : UInt8) : rdrop (l ++ [b]) = if wsC b then rdrop l else l ++ [b] := by
  unfold rdrop
  rw [List.reverse_append]
  simp only [List.reverse_singleton, List.singleton_append, List.dropWhile_cons]
  split <;> simp
theorem ws_cases (b : UInt8) : (wsC b = true ∧ ((b.toNat : Int) == 32) = true) ∨ (wsC b = true ∧ ((b.toNat : Int) == 32) = false ∧ ((b.toNat : Int) == 9) = true) ∨ (wsC b = false ∧ ((b.toNat : Int) == 32) = false ∧ ((b.toNat : Int) == 9) = false) := by
  by_cases h1 : b = 32
  · subst h1; exact .inl ⟨rfl, rfl⟩
  · have h1' : ((b.toNat : Int) == 32) = false := by
      rw [beq_eq_false_iff_ne]; intro e; exact h1 (UInt8.toNat_inj.1 (by have : (32 : UInt8).toNat = 32 := rfl; omega))
    by_cases h2 : b = 9
    · subst h2; exact .inr (.inl ⟨rfl, h1', rfl⟩)
    · refine .inr (.inr ⟨?_, h1', ?_⟩)
      · unfold wsC; simp [h1, h2]
      · rw [beq_eq_false_iff_ne]; intro e; exact h2 (UInt8.toNat_inj.1 (by have : (9 : UInt8).toNat = 9 := rfl; omega))
set_option maxRecDepth 20000 in
set_option maxHeartbeats 800000 in
theorem rtrimc_any (s : ByteArray) (w : World) (hs : s.size ≤ 1000000) :
    Calls Tryz.prog 214 #[.string s] w fun e w' => ∃ t : ByteArray, e = .returned (.string t) ∧ t.data.toList = trimC s.data.toList ∧ w = w' := by
  obtain ⟨R, hR⟩ : ∃ R, trimC s.data.toList = R := ⟨_, rfl⟩
  rw [hR]
  have HR := Lib.hid hR
  clear hR
  go_enter Tryz.func214, Tryz.ntmps214
  go_wp2
  go_loop [0] (fun v => ∃ t : ByteArray, t.size ≤ 1000000 ∧ v = .string t ∧ trimC t.data.toList = R) strLen
  case atStart => exact ⟨s, hs, rfl, HR.out⟩
  case round =>
    obtain ⟨t, ht, rfl, hr⟩ := hrel
    by_cases h0 : t.size = 0
    · have hE := empty_of t h0
      have hl : t.data.toList = [] := List.eq_nil_of_length_eq_zero (by rw [size_len]; exact h0)
      have hr2 : rdrop t.data.toList = R := by rw [← hr, hl]; rfl
      have HR2 := Lib.hid hr2
      have hz : (t.size : Int) = 0 := by omega
      clear hr hl hr2
      go_wp2_with fail
      go_loop [0] (fun v => ∃ t : ByteArray, t.size ≤ 1000000 ∧ v = .string t ∧ rdrop t.data.toList = R) strLen
      case atStart => exact ⟨t, ht, rfl, HR2.out⟩
      case round =>
        clear hE
        obtain ⟨x, hx, rfl, hr3⟩ := hrel
        by_cases hx0 : x.size = 0
        · have hE := empty_of x hx0
          have hxl : x.data.toList = [] := List.eq_nil_of_length_eq_zero (by rw [size_len]; exact hx0)
          have hr4 : x.data.toList = R := by rw [← hr3, hxl]; rfl
          have HR4 := Lib.hid hr4
          have hxz : (x.size : Int) = 0 := by omega
          clear hr3 hxl hr4
          go_wp2_with fail
          go_ret
          exact ⟨x, rfl, HR4.out, rfl⟩
        · have hE := nonempty_of x (by omega)
          obtain ⟨k, hk⟩ : ∃ k, x.size = k + 1 := ⟨x.size - 1, by omega⟩
          have hs3 := snoc_at x k hk
          have hkx : (x.size : Int) - 1 = k := by omega
          have hkp : (0 : Int) < (x.size : Int) := by omega
          have e := rdrop_snoc (x.data.toList.take k) x[k]
          rw [← hs3] at e
          rcases ws_cases x[k] with ⟨hw, h32⟩ | ⟨hw, h32, h9⟩ | ⟨hw, h32, h9⟩
          · have hr4 : rdrop (x.extract 0 k).data.toList = R := by
              rw [if_pos hw] at e
              rw [ext_from, ← e]; exact hr3
            have HR4 := Lib.hid hr4
            clear hr3 hs3 hr4 e hw
            go_wp2_with fail
            go_round
            case rel => exact ⟨x.extract 0 k, by simp; omega, rfl, HR4.out⟩
            case measure => simp [strLen]; omega
          · have hr4 : rdrop (x.extract 0 k).data.toList = R := by
              rw [if_pos hw] at e
              rw [ext_from, ← e]; exact hr3
            have HR4 := Lib.hid hr4
            clear hr3 hs3 hr4 e hw
            go_wp2_with fail
            go_round
            case rel => exact ⟨x.extract 0 k, by simp; omega, rfl, HR4.out⟩
            case measure => simp [strLen]; omega
          · have hr4 : x.data.toList = R := by
              rw [if_neg (by simp [hw])] at e
              rw [← e]; exact hr3
            have HR4 := Lib.hid hr4
            clear hr3 hs3 hr4 e hw
            go_wp2_with fail
            go_ret
            exact ⟨x, rfl, HR4.out, rfl⟩
    · have hE := nonempty_of t (by omega)
      have hd := drop_at t 0 (by omega)
      rw [List.drop_zero] at hd
      have hp : 0 < t.size := by omega
      have hpi : (0 : Int) < (t.size : Int) := by omega
      rcases ws_cases t[0] with ⟨hw, h32⟩ | ⟨hw, h32, h9⟩ | ⟨hw, h32, h9⟩
      · have hr2 : trimC (t.extract 1 t.size).data.toList = R := by
          rw [ext_to, ← hr, hd]
          unfold trimC ldrop
          rw [List.dropWhile_cons, if_pos hw]
          simp
        have HR2 := Lib.hid hr2
        clear hr hd hr2 hw
        go_wp2_with fail
        go_round
        case rel => exact ⟨t.extract 1 t.size, by simp; omega, rfl, HR2.out⟩
        case measure => simp [strLen]; omega
      · have hr2 : trimC (t.extract 1 t.size).data.toList = R := by
          rw [ext_to, ← hr, hd]
          unfold trimC ldrop
          rw [List.dropWhile_cons, if_pos hw]
          simp
        have HR2 := Lib.hid hr2
        clear hr hd hr2 hw
        go_wp2_with fail
        go_round
        case rel => exact ⟨t.extract 1 t.size, by simp; omega, rfl, HR2.out⟩
        case measure => simp [strLen]; omega
      · have hr2 : rdrop t.data.toList = R := by
          rw [← hr, hd]
          unfold trimC ldrop
          rw [List.dropWhile_cons, if_neg (by simp [hw])]
        have HR2 := Lib.hid hr2
        clear hr hd hr2 hw
        go_wp2_with fail
        go_loop [0] (fun v => ∃ t : ByteArray, t.size ≤ 1000000 ∧ v = .string t ∧ rdrop t.data.toList = R) strLen
        case atStart => exact ⟨t, ht, rfl, HR2.out⟩
        case round =>
          clear hE
          obtain ⟨x, hx, rfl, hr3⟩ := hrel
          by_cases hx0 : x.size = 0
          · have hE := empty_of x hx0
            have hxl : x.data.toList = [] := List.eq_nil_of_length_eq_zero (by rw [size_len]; exact hx0)
            have hr4 : x.data.toList = R := by rw [← hr3, hxl]; rfl
            have HR4 := Lib.hid hr4
            have hxz : (x.size : Int) = 0 := by omega
            clear hr3 hxl hr4
            go_wp2_with fail
            go_ret
            exact ⟨x, rfl, HR4.out, rfl⟩
          · have hE := nonempty_of x (by omega)
            obtain ⟨k, hk⟩ : ∃ k, x.size = k + 1 := ⟨x.size - 1, by omega⟩
            have hs3 := snoc_at x k hk
            have hkx : (x.size : Int) - 1 = k := by omega
            have hkp : (0 : Int) < (x.size : Int) := by omega
            have e := rdrop_snoc (x.data.toList.take k) x[k]
            rw [← hs3] at e
            rcases ws_cases x[k] with ⟨hw, h32⟩ | ⟨hw, h32, h9⟩ | ⟨hw, h32, h9⟩
            · have hr4 : rdrop (x.extract 0 k).data.toList = R := by
                rw [if_pos hw] at e
                rw [ext_from, ← e]; exact hr3
              have HR4 := Lib.hid hr4
              clear hr3 hs3 hr4 e hw
              go_wp2_with fail
              go_round
              case rel => exact ⟨x.extract 0 k, by simp; omega, rfl, HR4.out⟩
              case measure => simp [strLen]; omega
            · have hr4 : rdrop (x.extract 0 k).data.toList = R := by
                rw [if_pos hw] at e
                rw [ext_from, ← e]; exact hr3
              have HR4 := Lib.hid hr4
              clear hr3 hs3 hr4 e hw
              go_wp2_with fail
              go_round
              case rel => exact ⟨x.extract 0 k, by simp; omega, rfl, HR4.out⟩
              case measure => simp [strLen]; omega
            · have hr4 : x.data.toList = R := by
                rw [if_neg (by simp [hw])] at e
                rw [← e]; exact hr3
              have HR4 := Lib.hid hr4
              clear hr3 hs3 hr4 e hw
              go_wp2_with fail
              go_ret
              exact ⟨x, rfl, HR4.out, rfl⟩
/-- the same at a known result -/
theorem rtrimc_is (s T : ByteArray) (w : World) (hs : s.size ≤ 1000000) (hT : T.data.toList = trimC s.data.toList) :
    Calls Tryz.prog 214 #[.string s] w fun e w' => e = .returned (.string T) ∧ w = w' := by
  refine (rtrimc_any s w hs).mono ?_
  rintro e w' ⟨t, rfl, ht, h⟩
  exact ⟨by rw [ba_ext' (ht.trans hT.symm)], h⟩
theorem ctrim_is (s T : ByteArray) (w : World) (hs : s.size ≤ 1000000) (hT : T.data.toList = trimC s.data.toList) :
    Calls Tryz.prog 134 #[.string s, .string ⟨#[32, 9]⟩] w fun e w' => e = .returned (.string T) ∧ Below w.heap.size w w' := by
  refine (trimcs_any s ⟨#[32, 9]⟩ w hs (by decide) (by decide)).mono ?_
  rintro e w' ⟨rfl, h⟩
  refine ⟨?_, h⟩
  congr 2
  exact ba_ext' (by rw [hT, ← trimC_is])

/-! pairs -/
theorem pair_is (s N V : ByteArray) (F : Bool) (w : World) (hs : s.size ≤ 1000000) (hM : MaxAt w) (hN : N.data.toList = trimC (pre 61 s.data.toList)) (hV : V.data.toList = trimC (post 61 s.data.toList)) (hF : s.data.toList.contains 61 = F) :
    Calls Tryz.prog 170 #[.string s] w fun e w' => e = .returned (.tuple #[.string N, .string V, .bool F]) ∧ Below w.heap.size w w' := by
  obtain ⟨m, hm⟩ := hM
  have cC := Tryz.strings_Cut s ⟨#[61]⟩ m w (by omega) hm
  rw [show (⟨#[61]⟩ : ByteArray).data.toList = [61] from rfl, cut_eq, hF] at cC
  obtain ⟨A, hA⟩ : ∃ A : ByteArray, ⟨(pre 61 s.data.toList).toArray⟩ = A := ⟨_, rfl⟩
  obtain ⟨B, hB⟩ : ∃ B : ByteArray, ⟨(post 61 s.data.toList).toArray⟩ = B := ⟨_, rfl⟩
  have hA2 : A.data.toList = pre 61 s.data.toList := by rw [← hA]
  have hB2 : B.data.toList = post 61 s.data.toList := by rw [← hB]
  simp only [hA, hB] at cC
  have l1 : (pre 61 s.data.toList).length ≤ s.data.toList.length := (List.takeWhile_sublist _).length_le
  have l2 : (post 61 s.data.toList).length ≤ s.data.toList.length := by
    unfold post; rw [List.length_drop]
    have := (List.dropWhile_sublist (p := (· != (61 : UInt8))) (l := s.data.toList)).length_le
    omega
  rw [← hA2, size_len, size_len] at l1
  rw [← hB2, size_len, size_len] at l2
  have C1 := Lib.hid (fun w => ctrim_is A N w (by omega) (by rw [hA2]; exact hN))
  have C2 := Lib.hid (fun w => ctrim_is B V w (by omega) (by rw [hB2]; exact hV))
  have CC := Lib.hid cC
  clear cC hA hB hA2 hB2 hN hV hF hm
  go_enter Tryz.func170, Tryz.ntmps170
  go_wp2_with (first
    | (go_at_call 60; with_reducible refine CC.out.mono ?_; rintro e w' ⟨rfl, nn, rfl⟩)
    | (go_at_call 134; with_reducible refine (C1.out _).mono ?_; rintro e w1 ⟨rfl, hb1⟩)
    | (go_at_call 134; with_reducible refine (C2.out _).mono ?_; rintro e w2 ⟨rfl, hb2⟩))
  go_ret3
  exact ⟨rfl, ((below_drewN (Below.refl _ w) _).trans (hb1.mono (by simp))).trans (hb2.mono (by have := hb1.size; simp at this; exact this))⟩

/-! ages -/
def ageF (n : Int) (b : UInt8) : Int := min (n * 10 + ((b.toNat : Int) - 48)) 1000000000
/-- the seconds of a value, limited; none: it is none -/
def ageL (l : List UInt8) : Option Int :=
  if Lib.hasPrefix l [45] = true then (if l.drop 1 ≠ [] ∧ (l.drop 1).all digitB = true then some 0 else none)
  else (if l ≠ [] ∧ l.all digitB = true then some (l.foldl ageF 0) else none)
theorem ageF_bd (n : Int) (b : UInt8) (h0 : 0 ≤ n) (h : digitB b = true) : 0 ≤ ageF n b ∧ ageF n b ≤ 1000000000 := by
  simp only [digitB, digitI, decide_eq_true_eq] at h
  unfold ageF; omega
theorem foldl_age_bd : ∀ (l : List UInt8) (n : Int), 0 ≤ n → n ≤ 1000000000 → l.all digitB = true → 0 ≤ l.foldl ageF n ∧ l.foldl ageF n ≤ 1000000000 := by
  intro l
  induction l with
  | nil => intro n h0 h1 _; exact ⟨h0, h1⟩
  | cons b l ih =>
    intro n h0 h1 h
    simp only [List.all_cons, Bool.and_eq_true] at h
    have := ageF_bd n b h0 h.1
    exact ih _ this.1 this.2 h.2
theorem ageL_bd (l : List UInt8) (n : Int) (h : ageL l = some n) : 0 ≤ n ∧ n ≤ 1000000000 := by
  unfold ageL at h
  split at h
  · split at h
    · injection h with h; omega
    · cases h
  · split at h
    · next h2 =>
      injection h with h
      have := foldl_age_bd l 0 (by omega) (by omega) h2.2
      omega
    · cases h
theorem pre45 (s : ByteArray) : Lib.hasPrefix s.data.toList [45] = true → 0 < s.size := fun h => by
  have := hasPrefix_drop h
  rw [← size_len, this]; simp
abbrev digCut : ByteArray := ⟨#[48, 49, 50, 51, 52, 53, 54, 55, 56, 57]⟩
theorem digB_in : ∀ b : UInt8, digCut.data.toList.contains b = digitB b := by
  have : ∀ n : Fin 256, digCut.data.toList.contains (UInt8.ofNat n.1) = digitB (UInt8.ofNat n.1) := by decide +kernel
  intro b
  have h := this ⟨b.toNat, b.toNat_lt⟩
  simpa using h
theorem trimS_dig (l : List UInt8) : (Lib.trimS l digCut.data.toList).isEmpty = l.all digitB := by
  rw [Bool.eq_iff_iff, List.isEmpty_iff, trimS_nil]
  rw [show (fun b => digCut.data.toList.contains b) = digitB from funext digB_in]
theorem take_snoc' (s : ByteArray) (k : Nat) (h : k < s.size) : s.data.toList.take (k + 1) = s.data.toList.take k ++ [s[k]] := by
  rw [List.take_succ_eq_append_getElem (by simpa using h)]; rfl
theorem dig_at {s : ByteArray} (h : s.data.toList.all digitB = true) (k : Nat) (hk : k < s.size) : (48 : Int) ≤ s[k].toNat ∧ (s[k].toNat : Int) ≤ 57 := by
  have hm : s[k] ∈ s.data.toList := List.drop_subset k _ (by rw [drop_at s k hk]; exact List.mem_cons_self)
  have := List.all_eq_true.1 h _ hm
  simp only [digitB, digitI, decide_eq_true_eq] at this
  exact this
theorem age_step (s : ByteArray) (k : Nat) (hk : k < s.size) (n : Int) (hn : (s.data.toList.take k).foldl ageF 0 = n) : (s.data.toList.take (k + 1)).foldl ageF 0 = min (n * 10 + ((s[k].toNat : Int) - 48)) 1000000000 := by
  rw [take_snoc' s k hk, List.foldl_append, hn]; rfl
/-- the walk of the digits, in the package -/
theorem age_some (s D : ByteArray) (mi : Bool) (R : Int) (hR : (if mi then 0 else D.data.toList.foldl ageF 0) = R) (w : World) (hs : s.size ≤ 1000000) (hD : 0 < D.size) (hDs : D.size ≤ 1000000) (hdig : D.data.toList.all digitB = true)
    (cP : ∀ w, Calls Tryz.prog 63 #[.string s, .string ⟨#[45]⟩] w fun e w' => e = .returned (.tuple #[.string D, .bool mi]) ∧ w = w') :
    Calls Tryz.prog 174 #[.string s] w fun e w' => e = .returned (.tuple #[.int .i64 R, .bool true]) ∧ Below w.heap.size w w' := by
  have cT := fun w => trimcs_any D digCut w hDs (by decide) (by decide)
  obtain ⟨T, hT⟩ : ∃ T : ByteArray, ⟨(Lib.trimS D.data.toList digCut.data.toList).toArray⟩ = T := ⟨_, rfl⟩
  have hN := trimS_dig D.data.toList
  rw [hdig] at hN
  have hTE : T.toList.isEmpty = true := by rw [ByteArray.toList_eq, ← hT]; exact hN
  rw [hT] at cT
  have hE := nonempty_of D hD
  have CP := Lib.hid cP
  have CT := Lib.hid cT
  have HD := Lib.hid hdig
  clear cP cT hT hN hdig
  have HR := Lib.hid hR
  clear hR
  cases mi
  all_goals
    go_enter Tryz.func174, Tryz.ntmps174
    go_wp2_with (first
      | (go_at_call 63; with_reducible refine (CP.out _).mono ?_; rintro e w' ⟨rfl, rfl⟩)
      | (go_at_call 134; with_reducible refine (CT.out _).mono ?_; rintro e w1 ⟨rfl, hb1⟩))
    go_loop [6, 22] (fun v i => ∃ (k : Nat) (n : Int), k ≤ D.size ∧ i = .int .i64 k ∧ v = .int .i64 n ∧ 0 ≤ n ∧ n ≤ 1000000000 ∧ (D.data.toList.take k).foldl ageF 0 = n) (fun _ i => D.size - (intOf i).toNat)
    case atStart => exact ⟨0, 0, Nat.zero_le _, rfl, rfl, by omega, by omega, rfl⟩
    case round =>
      obtain ⟨k, n, hk, rfl, rfl, hn0, hn1, hf⟩ := hrel
      by_cases hlt : k < D.size
      · have hd := dig_at HD.out k hlt
        have hst := age_step D k hlt n hf
        have HS := Lib.hid hst
        obtain ⟨hd1, hd2⟩ := hd
        have hlti : (k : Int) < D.size := by omega
        clear hf hst
        go_wp2_with fail
        go_round
        case rel => exact ⟨k + 1, _, by omega, by go_num, rfl, by omega, by omega, HS.out.trans (by first | rfl | (congr 1 <;> omega))⟩
        case measure => simp [intOf]; omega
      · obtain rfl : k = D.size := by omega
        rw [List.take_of_length_le (by rw [size_len]; exact Nat.le_refl _)] at hf
        have HF := Lib.hid hf
        clear hf
        go_wp2_with fail
        go_ret2
        exact ⟨by rw [← HR.out]; first | rfl | (simp only [Bool.false_eq_true, if_false]; rw [HF.out]; rfl), hb1⟩
theorem age_no (s D : ByteArray) (mi : Bool) (w : World) (hs : s.size ≤ 1000000) (hDs : D.size ≤ 1000000) (hdig : ¬ (D.data.toList ≠ [] ∧ D.data.toList.all digitB = true))
    (cP : ∀ w, Calls Tryz.prog 63 #[.string s, .string ⟨#[45]⟩] w fun e w' => e = .returned (.tuple #[.string D, .bool mi]) ∧ w = w') :
    Calls Tryz.prog 174 #[.string s] w fun e w' => e = .returned (.tuple #[.int .i64 0, .bool false]) ∧ Below w.heap.size w w' := by
  have CP := Lib.hid cP
  clear cP
  by_cases h0 : D.size = 0
  · have hE := empty_of D h0
    clear hdig h0
    go_enter Tryz.func174, Tryz.ntmps174
    go_wp2_with (go_at_call 63; with_reducible refine (CP.out _).mono ?_; rintro e w' ⟨rfl, rfl⟩)
    go_ret2
    exact ⟨rfl, Below.refl _ _⟩
  · have hE := nonempty_of D (by omega)
    have hd2 : D.data.toList.all digitB = false := by
      cases e : D.data.toList.all digitB with
      | false => rfl
      | true => exact absurd ⟨list_ne' h0, e⟩ hdig
    have cT := fun w => trimcs_any D digCut w hDs (by decide) (by decide)
    obtain ⟨T, hT⟩ : ∃ T : ByteArray, ⟨(Lib.trimS D.data.toList digCut.data.toList).toArray⟩ = T := ⟨_, rfl⟩
    have hN := trimS_dig D.data.toList
    rw [hd2] at hN
    have hTE : T.toList.isEmpty = false := by rw [ByteArray.toList_eq, ← hT]; exact hN
    rw [hT] at cT
    have CT := Lib.hid cT
    clear cT hT hN hdig hd2 h0
    go_enter Tryz.func174, Tryz.ntmps174
    go_wp2_with (first
      | (go_at_call 63; with_reducible refine (CP.out _).mono ?_; rintro e w' ⟨rfl, rfl⟩)
      | (go_at_call 134; with_reducible refine (CT.out _).mono ?_; rintro e w1 ⟨rfl, hb1⟩))
    go_ret2
    exact ⟨rfl, hb1⟩
theorem cage_is (s : ByteArray) (o : Option Int) (ho : ageL s.data.toList = o) (w : World) (hs : s.size ≤ 1000000) :
    Calls Tryz.prog 174 #[.string s] w fun e w' => e = .returned (.tuple #[.int .i64 (o.getD 0), .bool o.isSome]) ∧ Below w.heap.size w w' := by
  obtain ⟨D, hD⟩ : ∃ D : ByteArray, ⟨(Lib.trimPrefix s.data.toList [45]).toArray⟩ = D := ⟨_, rfl⟩
  have cP := fun w => Tryz.strings_CutPrefix s ⟨#[45]⟩ w
  rw [show (⟨#[45]⟩ : ByteArray).data.toList = [45] from rfl, hD] at cP
  have hDl : D.data.toList = Lib.trimPrefix s.data.toList [45] := by rw [← hD]
  have hDs : D.size ≤ 1000000 := by
    rw [← size_len, hDl]
    unfold Lib.trimPrefix
    have := size_len s
    split
    · rw [List.length_drop]; omega
    · omega
  have cP2 := fun w => (cP w).mono fun e w' ⟨h1, h2⟩ => (⟨h1, h2.symm⟩ : _ ∧ w = w')
  clear cP hD
  unfold ageL at ho
  cases hp : Lib.hasPrefix s.data.toList [45] with
  | true =>
    rw [hp] at ho cP2
    have hDl2 : D.data.toList = s.data.toList.drop 1 := by rw [hDl]; unfold Lib.trimPrefix; rw [if_pos hp]; rfl
    rw [if_pos rfl, ← hDl2] at ho
    by_cases hc : D.data.toList ≠ [] ∧ D.data.toList.all digitB = true
    · rw [if_pos hc] at ho
      subst ho
      exact age_some s D true 0 rfl w hs (by rw [← size_len]; exact List.length_pos_iff.2 hc.1) hDs hc.2 cP2
    · rw [if_neg hc] at ho
      subst ho
      exact age_no s D true w hs hDs hc cP2
  | false =>
    rw [hp] at ho cP2
    have hDl2 : D.data.toList = s.data.toList := by rw [hDl]; unfold Lib.trimPrefix; rw [if_neg (by simp [hp])]
    rw [if_neg Bool.false_ne_true, ← hDl2] at ho
    by_cases hc : D.data.toList ≠ [] ∧ D.data.toList.all digitB = true
    · rw [if_pos hc] at ho
      subst ho
      exact age_some s D false _ rfl w hs (by rw [← size_len]; exact List.length_pos_iff.2 hc.1) hDs hc.2 cP2
    · rw [if_neg hc] at ho
      subst ho
      exact age_no s D false w hs hDs hc cP2
theorem all_take_snoc {s : ByteArray} {k : Nat} (hk : k < s.size) : (s.data.toList.take (k + 1)).all digitB = ((s.data.toList.take k).all digitB && digitB s[k]) := by
  rw [take_snoc' s k hk, List.all_append]; simp
theorem all_bad {s : ByteArray} {k : Nat} (hk : k < s.size) (h : digitB s[k] = false) : s.data.toList.all digitB = false := by
  cases e : s.data.toList.all digitB with
  | false => rfl
  | true =>
    have hm : s[k] ∈ s.data.toList := List.drop_subset k _ (by rw [drop_at s k hk]; exact List.mem_cons_self)
    rw [List.all_eq_true.1 e _ hm] at h; cases h
set_option maxRecDepth 20000 in
set_option maxHeartbeats 1000000 in
theorem rage_is (s : ByteArray) (o : Option Int) (ho : ageL s.data.toList = o) (w : World) (hs : s.size ≤ 1000000) :
    Calls Tryz.prog 215 #[.string s] w fun e w' => e = .returned (.tuple #[.int .i64 (o.getD 0), .bool o.isSome]) ∧ w = w' := by
  have cP := fun w => starts_any s ⟨#[45]⟩ w hs (by decide)
  rw [show (⟨#[45]⟩ : ByteArray).data.toList = [45] from rfl] at cP
  unfold ageL at ho
  obtain ⟨V, hV⟩ : ∃ V, o.getD 0 = V := ⟨_, rfl⟩
  obtain ⟨S, hS⟩ : ∃ S, o.isSome = S := ⟨_, rfl⟩
  rw [hV, hS]
  cases hp : Lib.hasPrefix s.data.toList [45] with
  | true =>
    rw [hp] at ho cP
    rw [if_pos rfl, ← ext_to s 1] at ho
    have h1 := pre45 s hp
    have h1i : (0 : Int) < s.size := by omega
    have htz : (s.extract 1 s.size).size ≤ 1000000 := by rw [ByteArray.size_extract]; omega
    obtain ⟨t, ht⟩ : ∃ t, s.extract 1 s.size = t := ⟨_, rfl⟩
    rw [ht] at ho htz
    have HO : Hid (Ending.returned (.tuple #[.int .i64 ((if t.data.toList ≠ [] ∧ t.data.toList.all digitB = true then some 0 else none : Option Int).getD 0), .bool (if t.data.toList ≠ [] ∧ t.data.toList.all digitB = true then some (0 : Int) else none).isSome]) = Ending.returned (.tuple #[.int .i64 V, .bool S])) := by rw [ho, hV, hS]; exact rfl
    have CP := Lib.hid cP
    clear cP ho hV hS hp
    go_enter Tryz.func215, Tryz.ntmps215
    go_wp2_with (go_at_call 217; with_reducible refine (CP.out _).mono ?_; rintro e w' ⟨rfl, rfl⟩)
    go_loop [5, 6] (fun v i => ∃ (k : Nat) (n : Int), k ≤ t.size ∧ i = .int .i64 k ∧ v = .int .i64 n ∧ 0 ≤ n ∧ n ≤ 1000000000 ∧ (t.data.toList.take k).foldl ageF 0 = n ∧ (t.data.toList.take k).all digitB = true) (fun _ i => t.size - (intOf i).toNat)
    case atStart => exact ⟨0, 0, Nat.zero_le _, rfl, rfl, by omega, by omega, rfl, rfl⟩
    case round =>
      obtain ⟨k, n, hk, rfl, rfl, hn0, hn1, hf, hall⟩ := hrel
      by_cases hlt : k < t.size
      · have hst := age_step t k hlt n hf
        have hal := all_take_snoc hlt
        have hbad := all_bad hlt
        have hlti : (k : Int) < t.size := by omega
        have cD := fun w => rdigit_any (t[k].toNat : Int) w
        have hdd : digitB t[k] = digitI (t[k].toNat : Int) := rfl
        obtain ⟨d, hd⟩ : ∃ d, digitI (t[k].toNat : Int) = d := ⟨_, rfl⟩
        rw [hd] at cD hdd
        have CD := Lib.hid cD
        rw [hdd] at hal hbad
        rw [hall] at hal
        cases d
        · have HB := Lib.hid (hbad rfl)
          clear hf hst hall hal hbad cD hd hdd
          go_wp2_with (go_at_call 144; with_reducible refine (CD.out _).mono ?_; rintro e w' ⟨rfl, rfl⟩)
          go_ret2
          exact ⟨by rw [← HO.out, HB.out]; simp, rfl⟩
        · have hdr : (48 : Int) ≤ t[k].toNat ∧ (t[k].toNat : Int) ≤ 57 := by simpa [digitI] using hd
          obtain ⟨hd1, hd2⟩ := hdr
          have HS := Lib.hid hst
          have HA := Lib.hid hal
          clear hf hst hall hal hbad cD hd hdd
          go_wp2_with (go_at_call 144; with_reducible refine (CD.out _).mono ?_; rintro e w' ⟨rfl, rfl⟩)
          go_round
          case rel => exact ⟨k + 1, _, by omega, by go_num, rfl, by omega, by omega, HS.out.trans (by first | rfl | (congr 1 <;> omega)), by rw [HA.out]; rfl⟩
          case measure => simp [intOf]; omega
      · obtain rfl : k = t.size := by omega
        rw [List.take_of_length_le (by rw [size_len]; exact Nat.le_refl _)] at hf hall
        have HF := Lib.hid hf
        have HA := Lib.hid hall
        clear hf hall
        by_cases h0 : t.size = 0
        · have hE := empty_of t h0
          have HL := Lib.hid (list_nil' h0)
          go_wp2_with fail
          go_ret2
          exact ⟨by rw [← HO.out, HL.out]; first | rfl | (rw [← HF.out, HL.out]; rfl), rfl⟩
        · have hE := nonempty_of t (by omega)
          have HL := Lib.hid (list_ne' h0)
          go_wp2_with fail
          go_ret2
          exact ⟨by rw [← HO.out, if_pos ⟨HL.out, HA.out⟩]; first | rfl | (rw [HF.out]; rfl), rfl⟩
  | false =>
    rw [hp] at ho cP
    rw [if_neg Bool.false_ne_true] at ho
    obtain ⟨t, ht⟩ : ∃ t, s = t := ⟨_, rfl⟩
    subst ht
    have HO : Hid (Ending.returned (.tuple #[.int .i64 ((if s.data.toList ≠ [] ∧ s.data.toList.all digitB = true then some (s.data.toList.foldl ageF 0) else none : Option Int).getD 0), .bool (if s.data.toList ≠ [] ∧ s.data.toList.all digitB = true then some (s.data.toList.foldl ageF 0) else none).isSome]) = Ending.returned (.tuple #[.int .i64 V, .bool S])) := by rw [ho, hV, hS]; exact rfl
    have CP := Lib.hid cP
    obtain ⟨t, rfl⟩ : ∃ t, t = s := ⟨_, rfl⟩
    clear cP ho hV hS hp
    go_enter Tryz.func215, Tryz.ntmps215
    go_wp2_with (go_at_call 217; with_reducible refine (CP.out _).mono ?_; rintro e w' ⟨rfl, rfl⟩)
    go_loop [5, 6] (fun v i => ∃ (k : Nat) (n : Int), k ≤ t.size ∧ i = .int .i64 k ∧ v = .int .i64 n ∧ 0 ≤ n ∧ n ≤ 1000000000 ∧ (t.data.toList.take k).foldl ageF 0 = n ∧ (t.data.toList.take k).all digitB = true) (fun _ i => t.size - (intOf i).toNat)
    case atStart => exact ⟨0, 0, Nat.zero_le _, rfl, rfl, by omega, by omega, rfl, rfl⟩
    case round =>
      obtain ⟨k, n, hk, rfl, rfl, hn0, hn1, hf, hall⟩ := hrel
      by_cases hlt : k < t.size
      · have hst := age_step t k hlt n hf
        have hal := all_take_snoc hlt
        have hbad := all_bad hlt
        have hlti : (k : Int) < t.size := by omega
        have cD := fun w => rdigit_any (t[k].toNat : Int) w
        have hdd : digitB t[k] = digitI (t[k].toNat : Int) := rfl
        obtain ⟨d, hd⟩ : ∃ d, digitI (t[k].toNat : Int) = d := ⟨_, rfl⟩
        rw [hd] at cD hdd
        have CD := Lib.hid cD
        rw [hdd] at hal hbad
        rw [hall] at hal
        cases d
        · have HB := Lib.hid (hbad rfl)
          clear hf hst hall hal hbad cD hd hdd
          go_wp2_with (go_at_call 144; with_reducible refine (CD.out _).mono ?_; rintro e w' ⟨rfl, rfl⟩)
          go_ret2
          exact ⟨by rw [← HO.out, HB.out]; simp, rfl⟩
        · have hdr : (48 : Int) ≤ t[k].toNat ∧ (t[k].toNat : Int) ≤ 57 := by simpa [digitI] using hd
          obtain ⟨hd1, hd2⟩ := hdr
          have HS := Lib.hid hst
          have HA := Lib.hid hal
          clear hf hst hall hal hbad cD hd hdd
          go_wp2_with (go_at_call 144; with_reducible refine (CD.out _).mono ?_; rintro e w' ⟨rfl, rfl⟩)
          go_round
          case rel => exact ⟨k + 1, _, by omega, by go_num, rfl, by omega, by omega, HS.out.trans (by first | rfl | (congr 1 <;> omega)), by rw [HA.out]; rfl⟩
          case measure => simp [intOf]; omega
      · obtain rfl : k = t.size := by omega
        rw [List.take_of_length_le (by rw [size_len]; exact Nat.le_refl _)] at hf hall
        have HF := Lib.hid hf
        have HA := Lib.hid hall
        clear hf hall
        by_cases h0 : t.size = 0
        · have hE := empty_of t h0
          have HL := Lib.hid (list_nil' h0)
          go_wp2_with fail
          go_ret2
          exact ⟨by rw [← HO.out, HL.out]; first | rfl | (rw [← HF.out, HL.out]; rfl), rfl⟩
        · have hE := nonempty_of t (by omega)
          have HL := Lib.hid (list_ne' h0)
          go_wp2_with fail
          go_ret2
          exact ⟨by rw [← HO.out, if_pos ⟨HL.out, HA.out⟩]; first | rfl | (rw [HF.out]; rfl), rfl⟩
end Go.Proofs.YtjdhaacmlpegoaaGreatDoor

/- Memory: a struct that lies in a block of its own and may be written. -/
namespace Go.Proofs.YtjdhaacmlpegoaaGreatDoor
set_option linter.unusedVariables false
set_option linter.unusedSimpArgs false
open Go.RowKit

/-- block k begins with these cells, and they may be written -/
def AtL (W : World) (k : Nat) (vs : List Value) : Prop := k < W.heap.size ∧ ∀ j v, vs[j]? = some v → W.cell? ⟨k, j, none⟩ = some v ∧ W.frozen? ⟨k, j, none⟩ = false
theorem AtL.lt {W : World} {k : Nat} {vs : List Value} (h : AtL W k vs) : k < W.heap.size := h.1
theorem AtL.c {W : World} {k : Nat} {vs : List Value} (h : AtL W k vs) (j : Nat) {v : Value} (hv : vs[j]? = some v) : W.cell? ⟨k, j, none⟩ = some v := (h.2 j v hv).1
theorem AtL.f {W : World} {k : Nat} {vs : List Value} (h : AtL W k vs) (j : Nat) {v : Value} (hv : vs[j]? = some v) : W.frozen? ⟨k, j, none⟩ = false := (h.2 j v hv).2
theorem AtL.below {W W' : World} {k n : Nat} {vs : List Value} (h : AtL W k vs) (hb : Below n W W') (hk : k < n) : AtL W' k vs :=
  ⟨Nat.lt_of_lt_of_le h.1 hb.size, fun j v hv => ⟨(hb.cell (p := ⟨k, j, none⟩) hk).trans (h.c j hv), (hb.frozen (p := ⟨k, j, none⟩) hk).trans (h.f j hv)⟩⟩
theorem AtL.next {W W' : World} {k : Nat} {vs : List Value} (h : AtL W k vs) (hb : Below W.heap.size W W') : AtL W' k vs := h.below hb h.1
theorem AtL.alloc {W : World} {k : Nat} {vs : List Value} (h : AtL W k vs) (o : Obj) : AtL (W.alloc o) k vs := h.below ((Below.refl _ W).alloc (Nat.le_refl _) o) h.1
theorem AtL.drew {W : World} {k : Nat} {vs : List Value} (h : AtL W k vs) : AtL W.drew k vs := h
theorem AtL.drewN {W : World} {k : Nat} {vs : List Value} (h : AtL W k vs) (n : Nat) : AtL (W.drewN n) k vs := h
theorem AtL.set {W : World} {k : Nat} {vs : List Value} (h : AtL W k vs) (i : Nat) (v : Value) : AtL (W.setCell ⟨k, i, none⟩ v) k (vs.set i v) := by
  refine ⟨by rw [World.size_setCell]; exact h.1, fun j u hu => ?_⟩
  have hj : j < vs.length := by
    rcases Nat.lt_or_ge j vs.length with h1 | h1
    · exact h1
    · rw [List.getElem?_eq_none (by simpa using h1)] at hu; cases hu
  have h0 := h.c j (List.getElem?_eq_getElem hj)
  have hf := h.f j (List.getElem?_eq_getElem hj)
  refine ⟨?_, by rw [World.frozen?_setCell]; exact hf⟩
  by_cases e : i = j
  · subst e
    rw [List.getElem?_set_self hj] at hu
    injection hu with hu
    subst hu
    exact World.cell?_setCell_same' W _ v (by rw [h0]; rfl)
  · rw [List.getElem?_set_ne e] at hu
    rw [World.cell?_setCell_other W _ _ v (fun q => e (by cases q; rfl))]
    exact h.c j hu
theorem AtL.far {W : World} {k : Nat} {vs : List Value} (h : AtL W k vs) (p : Addr) (v : Value) (hp : p.block ≠ k) : AtL (W.setCell p v) k vs := by
  refine ⟨by rw [World.size_setCell]; exact h.1, fun j u hu => ⟨?_, by rw [World.frozen?_setCell]; exact h.f j hu⟩⟩
  rw [World.cell?_setCell_other W _ _ v (fun q => hp (by rw [q]))]
  exact h.c j hu
theorem AtL.new (w : World) (vs : List Value) (T : TypeId) : AtL (w.alloc (.cells vs.toArray T)) w.heap.size vs := by
  have hh : (w.alloc (.cells vs.toArray T)).heap[w.heap.size]? = some (.cells vs.toArray T) := by unfold World.alloc; simp
  refine ⟨by simp, fun j v hv => ⟨?_, ?_⟩⟩
  · have := cells_new w vs T j v hv
    have hadd : (⟨w.heap.size, 0, none⟩ : Addr).add j = ⟨w.heap.size, j, none⟩ := by unfold Addr.add; split <;> simp_all
    rwa [hadd] at this
  · unfold World.frozen?
    rw [hh]; simp
/-- nine fields written, one behind the other -/
abbrev set9 (W : World) (k : Nat) (a b c d e f g h i : Value) : World := ((((((((W.setCell ⟨k, 0, none⟩ a).setCell ⟨k, 1, none⟩ b).setCell ⟨k, 2, none⟩ c).setCell ⟨k, 3, none⟩ d).setCell ⟨k, 4, none⟩ e).setCell ⟨k, 5, none⟩ f).setCell ⟨k, 6, none⟩ g).setCell ⟨k, 7, none⟩ h).setCell ⟨k, 8, none⟩ i
theorem AtL.set9 {W : World} {k : Nat} {vs : List Value} (hv : AtL W k vs) (hl : vs.length = 9) (a b c d e f g h i : Value) : AtL (set9 W k a b c d e f g h i) k [a, b, c, d, e, f, g, h, i] := by
  match vs, hl with
  | [_, _, _, _, _, _, _, _, _], _ => exact ((((((((hv.set 0 a).set 1 b).set 2 c).set 3 d).set 4 e).set 5 f).set 6 g).set 7 h).set 8 i
theorem below_set9 {B k : Nat} {w W : World} (h : Below B w W) (hk : B ≤ k) (a b c d e f g x i : Value) : Below B w (set9 W k a b c d e f g x i) :=
  ((((((((h.setCell (p := ⟨k, 0, none⟩) hk a).setCell (p := ⟨k, 1, none⟩) hk b).setCell (p := ⟨k, 2, none⟩) hk c).setCell (p := ⟨k, 3, none⟩) hk d).setCell (p := ⟨k, 4, none⟩) hk e).setCell (p := ⟨k, 5, none⟩) hk f).setCell (p := ⟨k, 6, none⟩) hk g).setCell (p := ⟨k, 7, none⟩) hk x).setCell (p := ⟨k, 8, none⟩) hk i
/-- the results of a function that gives a struct of nine cells and one thing more -/
theorem ret9_run {P : Program} {fn : Func} {q T r : Nat} (hr : fn.results = #[.cell q T, .tmp r]) (hz : ∀ w, (Go.sizeOf T).run P w = .ok 9 w) (ha : ∀ w, (isAgg T).run P w = .ok true w) (tmps : Array Value) (W : World) (k : Nat) (a b c d e f g h i x : Value) (h2 : tmps.getD q undef = .pointer (some ⟨k, 0, none⟩)) (h3 : tmps.getD r undef = x) (hA : AtL W k [a, b, c, d, e, f, g, h, i]) :
    (results fn tmps).run P W = .ok (.tuple #[.agg #[a, b, c, d, e, f, g, h, i], x]) W := by
  have c0 := hA.c 0 rfl
  have c1 := hA.c 1 rfl
  have c2 := hA.c 2 rfl
  have c3 := hA.c 3 rfl
  have c4 := hA.c 4 rfl
  have c5 := hA.c 5 rfl
  have c6 := hA.c 6 rfl
  have c7 := hA.c 7 rfl
  have c8 := hA.c 8 rfl
  rw [Array.getD_eq_getD_getElem?] at h2 h3
  simp [results, hr, h2, h3, go_sem, hz, ha, c0, c1, c2, c3, c4, c5, c6, c7, c8]
end Go.Proofs.YtjdhaacmlpegoaaGreatDoor
