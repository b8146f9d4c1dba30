/- Contracts of the small functions of the metrics package and of its reference: sizes, characters, white space, breaks between two characters. -/
import Derived.Test.YtcpklmolofbopaaDoorA
import Derived.BigQuiet
namespace Go.Proofs.YtcpklmolofbopaaDoor
open Go.RowKit

/-- a font size within its limits -/
def lim (n : Int) : Int := min (max n 0) 1048576
theorem lim_lo (n : Int) : 0 ≤ lim n := by unfold lim; omega
theorem lim_hi (n : Int) : lim n ≤ 1048576 := by unfold lim; omega
theorem units_lo (r : Int) : 0 ≤ units r := by unfold units; (repeat' split) <;> omega
theorem units_hi (r : Int) : units r ≤ 16 := by unfold units; (repeat' split) <;> omega

theorem limit_any (n : Int) (w : World) :
    Calls Tryd.prog 35 #[.int .i64 n] w fun e w' => e = .returned (.int .i64 (lim n)) ∧ w = w' := by
  go_enter Tryd.func35, Tryd.ntmps35
  go_wp2
  all_goals (go_ret; exact ⟨ret_int (by unfold lim; omega), rfl⟩)
theorem size_any (n : Int) (w : World) :
    Calls Tryd.prog 25 #[.int .i64 n] w fun e w' => e = .returned (.int .i64 (lim n)) ∧ w = w' := by
  go_enter Tryd.func25, Tryd.ntmps25
  go_wp2
  all_goals (go_ret; exact ⟨ret_int (by unfold lim; omega), rfl⟩)
theorem ascent_any (n : Int) (w : World) :
    Calls Tryd.prog 27 #[.int .i64 n] w fun e w' => e = .returned (.int .i64 (lim n)) ∧ w = w' := by
  go_enter Tryd.func27, Tryd.ntmps27
  go_wp2_with (go_at_call 35; refine (limit_any _ _).mono ?_; rintro e w' ⟨rfl, rfl⟩)
  all_goals (go_ret; exact ⟨rfl, rfl⟩)
theorem height_any (n : Int) (w : World) :
    Calls Tryd.prog 26 #[.int .i64 n] w fun e w' => e = .returned (.int .i64 (lim n + (lim n + 3) / 4)) ∧ w = w' := by
  have h1 := lim_lo n
  have h2 := lim_hi n
  go_enter Tryd.func26, Tryd.ntmps26
  go_wp2_with (go_at_call 35; refine (limit_any _ _).mono ?_; rintro e w' ⟨rfl, rfl⟩)
  all_goals (go_ret; exact ⟨rfl, rfl⟩)

/-- the width of a character in pixels -/
def char (r n : Int) : Int := (units r * lim n + 15) / 16
theorem prod_lo (r n : Int) : 0 ≤ units r * lim n := Int.mul_nonneg (units_lo r) (lim_lo n)
theorem prod_hi (r n : Int) : units r * lim n ≤ 16777216 := by
  have h1 := Int.mul_le_mul (units_hi r) (lim_hi n) (lim_lo n) (by omega : (0 : Int) ≤ 16)
  omega
theorem char_lo (r n : Int) : 0 ≤ char r n := by have := prod_lo r n; unfold char; omega
theorem char_hi (r n : Int) : char r n ≤ 1048576 := by have := prod_hi r n; unfold char; omega
theorem char_any (r n : Int) (w : World) :
    Calls Tryd.prog 15 #[.int .i32 r, .int .i64 n] w fun e w' => e = .returned (.int .i64 (char r n)) ∧ w = w' := by
  have h1 := prod_lo r n
  have h2 := prod_hi r n
  go_enter Tryd.func15, Tryd.ntmps15
  go_wp2_with (first | (go_at_call 35; refine (limit_any _ _).mono ?_; rintro e w' ⟨rfl, rfl⟩) | (go_at_call 13; refine (units_any _ _).mono ?_; rintro e w' ⟨rfl, rfl⟩))
  all_goals (go_ret; exact ⟨rfl, rfl⟩)

theorem ret_bool {a b : Bool} (h : a = b) : Ending.returned (.bool a) = .returned (.bool b) := by rw [h]
theorem wrap32_byte (b : UInt8) : wrap32 (b.toNat : Int) = b.toNat := IntWalk.wrap32_in _ (by have := b.toNat_lt; omega)
/-- whether a byte of a list is a character -/
def hasL (l : List UInt8) (r : Int) : Bool := l.any fun b => (b.toNat : Int) == r
theorem hasL_snoc (l : List UInt8) (b : UInt8) (r : Int) : hasL (l ++ [b]) r = (hasL l r || ((b.toNat : Int) == r)) := by simp [hasL]
set_option maxHeartbeats 400000 in
theorem has_any (s : ByteArray) (r : Int) (w : World) (hs : s.size ≤ 1000) :
    Calls Tryd.prog 34 #[.string s, .int .i32 r] w fun e w' => e = .returned (.bool (hasL s.data.toList r)) ∧ w = w' := by
  go_enter Tryd.func34, Tryd.ntmps34
  go_wp2
  go_loop [5] (fun i => ∃ k : Nat, k ≤ s.size ∧ i = .int .i64 k ∧ hasL (s.data.toList.take k) r = false) (fun i => s.size - (intOf i).toNat)
  case atStart => exact ⟨0, Nat.zero_le _, rfl, rfl⟩
  case round =>
    obtain ⟨k, hk, rfl, hf⟩ := hrel
    have HF : Hid (hasL (s.data.toList.take k) r = false) := hf
    clear hf
    by_cases hlt : k < s.size
    · have hts : s.data.toList.take (k + 1) = s.data.toList.take k ++ [s[k]] := by rw [List.take_succ_eq_append_getElem (by simpa using hlt)]; rfl
      have HT : Hid (s.data.toList.take (k + 1) = s.data.toList.take k ++ [s[k]]) := hts
      clear hts
      go_wp2
      · go_ret
        refine ⟨ret_bool ?_, rfl⟩
        have h1 : (wrap32 (s[k].toNat : Int) == r) = true := by assumption
        rw [wrap32_byte] at h1
        have h2 : hasL s.data.toList r = true := by
          have e : s.data.toList = s.data.toList.take (k + 1) ++ s.data.toList.drop (k + 1) := (List.take_append_drop _ _).symm
          rw [e, HT.out]; simp [hasL, h1]
        rw [h2]
      · go_round
        case rel =>
          have h1 : (wrap32 (s[k].toNat : Int) == r) = false := by assumption
          rw [wrap32_byte] at h1
          exact ⟨k + 1, by omega, by go_num, by rw [HT.out, hasL_snoc, HF.out, h1]; rfl⟩
        case measure => simp [intOf]; omega
    · go_wp2
      go_ret
      refine ⟨ret_bool ?_, rfl⟩
      have h2 := HF.out
      rw [List.take_of_length_le (by simp; omega)] at h2
      rw [h2]

/-- the widths as the reference has them -/
def runits (r : Int) : Int :=
  if r < 32 ∨ r > 1114111 ∨ (r ≥ 127 ∧ r ≤ 159) ∨ (r ≥ 768 ∧ r ≤ 879) then 0
  else if r ≥ 4352 then 16
  else if (r == 160) = true ∨ hasL [32, 33, 39, 44, 46, 58, 59, 73, 105, 106, 108, 124] r = true then 4
  else if hasL [34, 40, 41, 42, 45, 47, 91, 92, 93, 94, 102, 114, 116, 123, 125] r = true then 6
  else if hasL [37, 64, 77, 87, 109, 119] r = true then 14
  else if r ≥ 65 ∧ r ≤ 90 then 10
  else 8
theorem runits_eq (r : Int) : runits r = units r := by
  have h1 : ((r == 160) = true ∨ hasL [32, 33, 39, 44, 46, 58, 59, 73, 105, 106, 108, 124] r = true) ↔ isNarrow r = true := by
    simp only [hasL, List.any_cons, List.any_nil, isNarrow, Bool.or_false, Bool.or_eq_true, beq_iff_eq]; simp; omega
  have h2 : hasL [34, 40, 41, 42, 45, 47, 91, 92, 93, 94, 102, 114, 116, 123, 125] r = true ↔ isSlim r = true := by
    simp only [hasL, List.any_cons, List.any_nil, isSlim, Bool.or_false, Bool.or_eq_true, beq_iff_eq]; simp; omega
  have h3 : hasL [37, 64, 77, 87, 109, 119] r = true ↔ isWide r = true := by
    simp only [hasL, List.any_cons, List.any_nil, isWide, Bool.or_false, Bool.or_eq_true, beq_iff_eq]; simp; omega
  unfold runits units
  simp only [h1, h2, h3]

set_option maxHeartbeats 400000 in
theorem runits_any (r : Int) (w : World) :
    Calls Tryd.prog 14 #[.int .i32 r] w fun e w' => e = .returned (.int .i64 (units r)) ∧ w = w' := by
  rw [← runits_eq]
  go_enter Tryd.func14, Tryd.ntmps14
  go_wp2_with (go_at_call 34; refine (has_any _ _ _ (by decide)).mono ?_; rintro e w' ⟨rfl, rfl⟩)
  all_goals
    go_ret
    refine ⟨ret_int ?_, rfl⟩
    first
    | (rw [runits, if_pos (by omega)]; done)
    | (rw [runits, if_neg (by omega), if_pos (by omega)]; done)
    | (simp only [runits_eq]; decide)
    | (rw [runits, if_neg (by omega), if_neg (by omega)]; simp only [*, or_false, if_true, Bool.false_eq_true, if_false]; first | done | (simp only [ge_iff_le, *, and_self, if_true]; done) | rw [if_neg (by omega)])

theorem tmod16 (n : Int) : n / 16 + min (n % 16) 1 = (n + 15) / 16 := by omega
theorem rchar_any (r n : Int) (w : World) :
    Calls Tryd.prog 16 #[.int .i32 r, .int .i64 n] w fun e w' => e = .returned (.int .i64 (char r n)) ∧ w = w' := by
  have h1 := prod_lo r n
  have h2 := prod_hi r n
  go_enter Tryd.func16, Tryd.ntmps16
  go_wp2_with (first | (go_at_call 25; refine (size_any _ _).mono ?_; rintro e w' ⟨rfl, rfl⟩) | (go_at_call 14; refine (runits_any _ _).mono ?_; rintro e w' ⟨rfl, rfl⟩))
  all_goals (go_ret; exact ⟨ret_int (by unfold char; omega), rfl⟩)

/-- white space -/
def white (r : Int) : Bool := r == 9 || r == 10 || r == 13 || r == 32
theorem rwhite_any (r : Int) (w : World) :
    Calls Tryd.prog 23 #[.int .i32 r] w fun e w' => e = .returned (.bool (white r)) ∧ w = w' := by
  go_enter Tryd.func23, Tryd.ntmps23
  go_wp2
  all_goals (go_ret; exact ⟨ret_bool (by simp [white, *]), rfl⟩)
theorem space_any (r : Int) (w : World) :
    Calls Tryd.prog 41 #[.int .i32 r] w fun e w' => e = .returned (.bool (white r)) ∧ w = w' := by
  go_enter Tryd.func41, Tryd.ntmps41
  go_wp2
  all_goals (go_ret; exact ⟨ret_bool (by simp [white, *]), rfl⟩)

/-- whether a line may be broken between two characters -/
def mayB (a b : Int) : Bool :=
  if white b = true ∨ units b = 0 then false
  else if white a = true ∨ (a = 45 ∧ b ≠ 45) then true
  else decide (a ≥ 11904 ∨ b ≥ 11904)
set_option maxHeartbeats 400000 in
theorem between_any (a b : Int) (w : World) :
    Calls Tryd.prog 36 #[.int .i32 a, .int .i32 b] w fun e w' => e = .returned (.bool (mayB a b)) ∧ w = w' := by
  go_enter Tryd.func36, Tryd.ntmps36
  go_wp2_with (first | (go_at_call 41; refine (space_any _ _).mono ?_; rintro e w' ⟨rfl, rfl⟩) | (go_at_call 13; refine (units_any _ _).mono ?_; rintro e w' ⟨rfl, rfl⟩))
  all_goals
    go_ret
    refine ⟨ret_bool ?_, rfl⟩
    unfold mayB
    simp_all
    try omega
set_option maxHeartbeats 400000 in
theorem may_any (a b : Int) (w : World) :
    Calls Tryd.prog 37 #[.int .i32 a, .int .i32 b] w fun e w' => e = .returned (.bool (mayB a b)) ∧ w = w' := by
  go_enter Tryd.func37, Tryd.ntmps37
  go_wp2_with (first | (go_at_call 23; refine (rwhite_any _ _).mono ?_; rintro e w' ⟨rfl, rfl⟩) | (go_at_call 14; refine (runits_any _ _).mono ?_; rintro e w' ⟨rfl, rfl⟩))
  all_goals
    go_ret
    refine ⟨ret_bool ?_, rfl⟩
    unfold mayB
    simp_all
    try omega

end Go.Proofs.YtcpklmolofbopaaDoor
