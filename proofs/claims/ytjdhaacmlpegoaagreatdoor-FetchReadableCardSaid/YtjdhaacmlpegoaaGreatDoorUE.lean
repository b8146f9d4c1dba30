/- Percent codes: whether one begins at an offset, the code of a byte. -/
import Derived.Test.YtjdhaacmlpegoaaGreatDoorB1
namespace Go.Proofs.YtjdhaacmlpegoaaGreatDoor
set_option linter.unusedVariables false
set_option linter.unusedSimpArgs false
open Go.RowKit

def codedL : List UInt8 → Bool
  | c :: a :: b :: _ => c == 37 && decide (0 ≤ hexB a) && decide (0 ≤ hexB b)
  | _ => false
theorem drop3 (s : ByteArray) (i : Nat) (h : i + 2 < s.size) : s.data.toList.drop i = s[i] :: s[i + 1] :: s[i + 2] :: s.data.toList.drop (i + 3) := by
  rw [drop_at s i (by omega), drop_at s (i + 1) (by omega), drop_at s (i + 2) h]
theorem codedL_short (l : List UInt8) (h : l.length ≤ 2) : codedL l = false := by
  match l, h with
  | [], _ => rfl
  | [_], _ => rfl
  | [_, _], _ => rfl
theorem codedL_no (c : UInt8) (l : List UInt8) (h : c ≠ 37) : codedL (c :: l) = false := by
  match l with
  | [] => rfl
  | [_] => rfl
  | _ :: _ :: _ => simp [codedL, h]
theorem coded_any (s : ByteArray) (i : Nat) (w : World) (hs : s.size ≤ 1000000) (hi : i < s.size) :
    Calls Tryz.prog 109 #[.string s, .int .i64 (i : Int)] w fun e w' => e = .returned (.bool (codedL (s.data.toList.drop i))) ∧ w = w' := by
  by_cases hc : s[i] = 37
  · by_cases h2 : i + 2 < s.size
    · have h2i : (i : Int) + 2 < (s.size : Int) := by omega
      have hii : (0 : Int) ≤ (i : Int) := by omega
      rw [drop3 s i h2, codedL, hc]
      have ba := hexI_bd (s[i + 1].toNat : Int)
      have bb := hexI_bd (s[i + 2].toNat : Int)
      have cA := fun w => hex_any (s[i + 1].toNat : Int) w (byte_bd _)
      have cB := fun w => hex_any (s[i + 2].toNat : Int) w (byte_bd _)
      have e1 : hexB s[i + 1] = hexI (s[i + 1].toNat : Int) := rfl
      have e2 : hexB s[i + 2] = hexI (s[i + 2].toNat : Int) := rfl
      rw [e1, e2]
      obtain ⟨x, hx⟩ : ∃ x, hexI (s[i + 1].toNat : Int) = x := ⟨_, rfl⟩
      obtain ⟨y, hy⟩ : ∃ y, hexI (s[i + 2].toNat : Int) = y := ⟨_, rfl⟩
      rw [hx] at ba cA ⊢
      rw [hy] at bb cB ⊢
      have A := Lib.hid cA
      have B := Lib.hid cB
      have hci : (s[i].toNat : Int) = 37 := by rw [hc]; rfl
      clear cA cB hx hy e1 e2 hc
      go_enter Tryz.func109, Tryz.ntmps109
      go_wp2_with (first
        | (go_at_call 160; with_reducible refine (A.out _).mono ?_; rintro e w' ⟨rfl, rfl⟩)
        | (go_at_call 160; with_reducible refine (B.out _).mono ?_; rintro e w' ⟨rfl, rfl⟩))
      all_goals (go_ret; exact ⟨ret_bool (by simp [*] <;> omega), rfl⟩)
    · rw [codedL_short _ (by simp; omega)]
      have h2i : ¬ (i : Int) + 2 < (s.size : Int) := by omega
      have hii : (0 : Int) ≤ (i : Int) := by omega
      have hci : (s[i].toNat : Int) = 37 := by rw [hc]; rfl
      clear hc
      go_enter Tryz.func109, Tryz.ntmps109
      go_wp2_with fail
      all_goals (go_ret; exact ⟨ret_bool (by simp [*] <;> omega), rfl⟩)
  · rw [drop_at s i hi, codedL_no _ _ hc]
    have hci : ¬ (s[i].toNat : Int) = 37 := fun e => hc (UInt8.toNat_inj.1 (by rw [show (37 : UInt8).toNat = 37 from rfl]; omega))
    clear hc
    go_enter Tryz.func109, Tryz.ntmps109
    go_wp2_with fail
    all_goals (go_ret; exact ⟨ret_bool (by simp [*] <;> omega), rfl⟩)
end Go.Proofs.YtjdhaacmlpegoaaGreatDoor
