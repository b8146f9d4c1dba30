/- Texts: trimming, finding a byte, cutting. -/
import Derived.Test.YtgjooigolgdocaaGreatDoorUA
namespace Go.Proofs.YtgjooigolgdocaaGreatDoor
set_option linter.unusedVariables false
set_option linter.unusedSimpArgs false
open Go.RowKit

def strLen : Value → Nat
  | .string s => s.size
  | _ => 0
theorem ext_list (s : ByteArray) (a b : Nat) : (s.extract a b).data.toList = (s.data.toList.drop a).take (b - a) := by
  simp [ByteArray.data_extract, List.drop_take, Array.toList_extract, List.extract_eq_take_drop]
theorem ext_to (s : ByteArray) (a : Nat) : (s.extract a s.size).data.toList = s.data.toList.drop a := by
  rw [ext_list, List.take_of_length_le (by simp)]
theorem ext_from (s : ByteArray) (b : Nat) : (s.extract 0 b).data.toList = s.data.toList.take b := by
  rw [ext_list]; simp
theorem empty_of (s : ByteArray) (h : s.size = 0) : s.toList.isEmpty = true := by
  rw [List.isEmpty_iff, ByteArray.toList_eq]; exact List.eq_nil_of_length_eq_zero (by rw [size_len]; exact h)
theorem nonempty_of (s : ByteArray) (h : 0 < s.size) : s.toList.isEmpty = false := by
  cases e : s.toList.isEmpty with
  | false => rfl
  | true =>
    rw [List.isEmpty_iff, ByteArray.toList_eq] at e
    have := size_len s
    rw [e] at this
    simp at this
    omega
def wsB (b : UInt8) : Bool := decide (b.toNat ≤ 32)
def trimF (l : List UInt8) : List UInt8 := l.dropWhile wsB
def trimE (l : List UInt8) : List UInt8 := (l.reverse.dropWhile wsB).reverse
def trimL (l : List UInt8) : List UInt8 := trimE (trimF l)
theorem trimE_snoc (l : List UInt8) (b : UInt8) : trimE (l ++ [b]) = if wsB b then trimE l else l ++ [b] := by
  unfold trimE
  rw [List.reverse_append, List.reverse_cons, List.reverse_nil, List.nil_append, List.singleton_append, List.dropWhile_cons]
  split <;> simp
theorem snoc_at (s : ByteArray) (k : Nat) (h : s.size = k + 1) : s.data.toList = s.data.toList.take k ++ [s[k]] := by
  have := List.take_succ_eq_append_getElem (i := k) (l := s.data.toList) (by simp; omega)
  rw [List.take_of_length_le (by simp; omega)] at this
  exact this
set_option maxHeartbeats 400000 in
theorem trim_any (s : ByteArray) (w : World) (hs : s.size ≤ 1000000) :
    Calls Tryz.prog 117 #[.string s] w fun e w' => ∃ t : ByteArray, e = .returned (.string t) ∧ t.data.toList = trimL s.data.toList ∧ w = w' := by
  obtain ⟨R, hR⟩ : ∃ R, trimL s.data.toList = R := ⟨_, rfl⟩
  rw [hR]
  have HR := Lib.hid hR
  clear hR
  go_enter Tryz.func117, Tryz.ntmps117
  go_wp2
  go_loop [0] (fun v => ∃ t : ByteArray, t.size ≤ 1000000 ∧ v = .string t ∧ trimL t.data.toList = R) strLen
  case atStart => exact ⟨s, hs, rfl, HR.out⟩
  case round =>
    obtain ⟨t, ht, rfl, hr⟩ := hrel
    by_cases h0 : t.size = 0
    · have hE := empty_of t h0
      have hl : t.data.toList = [] := List.eq_nil_of_length_eq_zero (by rw [size_len]; exact h0)
      have hr2 : trimE t.data.toList = R := by rw [← hr, hl]; rfl
      have HR2 := Lib.hid hr2
      have hz : (t.size : Int) = 0 := by omega
      clear hr hl hr2
      go_wp2_with fail
      go_loop [0] (fun v => ∃ t : ByteArray, t.size ≤ 1000000 ∧ v = .string t ∧ trimE t.data.toList = R) strLen
      case atStart => exact ⟨t, ht, rfl, HR2.out⟩
      case round =>
        clear hE
        obtain ⟨x, hx, rfl, hr3⟩ := hrel
        by_cases hx0 : x.size = 0
        · have hE := empty_of x hx0
          have hxl : x.data.toList = [] := List.eq_nil_of_length_eq_zero (by rw [size_len]; exact hx0)
          have hr4 : x.data.toList = R := by rw [← hr3, hxl]; rfl
          have HR4 := Lib.hid hr4
          have hxz : (x.size : Int) = 0 := by omega
          clear hr3 hxl hr4
          go_wp2_with fail
          go_ret
          exact ⟨x, rfl, HR4.out, rfl⟩
        · have hE := nonempty_of x (by omega)
          obtain ⟨k, hk⟩ : ∃ k, x.size = k + 1 := ⟨x.size - 1, by omega⟩
          have hs3 := snoc_at x k hk
          have hkx : (x.size : Int) - 1 = k := by omega
          have hkp : (0 : Int) < (x.size : Int) := by omega
          by_cases hc3 : x[k].toNat ≤ 32
          · have hci3 : (x[k].toNat : Int) ≤ 32 := by omega
            have hr4 : trimE (x.extract 0 k).data.toList = R := by
              have e := trimE_snoc (x.data.toList.take k) x[k]
              rw [if_pos (by simpa [wsB] using hc3), ← hs3] at e
              rw [ext_from, ← e]; exact hr3
            have HR4 := Lib.hid hr4
            clear hr3 hs3 hr4
            go_wp2_with fail
            go_round
            case rel => exact ⟨x.extract 0 k, by simp; omega, rfl, HR4.out⟩
            case measure => simp [strLen]; omega
          · have hci3 : ¬ (x[k].toNat : Int) ≤ 32 := by omega
            have hr4 : x.data.toList = R := by
              have e := trimE_snoc (x.data.toList.take k) x[k]
              rw [if_neg (by simpa [wsB] using hc3), ← hs3] at e
              rw [← e]; exact hr3
            have HR4 := Lib.hid hr4
            clear hr3 hs3 hr4
            go_wp2_with fail
            go_ret
            exact ⟨x, rfl, HR4.out, rfl⟩
    · have hE := nonempty_of t (by omega)
      have hd := drop_at t 0 (by omega)
      rw [List.drop_zero] at hd
      have hp : 0 < t.size := by omega
      have hpi : (0 : Int) < (t.size : Int) := by omega
      by_cases hc : t[0].toNat ≤ 32
      · have hci : (t[0].toNat : Int) ≤ 32 := by omega
        have hr2 : trimL (t.extract 1 t.size).data.toList = R := by
          rw [ext_to, ← hr, hd]
          unfold trimL trimF
          rw [List.dropWhile_cons, if_pos (by simpa [wsB] using hc)]
          simp
        have HR2 := Lib.hid hr2
        clear hr hd hr2
        go_wp2_with fail
        go_round
        case rel => exact ⟨t.extract 1 t.size, by simp; omega, rfl, HR2.out⟩
        case measure => simp [strLen]; omega
      · have hci : ¬ (t[0].toNat : Int) ≤ 32 := by omega
        have hr2 : trimE t.data.toList = R := by
          rw [← hr, hd]
          unfold trimL trimF
          rw [List.dropWhile_cons, if_neg (by simpa [wsB] using hc)]
        have HR2 := Lib.hid hr2
        clear hr hd hr2
        go_wp2_with fail
        go_loop [0] (fun v => ∃ t : ByteArray, t.size ≤ 1000000 ∧ v = .string t ∧ trimE t.data.toList = R) strLen
        case atStart => exact ⟨t, ht, rfl, HR2.out⟩
        case round =>
          clear hE
          obtain ⟨x, hx, rfl, hr3⟩ := hrel
          by_cases hx0 : x.size = 0
          · have hE := empty_of x hx0
            have hxl : x.data.toList = [] := List.eq_nil_of_length_eq_zero (by rw [size_len]; exact hx0)
            have hr4 : x.data.toList = R := by rw [← hr3, hxl]; rfl
            have HR4 := Lib.hid hr4
            have hxz : (x.size : Int) = 0 := by omega
            clear hr3 hxl hr4
            go_wp2_with fail
            go_ret
            exact ⟨x, rfl, HR4.out, rfl⟩
          · have hE := nonempty_of x (by omega)
            obtain ⟨k, hk⟩ : ∃ k, x.size = k + 1 := ⟨x.size - 1, by omega⟩
            have hs3 := snoc_at x k hk
            have hkx : (x.size : Int) - 1 = k := by omega
            have hkp : (0 : Int) < (x.size : Int) := by omega
            by_cases hc3 : x[k].toNat ≤ 32
            · have hci3 : (x[k].toNat : Int) ≤ 32 := by omega
              have hr4 : trimE (x.extract 0 k).data.toList = R := by
                have e := trimE_snoc (x.data.toList.take k) x[k]
                rw [if_pos (by simpa [wsB] using hc3), ← hs3] at e
                rw [ext_from, ← e]; exact hr3
              have HR4 := Lib.hid hr4
              clear hr3 hs3 hr4
              go_wp2_with fail
              go_round
              case rel => exact ⟨x.extract 0 k, by simp; omega, rfl, HR4.out⟩
              case measure => simp [strLen]; omega
            · have hci3 : ¬ (x[k].toNat : Int) ≤ 32 := by omega
              have hr4 : x.data.toList = R := by
                have e := trimE_snoc (x.data.toList.take k) x[k]
                rw [if_neg (by simpa [wsB] using hc3), ← hs3] at e
                rw [← e]; exact hr3
              have HR4 := Lib.hid hr4
              clear hr3 hs3 hr4
              go_wp2_with fail
              go_ret
              exact ⟨x, rfl, HR4.out, rfl⟩
set_option maxHeartbeats 400000 in
theorem rtrim_any (s : ByteArray) (w : World) (hs : s.size ≤ 1000000) :
    Calls Tryz.prog 132 #[.string s] w fun e w' => ∃ t : ByteArray, e = .returned (.string t) ∧ t.data.toList = trimL s.data.toList ∧ w = w' := by
  obtain ⟨R, hR⟩ : ∃ R, trimL s.data.toList = R := ⟨_, rfl⟩
  rw [hR]
  have HR := Lib.hid hR
  clear hR
  go_enter Tryz.func132, Tryz.ntmps132
  go_wp2
  go_loop [0] (fun v => ∃ t : ByteArray, t.size ≤ 1000000 ∧ v = .string t ∧ trimL t.data.toList = R) strLen
  case atStart => exact ⟨s, hs, rfl, HR.out⟩
  case round =>
    obtain ⟨t, ht, rfl, hr⟩ := hrel
    by_cases h0 : t.size = 0
    · have hE := empty_of t h0
      have hl : t.data.toList = [] := List.eq_nil_of_length_eq_zero (by rw [size_len]; exact h0)
      have hr2 : trimE t.data.toList = R := by rw [← hr, hl]; rfl
      have HR2 := Lib.hid hr2
      have hz : (t.size : Int) = 0 := by omega
      clear hr hl hr2
      go_wp2_with fail
      go_loop [0] (fun v => ∃ t : ByteArray, t.size ≤ 1000000 ∧ v = .string t ∧ trimE t.data.toList = R) strLen
      case atStart => exact ⟨t, ht, rfl, HR2.out⟩
      case round =>
        clear hE
        obtain ⟨x, hx, rfl, hr3⟩ := hrel
        by_cases hx0 : x.size = 0
        · have hE := empty_of x hx0
          have hxl : x.data.toList = [] := List.eq_nil_of_length_eq_zero (by rw [size_len]; exact hx0)
          have hr4 : x.data.toList = R := by rw [← hr3, hxl]; rfl
          have HR4 := Lib.hid hr4
          have hxz : (x.size : Int) = 0 := by omega
          clear hr3 hxl hr4
          go_wp2_with fail
          go_ret
          exact ⟨x, rfl, HR4.out, rfl⟩
        · have hE := nonempty_of x (by omega)
          obtain ⟨k, hk⟩ : ∃ k, x.size = k + 1 := ⟨x.size - 1, by omega⟩
          have hs3 := snoc_at x k hk
          have hkx : (x.size : Int) - 1 = k := by omega
          have hkp : (0 : Int) < (x.size : Int) := by omega
          by_cases hc3 : x[k].toNat ≤ 32
          · have hci3 : (x[k].toNat : Int) ≤ 32 := by omega
            have hr4 : trimE (x.extract 0 k).data.toList = R := by
              have e := trimE_snoc (x.data.toList.take k) x[k]
              rw [if_pos (by simpa [wsB] using hc3), ← hs3] at e
              rw [ext_from, ← e]; exact hr3
            have HR4 := Lib.hid hr4
            clear hr3 hs3 hr4
            go_wp2_with fail
            go_round
            case rel => exact ⟨x.extract 0 k, by simp; omega, rfl, HR4.out⟩
            case measure => simp [strLen]; omega
          · have hci3 : ¬ (x[k].toNat : Int) ≤ 32 := by omega
            have hr4 : x.data.toList = R := by
              have e := trimE_snoc (x.data.toList.take k) x[k]
              rw [if_neg (by simpa [wsB] using hc3), ← hs3] at e
              rw [← e]; exact hr3
            have HR4 := Lib.hid hr4
            clear hr3 hs3 hr4
            go_wp2_with fail
            go_ret
            exact ⟨x, rfl, HR4.out, rfl⟩
    · have hE := nonempty_of t (by omega)
      have hd := drop_at t 0 (by omega)
      rw [List.drop_zero] at hd
      have hp : 0 < t.size := by omega
      have hpi : (0 : Int) < (t.size : Int) := by omega
      by_cases hc : t[0].toNat ≤ 32
      · have hci : (t[0].toNat : Int) ≤ 32 := by omega
        have hr2 : trimL (t.extract 1 t.size).data.toList = R := by
          rw [ext_to, ← hr, hd]
          unfold trimL trimF
          rw [List.dropWhile_cons, if_pos (by simpa [wsB] using hc)]
          simp
        have HR2 := Lib.hid hr2
        clear hr hd hr2
        go_wp2_with fail
        go_round
        case rel => exact ⟨t.extract 1 t.size, by simp; omega, rfl, HR2.out⟩
        case measure => simp [strLen]; omega
      · have hci : ¬ (t[0].toNat : Int) ≤ 32 := by omega
        have hr2 : trimE t.data.toList = R := by
          rw [← hr, hd]
          unfold trimL trimF
          rw [List.dropWhile_cons, if_neg (by simpa [wsB] using hc)]
        have HR2 := Lib.hid hr2
        clear hr hd hr2
        go_wp2_with fail
        go_loop [0] (fun v => ∃ t : ByteArray, t.size ≤ 1000000 ∧ v = .string t ∧ trimE t.data.toList = R) strLen
        case atStart => exact ⟨t, ht, rfl, HR2.out⟩
        case round =>
          clear hE
          obtain ⟨x, hx, rfl, hr3⟩ := hrel
          by_cases hx0 : x.size = 0
          · have hE := empty_of x hx0
            have hxl : x.data.toList = [] := List.eq_nil_of_length_eq_zero (by rw [size_len]; exact hx0)
            have hr4 : x.data.toList = R := by rw [← hr3, hxl]; rfl
            have HR4 := Lib.hid hr4
            have hxz : (x.size : Int) = 0 := by omega
            clear hr3 hxl hr4
            go_wp2_with fail
            go_ret
            exact ⟨x, rfl, HR4.out, rfl⟩
          · have hE := nonempty_of x (by omega)
            obtain ⟨k, hk⟩ : ∃ k, x.size = k + 1 := ⟨x.size - 1, by omega⟩
            have hs3 := snoc_at x k hk
            have hkx : (x.size : Int) - 1 = k := by omega
            have hkp : (0 : Int) < (x.size : Int) := by omega
            by_cases hc3 : x[k].toNat ≤ 32
            · have hci3 : (x[k].toNat : Int) ≤ 32 := by omega
              have hr4 : trimE (x.extract 0 k).data.toList = R := by
                have e := trimE_snoc (x.data.toList.take k) x[k]
                rw [if_pos (by simpa [wsB] using hc3), ← hs3] at e
                rw [ext_from, ← e]; exact hr3
              have HR4 := Lib.hid hr4
              clear hr3 hs3 hr4
              go_wp2_with fail
              go_round
              case rel => exact ⟨x.extract 0 k, by simp; omega, rfl, HR4.out⟩
              case measure => simp [strLen]; omega
            · have hci3 : ¬ (x[k].toNat : Int) ≤ 32 := by omega
              have hr4 : x.data.toList = R := by
                have e := trimE_snoc (x.data.toList.take k) x[k]
                rw [if_neg (by simpa [wsB] using hc3), ← hs3] at e
                rw [← e]; exact hr3
              have HR4 := Lib.hid hr4
              clear hr3 hs3 hr4
              go_wp2_with fail
              go_ret
              exact ⟨x, rfl, HR4.out, rfl⟩
end Go.Proofs.YtgjooigolgdocaaGreatDoor
