/- Cookies: domains and paths, in both packages. -/
import Derived.Test.YtgjooigolgdocaaGreatDoorUD
import Derived.Shelf.Strings.SlTrimAscii
namespace Go.Proofs.YtgjooigolgdocaaGreatDoor
set_option linter.unusedVariables false
set_option linter.unusedSimpArgs false
open Go.RowKit

def numB (b : UInt8) : Bool := digitB b || b == 46
def numericL (l : List UInt8) : Bool := l.all numB
/-- a host belongs to a domain -/
def domL (h d : List UInt8) : Bool := !d.isEmpty && (h == d || (Lib.hasSuffix h (46 :: d) && !numericL h))
/-- a path belongs to a prefix -/
def pathL (p q : List UInt8) : Bool := p == q || (Lib.hasPrefix p q && (Lib.hasSuffix q [47] || (p.drop q.length).head? == some 47))
def befL (l : List UInt8) : List UInt8 := ((l.reverse.dropWhile (· != 47)).drop 1).reverse
/-- the part before the last slash -/
def defpL (l : List UInt8) : List UInt8 := if l.head? ≠ some 47 ∨ befL l = [] then [47] else befL l

theorem suf_iff (s t : ByteArray) (h : t.size ≤ s.size) : ((s.extract (s.size - t.size) s.size).toList == t.toList) = Lib.hasSuffix s.data.toList t.data.toList := by
  rw [ByteArray.toList_eq, ByteArray.toList_eq, ext_to, Lib.hasSuffix, Bool.eq_iff_iff, beq_iff_eq, List.isSuffixOf_iff_suffix, List.suffix_iff_eq_drop]
  rw [size_len, size_len]
  exact ⟨fun e => e.symm, fun e => e.symm⟩
theorem suf_short (s t : ByteArray) (h : ¬ t.size ≤ s.size) : Lib.hasSuffix s.data.toList t.data.toList = false := by
  rw [Lib.hasSuffix, Bool.eq_false_iff, ne_eq, List.isSuffixOf_iff_suffix]
  intro e
  have := e.length_le
  rw [size_len, size_len] at this
  omega
theorem pre_iff (s t : ByteArray) : ((s.extract 0 t.size).toList == t.toList) = Lib.hasPrefix s.data.toList t.data.toList := by
  rw [ByteArray.toList_eq, ByteArray.toList_eq, ext_from, Lib.hasPrefix, Bool.eq_iff_iff, beq_iff_eq, List.isPrefixOf_iff_prefix, List.prefix_iff_eq_take]
  rw [size_len]
  exact ⟨fun e => e.symm, fun e => e.symm⟩
theorem pre_short (s t : ByteArray) (h : ¬ t.size ≤ s.size) : Lib.hasPrefix s.data.toList t.data.toList = false := by
  rw [Lib.hasPrefix, Bool.eq_false_iff, ne_eq, List.isPrefixOf_iff_prefix]
  intro e
  have := e.length_le
  rw [size_len, size_len] at this
  omega
theorem endsb_any (s t : ByteArray) (w : World) (hs : s.size ≤ 1000000) (ht : t.size ≤ 1000001) :
    Calls Tryz.prog 54 #[.string s, .string t] w fun e w' => e = .returned (.bool (Lib.hasSuffix s.data.toList t.data.toList)) ∧ w = w' := by
  by_cases h : t.size ≤ s.size
  · have H := Lib.hid (suf_iff s t h)
    obtain ⟨R, hR⟩ : ∃ R, Lib.hasSuffix s.data.toList t.data.toList = R := ⟨_, rfl⟩
    rw [hR] at H ⊢
    have hle : (t.size : Int) ≤ s.size := by omega
    clear hR
    go_enter Tryz.func54, Tryz.ntmps54
    go_wp2_with fail
    go_ret
    exact ⟨ret_bool H.out, rfl⟩
  · rw [suf_short s t h]
    have hle : ¬ (t.size : Int) ≤ s.size := by omega
    go_enter Tryz.func54, Tryz.ntmps54
    go_wp2_with fail
    go_ret
    exact ⟨rfl, rfl⟩
theorem ends_any (s t : ByteArray) (w : World) (hs : s.size ≤ 1000000) (ht : t.size ≤ 1000000) :
    Calls Tryz.prog 54 #[.string s, .string t] w fun e w' => e = .returned (.bool (Lib.hasSuffix s.data.toList t.data.toList)) ∧ w = w' := endsb_any s t w hs (by omega)
theorem starts_any (s t : ByteArray) (w : World) (hs : s.size ≤ 1000000) (ht : t.size ≤ 1000000) :
    Calls Tryz.prog 51 #[.string s, .string t] w fun e w' => e = .returned (.bool (Lib.hasPrefix s.data.toList t.data.toList)) ∧ w = w' := by
  by_cases h : t.size ≤ s.size
  · have H := Lib.hid (pre_iff s t)
    obtain ⟨R, hR⟩ : ∃ R, Lib.hasPrefix s.data.toList t.data.toList = R := ⟨_, rfl⟩
    rw [hR] at H ⊢
    have hle : (t.size : Int) ≤ s.size := by omega
    clear hR
    go_enter Tryz.func51, Tryz.ntmps51
    go_wp2_with fail
    go_ret
    exact ⟨ret_bool H.out, rfl⟩
  · rw [pre_short s t h]
    have hle : ¬ (t.size : Int) ≤ s.size := by omega
    go_enter Tryz.func51, Tryz.ntmps51
    go_wp2_with fail
    go_ret
    exact ⟨rfl, rfl⟩
theorem numeric_any (s : ByteArray) (w : World) (hs : s.size ≤ 1000000) :
    Calls Tryz.prog 55 #[.string s] w fun e w' => e = .returned (.bool (numericL s.data.toList)) ∧ w = w' := by
  obtain ⟨R, hR⟩ : ∃ R, numericL s.data.toList = R := ⟨_, rfl⟩
  rw [hR]
  have HR := Lib.hid hR
  clear hR
  go_enter Tryz.func55, Tryz.ntmps55
  go_wp2
  go_loop [3] (fun i => ∃ k : Nat, k ≤ s.size ∧ i = .int .i64 k ∧ numericL (s.data.toList.drop k) = R) (fun i => s.size - (intOf i).toNat)
  case atStart => exact ⟨0, Nat.zero_le _, rfl, HR.out⟩
  case round =>
    obtain ⟨k, hk, rfl, hf⟩ := hrel
    by_cases hlt : k < s.size
    · rw [drop_at s k hlt, numericL, List.all_cons] at hf
      have hn : numB s[k] = (digitI s[k].toNat || ((s[k].toNat : Int) == 46)) := by
        unfold numB digitB
        congr 1
        rw [Bool.eq_iff_iff, beq_iff_eq, beq_iff_eq]
        exact ⟨fun e => by rw [e]; rfl, fun e => UInt8.toNat_inj.1 (by have : (46 : UInt8).toNat = 46 := rfl; omega)⟩
      have HN := Lib.hid hn
      have HF := Lib.hid hf
      clear hf hn
      by_cases hc : (s[k].toNat : Int) = 46
      · have hcb : ((s[k].toNat : Int) == 46) = true := beq_iff_eq.2 hc
        have hcc : ((s[k].toNat : Int) != 46) = false := by simp [hc]
        clear hc
        go_wp2_with (go_at_call 82; refine (rdigit_any _ _).mono ?_; rintro e w' ⟨rfl, rfl⟩)
        all_goals
          go_round
          case rel => exact ⟨k + 1, by omega, by go_num, by rw [← HF.out, HN.out, hcb]; simp [numericL]⟩
          case measure => simp [intOf]; omega
      · have hcb : ((s[k].toNat : Int) == 46) = false := beq_eq_false_iff_ne.2 hc
        have hcc : ((s[k].toNat : Int) != 46) = true := by simp [hc]
        clear hc
        obtain ⟨D, hD⟩ : ∃ D, digitI s[k].toNat = D := ⟨_, rfl⟩
        have cD := fun w => rdigit_any (s[k].toNat : Int) w
        rw [hD] at cD
        have CD := Lib.hid cD
        have HD := Lib.hid hD
        clear cD hD
        cases D
        · go_wp2_with (go_at_call 82; with_reducible refine (CD.out _).mono ?_; rintro e w' ⟨rfl, rfl⟩)
          go_ret
          exact ⟨ret_bool (by rw [← HF.out, HN.out, hcb, HD.out]; rfl), rfl⟩
        · go_wp2_with (go_at_call 82; with_reducible refine (CD.out _).mono ?_; rintro e w' ⟨rfl, rfl⟩)
          go_round
          case rel => exact ⟨k + 1, by omega, by go_num, by rw [← HF.out, HN.out, HD.out]; simp [numericL]⟩
          case measure => simp [intOf]; omega
    · rw [drop_end s k (by omega)] at hf
      have HF := Lib.hid hf
      clear hf
      go_wp2
      go_ret
      exact ⟨ret_bool (by rw [← HF.out]; rfl), rfl⟩
abbrev numCut : ByteArray := ⟨#[48, 49, 50, 51, 52, 53, 54, 55, 56, 57, 46]⟩
theorem trimcs_any (s cs : ByteArray) (w : World) (hs : s.size ≤ 1000000) (hcs : cs.size ≤ 1000) (ha : cs.data.toList.all (fun b => decide (b.toNat < 128)) = true) :
    Calls Tryz.prog 53 #[.string s, .string cs] w fun e w' => e = .returned (.string ⟨(Lib.trimS s.data.toList cs.data.toList).toArray⟩) ∧ Below w.heap.size w w' :=
  Any.strings_Trim_laid Tryz.lays160 (by kernel_rfl) s cs w (by omega) (by omega) (ascii_of_all ha)
theorem dropW_nil {p : UInt8 → Bool} (l : List UInt8) : l.dropWhile p = [] ↔ l.all p = true := by
  induction l with
  | nil => simp
  | cons b l ih =>
    rw [List.dropWhile_cons, List.all_cons]
    cases h : p b with
    | true => simp [ih]
    | false => simp
theorem trimS_nil (l cs : List UInt8) : Lib.trimS l cs = [] ↔ l.all (cs.contains ·) = true := by
  unfold Lib.trimS Lib.trimLeftS Lib.trimRightS
  rw [dropW_nil, List.all_reverse]
  constructor
  · intro h
    have h2 : l.reverse.dropWhile (cs.contains ·) = [] := by
      cases e : l.reverse.dropWhile (cs.contains ·) with
      | nil => rfl
      | cons b r =>
        have := List.head?_dropWhile_not (p := (cs.contains ·)) (l := l.reverse)
        rw [e] at this h
        simp at this h
        exact absurd h.1 this
    rw [dropW_nil, List.all_reverse] at h2
    exact h2
  · intro h
    have : l.reverse.dropWhile (cs.contains ·) = [] := by rw [dropW_nil, List.all_reverse]; exact h
    rw [this]; rfl
theorem numB_in : ∀ b : UInt8, numCut.data.toList.contains b = numB b := by
  have : ∀ n : Fin 256, numCut.data.toList.contains (UInt8.ofNat n.1) = numB (UInt8.ofNat n.1) := by decide +kernel
  intro b
  have h := this ⟨b.toNat, b.toNat_lt⟩
  simpa using h
theorem trimS_num (l : List UInt8) : (Lib.trimS l numCut.data.toList).isEmpty = numericL l := by
  rw [Bool.eq_iff_iff, List.isEmpty_iff, trimS_nil]
  unfold numericL
  rw [show (fun b => numCut.data.toList.contains b) = numB from funext numB_in]
end Go.Proofs.YtgjooigolgdocaaGreatDoor
