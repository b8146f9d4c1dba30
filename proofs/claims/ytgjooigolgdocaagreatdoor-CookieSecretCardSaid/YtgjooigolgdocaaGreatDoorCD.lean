/- Cookies: what a field sets (plain); control characters. -/
import Derived.Test.YtgjooigolgdocaaGreatDoorCC
import Derived.Test.YtgjooigolgdocaaGreatDoorCM
import Derived.Test.YtgjooigolgdocaaGreatDoorUN
namespace Go.Proofs.YtgjooigolgdocaaGreatDoor
set_option linter.unusedVariables false
set_option linter.unusedSimpArgs false
open Go.RowKit

/-- a cookie -/
structure Ck where
  n : ByteArray
  v : ByteArray
  d : ByteArray
  p : ByteArray
  ho : Bool
  se : Bool
  hi : Bool
  ex : Int
  cr : Int
abbrev ckL (c : Ck) : List Value := [.string c.n, .string c.v, .string c.d, .string c.p, .bool c.ho, .bool c.se, .bool c.hi, .int .i64 c.ex, .int .i64 c.cr]
abbrev ckA (c : Ck) : Value := .agg #[.string c.n, .string c.v, .string c.d, .string c.p, .bool c.ho, .bool c.se, .bool c.hi, .int .i64 c.ex, .int .i64 c.cr]
def E : ByteArray := ⟨#[]⟩
abbrev ck0 : Ck := ⟨⟨#[]⟩, ⟨#[]⟩, ⟨#[]⟩, ⟨#[]⟩, false, false, false, 0, 0⟩
def bs (l : List UInt8) : ByteArray := ⟨l.toArray⟩
theorem bs_list (l : List UInt8) : (bs l).data.toList = l := rfl
theorem bs_size (l : List UInt8) : (bs l).size = l.length := by rw [← size_len]; rfl
theorem bs_of {t : ByteArray} {l : List UInt8} (h : t.data.toList = l) : t = bs l := ba_ext' h

abbrev maxageL : List UInt8 := [109, 97, 120, 45, 97, 103, 101]
abbrev domainL : List UInt8 := [100, 111, 109, 97, 105, 110]
abbrev pathwL : List UInt8 := [112, 97, 116, 104]
abbrev secureL : List UInt8 := [115, 101, 99, 117, 114, 101]
abbrev hidL : List UInt8 := [104, 116, 116, 112, 111, 110, 108, 121]
/-- a domain without its dot -/
def undot (l : List UInt8) : List UInt8 := if Lib.hasPrefix l [46] = true then l.drop 1 else l
/-- what a part with a name changes; host, path: the address's host, and its default path -/
def attrC (host path : ByteArray) (now : Int) (c : Ck) (name value : List UInt8) : Ck :=
  if name = maxageL then (match ageL value with | some n => { c with ex := clockI now + n * 1000 } | none => c)
  else if name = domainL then (if lowL (undot value) = [] then { c with d := host, ho := true } else { c with d := bs (lowL (undot value)), ho := false })
  else if name = pathwL then { c with p := if Lib.hasPrefix value [47] = true then bs value else path }
  else if name = secureL then { c with se := true }
  else if name = hidL then { c with hi := true }
  else c
def stepC (host path : ByteArray) (now : Int) (c : Ck) (part : List UInt8) : Ck := attrC host path now c (lowL (trimC (pre 61 part))) (trimC (post 61 part))
def ctlB (b : UInt8) : Bool := decide (b.toNat < 32) && b != 9 || b == 127
def ctlL (l : List UInt8) : Bool := l.any ctlB
def firstC (host path : ByteArray) (part : List UInt8) : Ck := ⟨bs (trimC (pre 61 part)), bs (trimC (post 61 part)), host, path, true, false, false, -1, 0⟩
def lastC (host scheme : List UInt8) (c : Ck) : Ck × Int :=
  if domL host c.d.data.toList = false ∨ (c.d.data.toList ≠ host ∧ c.d.data.toList.contains 46 = false) then (ck0, 15)
  else if c.se = true ∧ scheme ≠ httpsL then (ck0, 7)
  else (c, 0)
/-- the cookie that a field sets at an address, or the error -/
def parseC (field : List UInt8) (ok : Bool) (scheme host path : ByteArray) (now : Int) : Ck × Int :=
  if ok = false then (ck0, 7)
  else match segs 59 field with
    | [] => (ck0, 4)
    | p0 :: ps =>
      if p0.contains 61 = false ∨ trimC (pre 61 p0) = [] ∨ ctlL field = true then (ck0, 4)
      else lastC host.data.toList scheme.data.toList (ps.foldl (stepC host (bs (defpL path.data.toList)) now) (firstC host (bs (defpL path.data.toList)) p0))
def resC (r : Ck × Int) : Value := .tuple #[ckA r.1, .int .i64 r.2]

/-! control characters -/
def ctlN (n : Nat) : Bool := decide (n < 32) && decide (n ≠ 9) || decide (n = 127)
theorem ctlN_lt (n : Nat) (h : ctlN n = true) : n < 128 := by
  unfold ctlN at h
  simp only [Bool.or_eq_true, Bool.and_eq_true, decide_eq_true_eq] at h
  omega
theorem ctlB_is (b : UInt8) : ctlB b = ctlN b.toNat := by
  unfold ctlB ctlN
  have e1 : (b != 9) = decide (b.toNat ≠ 9) := by
    rw [Bool.eq_iff_iff, bne_iff_ne, decide_eq_true_eq]
    exact ⟨fun h e => h (UInt8.toNat_inj.1 e), fun h e => h (by rw [e]; rfl)⟩
  have e2 : (b == 127) = decide (b.toNat = 127) := by
    rw [Bool.eq_iff_iff, beq_iff_eq, decide_eq_true_eq]
    exact ⟨fun h => by rw [h]; rfl, fun h => UInt8.toNat_inj.1 h⟩
  rw [e1, e2]
theorem dec_cases (s : ByteArray) (i : Nat) :
    ((s.get! i).toNat < 128 ∧ Utf8.decode s i = ((s.get! i).toNat, 1)) ∨ (128 ≤ (s.get! i).toNat ∧ 128 ≤ (Utf8.decode s i).1 ∧ 1 ≤ (Utf8.decode s i).2 ∧ ∀ k, 1 ≤ k → k < (Utf8.decode s i).2 → i + k < s.size ∧ 128 ≤ (s.get! (i + k)).toNat) := by
  by_cases h0 : (s.get! i).toNat < 128
  · left
    refine ⟨h0, ?_⟩
    unfold Utf8.decode
    simp only [Nat.add_zero]
    rw [if_pos h0]
  · right
    refine ⟨by omega, ?_⟩
    have cc : ∀ k, (decide (i + k < s.size) && ((s.get! (i + k)).toNat / 64 == 2)) = true → i + k < s.size ∧ 128 ≤ (s.get! (i + k)).toNat := fun k h => by
      simp only [Bool.and_eq_true, decide_eq_true_eq, beq_iff_eq] at h
      omega
    unfold Utf8.decode
    simp only [Nat.add_zero]
    rw [if_neg h0]
    split
    · next h =>
      simp only [Bool.and_eq_true] at h
      have c1 := cc 1 (by simp only [Bool.and_eq_true]; exact h.2)
      split
      · next h2 => 
        refine ⟨h2, by simp, fun k hk1 hk2 => ?_⟩
        simp only at hk2
        obtain rfl : k = 1 := by omega
        exact c1
      · exact ⟨by decide, by omega, fun k hk1 hk2 => by simp at hk2; omega⟩
    · split
      · next h =>
        simp only [Bool.and_eq_true] at h
        have c1 := cc 1 (by simp only [Bool.and_eq_true]; exact h.1.2)
        have c2 := cc 2 (by simp only [Bool.and_eq_true]; exact h.2)
        split
        · next h2 =>
          simp only [Bool.and_eq_true, decide_eq_true_eq] at h2
          refine ⟨by simp only; omega, by simp, fun k hk1 hk2 => ?_⟩
          simp only at hk2
          rcases (by omega : k = 1 ∨ k = 2) with rfl | rfl
          · exact c1
          · exact c2
        · exact ⟨by decide, by omega, fun k hk1 hk2 => by simp at hk2; omega⟩
      · split
        · next h =>
          simp only [Bool.and_eq_true] at h
          have c1 := cc 1 (by simp only [Bool.and_eq_true]; exact h.1.1.2)
          have c2 := cc 2 (by simp only [Bool.and_eq_true]; exact h.1.2)
          have c3 := cc 3 (by simp only [Bool.and_eq_true]; exact h.2)
          split
          · next h2 =>
            simp only [Bool.and_eq_true, decide_eq_true_eq] at h2
            refine ⟨by simp only; omega, by simp, fun k hk1 hk2 => ?_⟩
            simp only at hk2
            rcases (by omega : k = 1 ∨ k = 2 ∨ k = 3) with rfl | rfl | rfl
            · exact c1
            · exact c2
            · exact c3
          · exact ⟨by decide, by omega, fun k hk1 hk2 => by simp at hk2; omega⟩
        · exact ⟨by decide, by omega, fun k hk1 hk2 => by simp at hk2; omega⟩
theorem get_at (s : ByteArray) (i : Nat) (h : i < s.size) : s.get! i = s[i] := by
  show s.data[i]! = _
  rw [getElem!_pos s.data i h]; rfl
theorem ctl_skip (s : ByteArray) : ∀ (n i : Nat), i + n ≤ s.size → (∀ k, k < n → 128 ≤ (s.get! (i + k)).toNat) → (s.data.toList.drop i).any ctlB = (s.data.toList.drop (i + n)).any ctlB := by
  intro n
  induction n with
  | zero => intro i _ _; rfl
  | succ n ih =>
    intro i h1 h2
    have hi : i < s.size := by omega
    have h3 := h2 0 (by omega)
    rw [Nat.add_zero, get_at s i hi] at h3
    have h4 : ctlB s[i] = false := by
      cases e : ctlB s[i] with
      | false => rfl
      | true => rw [ctlB_is] at e; have := ctlN_lt _ e; omega
    rw [drop_at s i hi, List.any_cons, h4, Bool.false_or, ih (i + 1) (by omega) (fun k hk => by have := h2 (k + 1) (by omega); rwa [show i + (k + 1) = i + 1 + k by omega] at this)]
    congr 2; omega
theorem ctl_from (s : ByteArray) : ∀ (f pos : Nat), s.size ≤ pos + f → decide (0 ≤ Lib.idxFuncFrom ctlN true s f pos) = (s.data.toList.drop pos).any ctlB := by
  intro f
  induction f with
  | zero =>
    intro pos h
    rw [drop_end s pos (by omega)]; rfl
  | succ f ih =>
    intro pos h
    unfold Lib.idxFuncFrom
    by_cases hp : pos < s.size
    · rw [if_pos hp]
      rcases dec_cases s pos with ⟨h1, h2⟩ | ⟨h0, h1, h2, h3⟩
      · rw [h2, drop_at s pos hp, List.any_cons, ctlB_is, ← get_at s pos hp]
        cases hc : ctlN (s.get! pos).toNat with
        | true => simp
        | false => simp only [Bool.false_eq_true, if_false, Bool.false_or]; exact ih (pos + 1) (by omega)
      · have hn : ctlN (Utf8.decode s pos).1 = false := by
          cases e : ctlN (Utf8.decode s pos).1 with
          | false => rfl
          | true => have := ctlN_lt _ e; omega
        have hle : pos + (Utf8.decode s pos).2 ≤ s.size := by
          rcases Nat.lt_or_ge 1 (Utf8.decode s pos).2 with h4 | h4
          · have := (h3 ((Utf8.decode s pos).2 - 1) (by omega) (by omega)).1; omega
          · omega
        rw [hn]
        simp only [Bool.false_eq_true, if_false]
        rw [ih _ (by omega), ctl_skip s (Utf8.decode s pos).2 pos hle (fun k hk => by
          rcases Nat.eq_zero_or_pos k with rfl | hk0
          · exact h0
          · exact (h3 k hk0 hk).2)]
    · rw [if_neg hp, drop_end s pos (by omega)]; rfl
theorem ctl_idx (s : ByteArray) : decide (0 ≤ Lib.idxFunc ctlN true s) = ctlL s.data.toList := by
  unfold Lib.idxFunc
  rw [ctl_from s s.size 0 (by omega), List.drop_zero]; rfl
theorem ctl_pred (w : World) : PredAt Tryz.prog 77 #[] encR ctlN w := fun W r _ => by
  unfold FnGives
  have h1 : ctlN r = (decide ((r : Int) < 32) && ((r : Int) != 9) || ((r : Int) == 127)) := by
    unfold ctlN
    have e0 : decide (r < 32) = decide ((r : Int) < 32) := by rw [Bool.eq_iff_iff, decide_eq_true_eq, decide_eq_true_eq]; omega
    have e1 : decide (r ≠ 9) = ((r : Int) != 9) := by rw [Bool.eq_iff_iff, bne_iff_ne, decide_eq_true_eq]; omega
    have e2 : decide (r = 127) = ((r : Int) == 127) := by rw [Bool.eq_iff_iff, beq_iff_eq, decide_eq_true_eq]; omega
    rw [e0, e1, e2]
  obtain ⟨R, hR⟩ : ∃ R, ctlN r = R := ⟨_, rfl⟩
  rw [hR] at h1 ⊢
  have H1 := Lib.hid h1
  clear hR h1
  show Calls Tryz.prog 77 #[.int .i32 (r : Int)] W fun e w' => e = .returned (.bool R) ∧ ∃ q, w' = W.drewN q
  by_cases ha : (r : Int) < 32
  · by_cases hb : ((r : Int) != 9) = true
    · go_enter Tryz.func77, Tryz.ntmps77
      go_wp2
      go_ret
      exact ⟨ret_bool (by rw [H1.out]; simp [*]), 0, rfl⟩
    · have hb2 : ((r : Int) != 9) = false := by simpa using hb
      go_enter Tryz.func77, Tryz.ntmps77
      go_wp2
      go_ret
      exact ⟨ret_bool (by rw [H1.out]; simp [*]), 0, rfl⟩
  · go_enter Tryz.func77, Tryz.ntmps77
    go_wp2
    go_ret
    exact ⟨ret_bool (by rw [H1.out, show decide ((r : Int) < 32) = false from decide_eq_false (by omega)]; simp), 0, rfl⟩
theorem control_is (s : ByteArray) (R : Bool) (hR : ctlL s.data.toList = R) (w : World) :
    Calls Tryz.prog 37 #[.string s] w fun e w' => e = .returned (.bool R) ∧ Below w.heap.size w w' := by
  have c := fun w => Tryz.strings_ContainsFunc 77 #[] (enters_of Tryz.func77 (by kernel_rfl) rfl) ctlN s w (ctl_pred w)
  rw [ctl_idx, hR] at c
  have C := Lib.hid c
  clear c hR
  go_enter Tryz.func37, Tryz.ntmps37
  go_wp2_with (go_at_call 76; with_reducible refine (C.out _).mono ?_; rintro e w1 ⟨rfl, hb1⟩)
  go_ret
  exact ⟨rfl, hb1⟩
end Go.Proofs.YtgjooigolgdocaaGreatDoor
