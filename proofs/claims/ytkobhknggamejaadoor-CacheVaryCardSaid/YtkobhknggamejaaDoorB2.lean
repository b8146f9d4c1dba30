import Derived.Test.YtkobhknggamejaaDoorB1
import Derived.WalkSmall
import Derived.Shelf.SlicesQ.IndexFunc
import Derived.Deep.LoopGhost
import Derived.Deep.QuietTactic
import Derived.BigQuiet
import Derived.OwnWalk
import Derived.Deep.RegionHeld3
import Derived.Deep.DeepCutAuto
import Derived.Deep.CutBlock
import Derived.OneCell
import Derived.Deep.RegionLaw
import Derived.Deep.AppendLies
import Derived.Outline
import Derived.Test.YtkobhknggamejaaDoorK2
import Derived.KernelRfl
import Derived.Lib.SliceRun
/- Percent codes: whether one begins at an offset, the code of a byte. -/
namespace Go.Proofs.YtkobhknggamejaaDoor
set_option linter.unusedVariables false
set_option linter.unusedSimpArgs false
open Go.RowKit

def codedL : List UInt8 → Bool
  | c :: a :: b :: _ => c == 37 && decide (0 ≤ hexB a) && decide (0 ≤ hexB b)
  | _ => false
theorem drop3 (s : ByteArray) (i : Nat) (h : i + 2 < s.size) : s.data.toList.drop i = s[i] :: s[i + 1] :: s[i + 2] :: s.data.toList.drop (i + 3) := by
  rw [drop_at s i (by omega), drop_at s (i + 1) (by omega), drop_at s (i + 2) h]
theorem codedL_short (l : List UInt8) (h : l.length ≤ 2) : codedL l = false := by
  match l, h with
  | [], _ => rfl
  | [_], _ => rfl
  | [_, _], _ => rfl
theorem codedL_no (c : UInt8) (l : List UInt8) (h : c ≠ 37) : codedL (c :: l) = false := by
  match l with
  | [] => rfl
  | [_] => rfl
  | _ :: _ :: _ => simp [codedL, h]
end Go.Proofs.YtkobhknggamejaaDoor

/- The code of a byte; a text whose bytes are kept or turned to codes. -/
namespace Go.Proofs.YtkobhknggamejaaDoor
set_option linter.unusedVariables false
set_option linter.unusedSimpArgs false
open Go.RowKit

def digs : List UInt8 := [48, 49, 50, 51, 52, 53, 54, 55, 56, 57, 65, 66, 67, 68, 69, 70]
def dig (n : Nat) : UInt8 := digs.getD n 0
def pct (b : UInt8) : List UInt8 := [37, dig (b.toNat / 16), dig (b.toNat % 16)]
abbrev digsS : ByteArray := ⟨#[48, 49, 50, 51, 52, 53, 54, 55, 56, 57, 65, 66, 67, 68, 69, 70]⟩
theorem digs_ext (n : Nat) (h : n < 16) : (digsS.extract n (n + 1)).data.toList = [dig n] := by
  rw [ext_list]
  have : ∀ i : Fin 16, (digsS.data.toList.drop i.1).take (i.1 + 1 - i.1) = [dig i.1] := by decide
  exact this ⟨n, h⟩
end Go.Proofs.YtkobhknggamejaaDoor

/- A text whose bytes are kept or turned to codes: the code's way, by a Builder. -/
namespace Go.Proofs.YtkobhknggamejaaDoor
set_option linter.unusedVariables false
set_option linter.unusedSimpArgs false
open Go.RowKit

def conv (keep : List UInt8) (codes : Bool) : List UInt8 → List UInt8
  | [] => []
  | c :: r => (if okC keep c || (codes && codedL (c :: r)) then [c] else pct c) ++ conv keep codes r
theorem conv_len (keep : List UInt8) (codes : Bool) (l : List UInt8) : (conv keep codes l).length ≤ 3 * l.length := by
  induction l with
  | nil => simp [conv]
  | cons c r ih => unfold conv; split <;> simp [pct] <;> omega
theorem digs_get (n : Nat) (h : n < digsS.size) : digsS[n] = dig n := by
  have : ∀ i : Fin 16, digsS[i.1]'(by have := i.2; show _ < 16; omega) = dig i.1 := by decide
  exact this ⟨n, h⟩
theorem pct_cells (b : UInt8) : Lib.byteCells (pct b) = [Value.int .u8 37, .int .u8 ((digsS[b.toNat / 16]'(by have := b.toNat_lt; show _ < 16; omega)).toNat : Int), .int .u8 ((digsS[b.toNat % 16]'(by have := b.toNat_lt; show _ < 16; omega)).toNat : Int)] := by
  rw [digs_get, digs_get]; rfl
end Go.Proofs.YtkobhknggamejaaDoor

/- A text whose bytes are kept or turned to codes: the reference's way, by concatenation. -/
namespace Go.Proofs.YtkobhknggamejaaDoor
set_option linter.unusedVariables false
set_option linter.unusedSimpArgs false
open Go.RowKit

abbrev plainL : List UInt8 := [45, 46, 95, 126]
abbrev innerL : List UInt8 := [45, 46, 95, 126, 33, 36, 38, 39, 40, 41, 42, 43, 44, 59, 61, 58, 64, 47]
theorem contains_app (a b : List UInt8) (x : UInt8) : (a ++ b).contains x = (a.contains x || b.contains x) := by simp
end Go.Proofs.YtkobhknggamejaaDoor

/- Plain: what Parse computes (scheme, port, the parts of an address). -/
namespace Go.Proofs.YtkobhknggamejaaDoor
set_option linter.unusedVariables false
set_option linter.unusedSimpArgs false
open Go.RowKit

/-- scheme, host, port, path, query, fragment -/
abbrev U6 := List UInt8 × List UInt8 × List UInt8 × List UInt8 × List UInt8 × List UInt8
abbrev httpL : List UInt8 := [104, 116, 116, 112]
abbrev httpsL : List UInt8 := [104, 116, 116, 112, 115]
abbrev aboutL : List UInt8 := [97, 98, 111, 117, 116]
/-- a text begins with a scheme and a colon -/
def schemeOk (l : List UInt8) : Bool := l.contains 58 && (match l with | [] => false | b :: _ => letterB b) && (pre 58 l).all (okC [43, 45, 46])
def zerosOff (l : List UInt8) : List UInt8 := l.dropWhile (· == 48)
def numF (n : Nat) (b : UInt8) : Nat := n * 10 + (b.toNat - 48)
def numL (l : List UInt8) : Nat := l.foldl numF 0
def portOk (d : List UInt8) : Prop := d.all digitB = true ∧ d.length ≤ 5 ∧ numL d ≤ 65535
def portOf (sch d : List UInt8) : List UInt8 := if (sch = httpL ∧ numL d = 80) ∨ (sch = httpsL ∧ numL d = 443) then [] else zerosOff d
instance (d : List UInt8) : Decidable (portOk d) := by unfold portOk; infer_instance
def siteL (n fr before : List UInt8) : Option U6 :=
  if (n = httpL ∨ n = httpsL) ∧ before.take 2 = [47, 47] then
    let path := pre 63 (before.drop 2)
    let plc := pre 47 path
    let host := pre 58 plc
    if portOk (post 58 plc) ∧ 1 ≤ host.length ∧ host.length ≤ 253 ∧ host.all (okC [45, 46]) = true then
      some (n, lowL host, portOf n (post 58 plc), cleanL (conv innerL true (path.drop plc.length)), conv (innerL ++ [63]) true (post 63 (before.drop 2)), fr)
    else none
  else none
def restL (n rest : List UInt8) : Option U6 :=
  let fr := conv (innerL ++ [63]) true (post 35 rest)
  if n = aboutL then (if (pre 35 rest).all (okC [45]) = true then some (n, [], [], pre 35 rest, [], fr) else none) else siteL n fr (pre 35 rest)
/-- the address that a text denotes -/
def parseL (s : List UInt8) : Option U6 :=
  if schemeOk (trimL s) = true then restL (lowL (pre 58 (trimL s))) (post 58 (trimL s)) else none

theorem numF_le (n : Nat) (b : UInt8) (h : digitB b = true) : numF n b ≤ n * 10 + 9 ∧ n * 10 ≤ numF n b := by
  simp only [digitB, digitI, decide_eq_true_eq] at h
  unfold numF; omega
theorem foldl_bd : ∀ (l : List UInt8) (n : Nat), l.all digitB = true → n * 10 ^ l.length ≤ l.foldl numF n ∧ l.foldl numF n + 1 ≤ (n + 1) * 10 ^ l.length := by
  intro l
  induction l with
  | nil => intro n _; simp
  | cons b l ih =>
    intro n h
    simp only [List.all_cons, Bool.and_eq_true] at h
    have h1 := numF_le n b h.1
    have h2 := ih (numF n b) h.2
    simp only [List.foldl_cons, List.length_cons, Nat.pow_succ']
    constructor
    · calc n * (10 * 10 ^ l.length) = (n * 10) * 10 ^ l.length := by rw [Nat.mul_assoc]
        _ ≤ numF n b * 10 ^ l.length := Nat.mul_le_mul_right _ h1.2
        _ ≤ _ := h2.1
    · calc _ ≤ (numF n b + 1) * 10 ^ l.length := h2.2
        _ ≤ ((n + 1) * 10) * 10 ^ l.length := Nat.mul_le_mul_right _ (by omega)
        _ = _ := by rw [Nat.mul_assoc]
theorem numL_zeros : ∀ l : List UInt8, numL (zerosOff l) = numL l := by
  intro l
  unfold numL zerosOff
  induction l with
  | nil => rfl
  | cons b l ih =>
    rw [List.dropWhile_cons]
    split
    · next h =>
      rw [ih]
      have : b = 48 := by simpa using h
      subst this
      rfl
    · rfl
theorem zeros_all (l : List UInt8) (h : l.all digitB = true) : (zerosOff l).all digitB = true := by
  rw [List.all_eq_true] at h ⊢
  exact fun x hx => h x ((List.dropWhile_sublist _).subset hx)
theorem zeros_head (l : List UInt8) : ∀ b r, zerosOff l = b :: r → b ≠ 48 := by
  intro b r h e
  subst e
  unfold zerosOff at h
  have := List.head?_dropWhile_not (p := (· == (48 : UInt8))) (l := l)
  rw [h] at this
  simp at this
theorem digit_u8 (b : UInt8) (n : Nat) (h : digitB b = true) (hn : b.toNat - 48 = n) : b = UInt8.ofNat (n + 48) := by
  simp only [digitB, digitI, decide_eq_true_eq] at h
  have : b.toNat = n + 48 := by omega
  rw [← this]; simp
/-- without leading zeros a number's digits are determined -/
theorem num80 (t : List UInt8) (h : t.all digitB = true) (hz : ∀ b r, t = b :: r → b ≠ 48) : numL t = 80 ↔ t = [56, 48] := by
  constructor
  · intro e
    match t, h, hz, e with
    | [], _, _, e => simp [numL] at e
    | [a], h, _, e => simp [numL, numF] at e; simp [digitB, digitI] at h; omega
    | [a, b], h, _, e =>
      simp only [List.all_cons, List.all_nil, Bool.and_eq_true] at h
      have ha := h.1
      have hb := h.2.1
      simp only [digitB, digitI, decide_eq_true_eq] at ha hb
      simp [numL, numF] at e
      rw [digit_u8 a 8 h.1 (by omega), digit_u8 b 0 h.2.1 (by omega)]; rfl
    | a :: b :: c :: r, h, hz, e =>
      exfalso
      have h1 := foldl_bd (b :: c :: r) (numF 0 a) (by simp only [List.all_cons, Bool.and_eq_true] at h ⊢; exact h.2)
      have ha : a ≠ 48 := hz a _ rfl
      simp only [List.all_cons, Bool.and_eq_true] at h
      have h0 := h.1
      simp only [digitB, digitI, decide_eq_true_eq] at h0
      have h2 : 1 ≤ numF 0 a := by
        unfold numF
        have : a.toNat ≠ 48 := fun e => ha (UInt8.toNat_inj.1 e)
        omega
      have h3 : 10 ^ 2 ≤ 10 ^ (b :: c :: r).length := Nat.pow_le_pow_right (by omega) (by simp)
      have h4 : 10 ^ 2 ≤ numF 0 a * 10 ^ (b :: c :: r).length := Nat.le_trans h3 (Nat.le_mul_of_pos_left _ h2)
      have e' : List.foldl numF (numF 0 a) (b :: c :: r) = 80 := e
      omega
  · rintro rfl; rfl
theorem num443 (t : List UInt8) (h : t.all digitB = true) (hz : ∀ b r, t = b :: r → b ≠ 48) : numL t = 443 ↔ t = [52, 52, 51] := by
  constructor
  · intro e
    match t, h, hz, e with
    | [], _, _, e => simp [numL] at e
    | [a], h, _, e => simp [numL, numF] at e; simp [digitB, digitI] at h; omega
    | [a, b], h, _, e => simp [numL, numF] at e; simp [digitB, digitI] at h; omega
    | [a, b, c], h, _, e =>
      simp only [List.all_cons, List.all_nil, Bool.and_eq_true] at h
      have ha := h.1
      have hb := h.2.1
      have hc := h.2.2.1
      simp only [digitB, digitI, decide_eq_true_eq] at ha hb hc
      simp [numL, numF] at e
      rw [digit_u8 a 4 h.1 (by omega), digit_u8 b 4 h.2.1 (by omega), digit_u8 c 3 h.2.2.1 (by omega)]; rfl
    | a :: b :: c :: d :: r, h, hz, e =>
      exfalso
      have h1 := foldl_bd (b :: c :: d :: r) (numF 0 a) (by simp only [List.all_cons, Bool.and_eq_true] at h ⊢; exact h.2)
      have ha : a ≠ 48 := hz a _ rfl
      simp only [List.all_cons, Bool.and_eq_true] at h
      have h0 := h.1
      simp only [digitB, digitI, decide_eq_true_eq] at h0
      have h2 : 1 ≤ numF 0 a := by
        unfold numF
        have : a.toNat ≠ 48 := fun e => ha (UInt8.toNat_inj.1 e)
        omega
      have h3 : 10 ^ 3 ≤ 10 ^ (b :: c :: d :: r).length := Nat.pow_le_pow_right (by omega) (by simp)
      have h4 : 10 ^ 3 ≤ numF 0 a * 10 ^ (b :: c :: d :: r).length := Nat.le_trans h3 (Nat.le_mul_of_pos_left _ h2)
      have e' : List.foldl numF (numF 0 a) (b :: c :: d :: r) = 443 := e
      omega
  · rintro rfl; rfl
/-- the reference's form of portOf -/
theorem portOf_own (sch d : List UInt8) (h : d.all digitB = true) (hs : sch = httpL ∨ sch = httpsL) :
    portOf sch d = if zerosOff d = (if sch = httpsL then [52, 52, 51] else [56, 48]) then [] else zerosOff d := by
  have ha := zeros_all d h
  have hz := zeros_head d
  have h80 := num80 _ ha hz
  have h443 := num443 _ ha hz
  rw [numL_zeros] at h80 h443
  unfold portOf
  rcases hs with rfl | rfl
  · by_cases e : numL d = 80
    · have := h80.1 e
      rw [if_pos (.inl ⟨rfl, e⟩), if_neg (show ¬ httpL = httpsL by decide), if_pos this]
    · rw [if_neg (by rintro (⟨_, h⟩ | ⟨h, _⟩) <;> first | exact e h | (revert h; decide)), if_neg (show ¬ httpL = httpsL by decide), if_neg fun h => e (h80.2 h)]
  · by_cases e : numL d = 443
    · have := h443.1 e
      rw [if_pos (.inr ⟨rfl, e⟩), if_pos rfl, if_pos this]
    · rw [if_neg (by rintro (⟨h, _⟩ | ⟨_, h⟩) <;> first | exact e h | (revert h; decide)), if_pos rfl, if_neg fun h => e (h443.2 h)]
theorem lowB_ok (more : List UInt8) (b : UInt8) (hm : ∀ x ∈ more, letterB x = false ∧ lowB x = x) : okC more (lowB b) = okC more b := by
  unfold lowB
  split
  · next h =>
    have : (b + 32).toNat = b.toNat + 32 := by rw [UInt8.toNat_add]; have := b.toNat_lt; simp; omega
    have l1 : letterB (b + 32) = true := by simp [letterB, letterI, this]; omega
    have l2 : letterB b = true := by simp [letterB, letterI]; omega
    simp [okC, l1, l2]
  · rfl
theorem lowL_ok (more l : List UInt8) (hm : ∀ x ∈ more, letterB x = false ∧ lowB x = x) : (lowL l).all (okC more) = l.all (okC more) := by
  unfold lowL
  rw [List.all_map]
  congr 1
  exact funext fun b => lowB_ok more b hm
theorem lowL_len (l : List UInt8) : (lowL l).length = l.length := by simp [lowL]
end Go.Proofs.YtkobhknggamejaaDoor

/- Cookies: what a field sets (plain); control characters. -/
namespace Go.Proofs.YtkobhknggamejaaDoor
set_option linter.unusedVariables false
set_option linter.unusedSimpArgs false
open Go.RowKit

/-- a cookie -/
structure Ck where
  n : ByteArray
  v : ByteArray
  d : ByteArray
  p : ByteArray
  ho : Bool
  se : Bool
  hi : Bool
  ex : Int
  cr : Int
abbrev ckL (c : Ck) : List Value := [.string c.n, .string c.v, .string c.d, .string c.p, .bool c.ho, .bool c.se, .bool c.hi, .int .i64 c.ex, .int .i64 c.cr]
abbrev ckA (c : Ck) : Value := .agg #[.string c.n, .string c.v, .string c.d, .string c.p, .bool c.ho, .bool c.se, .bool c.hi, .int .i64 c.ex, .int .i64 c.cr]
def E : ByteArray := ⟨#[]⟩
abbrev ck0 : Ck := ⟨⟨#[]⟩, ⟨#[]⟩, ⟨#[]⟩, ⟨#[]⟩, false, false, false, 0, 0⟩
def bs (l : List UInt8) : ByteArray := ⟨l.toArray⟩
theorem bs_list (l : List UInt8) : (bs l).data.toList = l := rfl
theorem bs_size (l : List UInt8) : (bs l).size = l.length := by rw [← size_len]; rfl
theorem bs_of {t : ByteArray} {l : List UInt8} (h : t.data.toList = l) : t = bs l := ba_ext' h

abbrev maxageL : List UInt8 := [109, 97, 120, 45, 97, 103, 101]
abbrev domainL : List UInt8 := [100, 111, 109, 97, 105, 110]
abbrev pathwL : List UInt8 := [112, 97, 116, 104]
abbrev secureL : List UInt8 := [115, 101, 99, 117, 114, 101]
abbrev hidL : List UInt8 := [104, 116, 116, 112, 111, 110, 108, 121]
/-- a domain without its dot -/
def undot (l : List UInt8) : List UInt8 := if Lib.hasPrefix l [46] = true then l.drop 1 else l
/-- what a part with a name changes; host, path: the address's host, and its default path -/
def attrC (host path : ByteArray) (now : Int) (c : Ck) (name value : List UInt8) : Ck :=
  if name = maxageL then (match ageL value with | some n => { c with ex := clockI now + n * 1000 } | none => c)
  else if name = domainL then (if lowL (undot value) = [] then { c with d := host, ho := true } else { c with d := bs (lowL (undot value)), ho := false })
  else if name = pathwL then { c with p := if Lib.hasPrefix value [47] = true then bs value else path }
  else if name = secureL then { c with se := true }
  else if name = hidL then { c with hi := true }
  else c
def stepC (host path : ByteArray) (now : Int) (c : Ck) (part : List UInt8) : Ck := attrC host path now c (lowL (trimC (pre 61 part))) (trimC (post 61 part))
def ctlB (b : UInt8) : Bool := decide (b.toNat < 32) && b != 9 || b == 127
def ctlL (l : List UInt8) : Bool := l.any ctlB
def firstC (host path : ByteArray) (part : List UInt8) : Ck := ⟨bs (trimC (pre 61 part)), bs (trimC (post 61 part)), host, path, true, false, false, -1, 0⟩
def lastC (host scheme : List UInt8) (c : Ck) : Ck × Int :=
  if domL host c.d.data.toList = false ∨ (c.d.data.toList ≠ host ∧ c.d.data.toList.contains 46 = false) then (ck0, 15)
  else if c.se = true ∧ scheme ≠ httpsL then (ck0, 7)
  else (c, 0)
/-- the cookie that a field sets at an address, or the error -/
def parseC (field : List UInt8) (ok : Bool) (scheme host path : ByteArray) (now : Int) : Ck × Int :=
  if ok = false then (ck0, 7)
  else match segs 59 field with
    | [] => (ck0, 4)
    | p0 :: ps =>
      if p0.contains 61 = false ∨ trimC (pre 61 p0) = [] ∨ ctlL field = true then (ck0, 4)
      else lastC host.data.toList scheme.data.toList (ps.foldl (stepC host (bs (defpL path.data.toList)) now) (firstC host (bs (defpL path.data.toList)) p0))
def resC (r : Ck × Int) : Value := .tuple #[ckA r.1, .int .i64 r.2]

/-! control characters -/
def ctlN (n : Nat) : Bool := decide (n < 32) && decide (n ≠ 9) || decide (n = 127)
theorem ctlN_lt (n : Nat) (h : ctlN n = true) : n < 128 := by
  unfold ctlN at h
  simp only [Bool.or_eq_true, Bool.and_eq_true, decide_eq_true_eq] at h
  omega
theorem ctlB_is (b : UInt8) : ctlB b = ctlN b.toNat := by
  unfold ctlB ctlN
  have e1 : (b != 9) = decide (b.toNat ≠ 9) := by
    rw [Bool.eq_iff_iff, bne_iff_ne, decide_eq_true_eq]
    exact ⟨fun h e => h (UInt8.toNat_inj.1 e), fun h e => h (by rw [e]; rfl)⟩
  have e2 : (b == 127) = decide (b.toNat = 127) := by
    rw [Bool.eq_iff_iff, beq_iff_eq, decide_eq_true_eq]
    exact ⟨fun h => by rw [h]; rfl, fun h => UInt8.toNat_inj.1 h⟩
  rw [e1, e2]
theorem dec_cases (s : ByteArray) (i : Nat) :
    ((s.get! i).toNat < 128 ∧ Utf8.decode s i = ((s.get! i).toNat, 1)) ∨ (128 ≤ (s.get! i).toNat ∧ 128 ≤ (Utf8.decode s i).1 ∧ 1 ≤ (Utf8.decode s i).2 ∧ ∀ k, 1 ≤ k → k < (Utf8.decode s i).2 → i + k < s.size ∧ 128 ≤ (s.get! (i + k)).toNat) := by
  by_cases h0 : (s.get! i).toNat < 128
  · left
    refine ⟨h0, ?_⟩
    unfold Utf8.decode
    simp only [Nat.add_zero]
    rw [if_pos h0]
  · right
    refine ⟨by omega, ?_⟩
    have cc : ∀ k, (decide (i + k < s.size) && ((s.get! (i + k)).toNat / 64 == 2)) = true → i + k < s.size ∧ 128 ≤ (s.get! (i + k)).toNat := fun k h => by
      simp only [Bool.and_eq_true, decide_eq_true_eq, beq_iff_eq] at h
      omega
    unfold Utf8.decode
    simp only [Nat.add_zero]
    rw [if_neg h0]
    split
    · next h =>
      simp only [Bool.and_eq_true] at h
      have c1 := cc 1 (by simp only [Bool.and_eq_true]; exact h.2)
      split
      · next h2 => 
        refine ⟨h2, by simp, fun k hk1 hk2 => ?_⟩
        simp only at hk2
        obtain rfl : k = 1 := by omega
        exact c1
      · exact ⟨by decide, by omega, fun k hk1 hk2 => by simp at hk2; omega⟩
    · split
      · next h =>
        simp only [Bool.and_eq_true] at h
        have c1 := cc 1 (by simp only [Bool.and_eq_true]; exact h.1.2)
        have c2 := cc 2 (by simp only [Bool.and_eq_true]; exact h.2)
        split
        · next h2 =>
          simp only [Bool.and_eq_true, decide_eq_true_eq] at h2
          refine ⟨by simp only; omega, by simp, fun k hk1 hk2 => ?_⟩
          simp only at hk2
          rcases (by omega : k = 1 ∨ k = 2) with rfl | rfl
          · exact c1
          · exact c2
        · exact ⟨by decide, by omega, fun k hk1 hk2 => by simp at hk2; omega⟩
      · split
        · next h =>
          simp only [Bool.and_eq_true] at h
          have c1 := cc 1 (by simp only [Bool.and_eq_true]; exact h.1.1.2)
          have c2 := cc 2 (by simp only [Bool.and_eq_true]; exact h.1.2)
          have c3 := cc 3 (by simp only [Bool.and_eq_true]; exact h.2)
          split
          · next h2 =>
            simp only [Bool.and_eq_true, decide_eq_true_eq] at h2
            refine ⟨by simp only; omega, by simp, fun k hk1 hk2 => ?_⟩
            simp only at hk2
            rcases (by omega : k = 1 ∨ k = 2 ∨ k = 3) with rfl | rfl | rfl
            · exact c1
            · exact c2
            · exact c3
          · exact ⟨by decide, by omega, fun k hk1 hk2 => by simp at hk2; omega⟩
        · exact ⟨by decide, by omega, fun k hk1 hk2 => by simp at hk2; omega⟩
theorem get_at (s : ByteArray) (i : Nat) (h : i < s.size) : s.get! i = s[i] := by
  show s.data[i]! = _
  rw [getElem!_pos s.data i h]; rfl
theorem ctl_skip (s : ByteArray) : ∀ (n i : Nat), i + n ≤ s.size → (∀ k, k < n → 128 ≤ (s.get! (i + k)).toNat) → (s.data.toList.drop i).any ctlB = (s.data.toList.drop (i + n)).any ctlB := by
  intro n
  induction n with
  | zero => intro i _ _; rfl
  | succ n ih =>
    intro i h1 h2
    have hi : i < s.size := by omega
    have h3 := h2 0 (by omega)
    rw [Nat.add_zero, get_at s i hi] at h3
    have h4 : ctlB s[i] = false := by
      cases e : ctlB s[i] with
      | false => rfl
      | true => rw [ctlB_is] at e; have := ctlN_lt _ e; omega
    rw [drop_at s i hi, List.any_cons, h4, Bool.false_or, ih (i + 1) (by omega) (fun k hk => by have := h2 (k + 1) (by omega); rwa [show i + (k + 1) = i + 1 + k by omega] at this)]
    congr 2; omega
end Go.Proofs.YtkobhknggamejaaDoor

/- Slices of structs: reading; rows of structs that are written. -/
namespace Go.Proofs.YtkobhknggamejaaDoor
set_option linter.unusedVariables false
set_option linter.unusedSimpArgs false
open Go.RowKit

/-- a slice that reads as a list of structs of k cells -/
def SlK {α : Type} (enc : α → List Value) (k : Nat) (w : World) (v : Value) (l : List α) : Prop :=
  (l = [] ∧ ∃ a cap, v = .slice a 0 cap ∧ cap ≤ maxLen) ∨ (l ≠ [] ∧ ∃ b off cap, v = .slice (some ⟨b, off, none⟩) l.length cap ∧ l.length ≤ cap ∧ cap ≤ maxLen ∧ b < w.heap.size ∧ ∀ i (h : i < l.length) j u, (enc l[i])[j]? = some u → w.cell? ⟨b, off + i * k + j, none⟩ = some u)
theorem SlK.below {α : Type} {enc : α → List Value} {k : Nat} {w w' : World} {v : Value} {l : List α} {B : Nat} (h : SlK enc k w v l) (hb : Below B w w') (hB : w.heap.size ≤ B) : SlK enc k w' v l := by
  rcases h with h | ⟨h0, b, off, cap, h1, h2, h3, h4, h5⟩
  · exact .inl h
  · exact .inr ⟨h0, b, off, cap, h1, h2, h3, Nat.lt_of_lt_of_le h4 hb.size, fun i hi j u hu => (hb.cell (p := ⟨b, off + i * k + j, none⟩) (by show b < B; omega)).trans (h5 i hi j u hu)⟩
theorem SlK.shape {α : Type} {enc : α → List Value} {k : Nat} {w : World} {v : Value} {l : List α} (h : SlK enc k w v l) : ∃ a cap, v = .slice a l.length cap ∧ cap ≤ maxLen := by
  rcases h with ⟨rfl, a, cap, h1, h2⟩ | ⟨h0, b, off, cap, h1, h2, h3, h4, h5⟩
  · exact ⟨a, cap, h1, h2⟩
  · exact ⟨_, cap, h1, h3⟩
/-- the cells of a list of structs -/
def cellsK {α : Type} (enc : α → List Value) (l : List α) : List Value := l.flatMap enc
theorem cellsK_len {α : Type} {enc : α → List Value} {k : Nat} (hk : ∀ x, (enc x).length = k) (l : List α) : (cellsK enc l).length = l.length * k := by
  unfold cellsK
  induction l with
  | nil => simp
  | cons x l ih => rw [List.flatMap_cons, List.length_append, ih, hk, List.length_cons, Nat.add_mul]; omega
theorem cellsK_app {α : Type} (enc : α → List Value) (a b : List α) : cellsK enc (a ++ b) = cellsK enc a ++ cellsK enc b := by simp [cellsK]
theorem cellsK_get {α : Type} {enc : α → List Value} {k : Nat} (hk : ∀ x, (enc x).length = k) : ∀ (l : List α) (i : Nat) (h : i < l.length) (j : Nat) (u : Value), (enc l[i])[j]? = some u → (cellsK enc l)[i * k + j]? = some u := by
  intro l
  induction l with
  | nil => intro i h; simp at h
  | cons x l ih =>
    intro i h j u hu
    have hj : ∀ y, (enc y)[j]? = some u → j < k := fun y hy => by have := (List.getElem?_eq_some_iff.1 hy).1; rwa [hk] at this
    unfold cellsK
    rw [List.flatMap_cons]
    cases i with
    | zero =>
      simp only [List.getElem_cons_zero] at hu
      rw [Nat.zero_mul, Nat.zero_add, List.getElem?_append_left (by rw [hk]; exact hj _ hu)]
      exact hu
    | succ i =>
      simp only [List.getElem_cons_succ] at hu
      rw [Nat.add_mul, Nat.one_mul, List.getElem?_append_right (by rw [hk]; omega), hk, show i * k + k + j - k = i * k + j by omega]
      exact ih i (by simpa using h) j u hu
theorem SlK.of_own {α : Type} {enc : α → List Value} {k : Nat} (hk : ∀ x, (enc x).length = k) {w : World} {b e : Nat} {v : Value} {l : List α} (h : w.ownsRow b e k v l.length (cellsK enc l)) : SlK enc k w v l := by
  obtain ⟨a, cap, hv, hc, hm, ha⟩ := own_reads h
  by_cases hl : l = []
  · subst hl
    exact .inl ⟨rfl, a, cap, hv, hm⟩
  · rcases ha with ⟨rfl, h0⟩ | ⟨g, rfl, hg, hgw, hcell⟩
    · exact absurd (List.eq_nil_of_length_eq_zero h0) hl
    · refine .inr ⟨hl, g, 0, cap, hv, hc, hm, hgw, fun i hi j u hu => ?_⟩
      rw [Nat.zero_add]
      exact hcell _ _ (cellsK_get hk l i hi j u hu)
/-- the first place at which p holds, or -1 -/
def idxI {α : Type} (p : α → Bool) (l : List α) : Int := if l.any p then (l.findIdx p : Nat) else -1
theorem idxI_hit {α : Type} (p : α → Bool) (l : List α) (k : Nat) (hk : k < l.length) (h : p l[k] = true) (hb : ∀ j (hj : j < k), p (l[j]'(by omega)) = false) : idxI p l = k := by
  unfold idxI
  have h1 : l.findIdx p = k := by
    rw [List.findIdx_eq hk]
    exact ⟨h, fun j hj => hb j hj⟩
  rw [if_pos (List.any_eq_true.2 ⟨l[k], List.getElem_mem hk, h⟩), h1]
theorem idxI_miss {α : Type} (p : α → Bool) (l : List α) (h : ∀ j (hj : j < l.length), p l[j] = false) : idxI p l = -1 := by
  unfold idxI
  rw [if_neg]
  rw [List.any_eq_true]
  rintro ⟨x, hx, hp⟩
  obtain ⟨j, hj, rfl⟩ := List.getElem_of_mem hx
  rw [h j hj] at hp; cases hp
theorem ckL_len (c : Ck) : (ckL c).length = 9 := rfl
end Go.Proofs.YtkobhknggamejaaDoor

/- Slices of structs: reading; slices.IndexFunc over cookies. -/
namespace Go.Proofs.YtkobhknggamejaaDoor
set_option linter.unusedVariables false
set_option linter.unusedSimpArgs false
open Go.RowKit

end Go.Proofs.YtkobhknggamejaaDoor

/- Cookies: expired, same. -/
namespace Go.Proofs.YtkobhknggamejaaDoor
set_option linter.unusedVariables false
set_option linter.unusedSimpArgs false
open Go.RowKit

def exB (c : Ck) (now : Int) : Bool := decide (0 ≤ c.ex) && decide (c.ex ≤ clockI now)
/-- two cookies are the same -/
def sameB (c d : Ck) : Bool := (c.n.toList == d.n.toList) && (c.d.toList == d.d.toList) && (c.p.toList == d.p.toList)
end Go.Proofs.YtkobhknggamejaaDoor

/- The walk of the reference's Clean. -/
namespace Go.Proofs.YtkobhknggamejaaDoor
set_option linter.unusedVariables false
set_option linter.unusedSimpArgs false
open Go.RowKit

/-- what is kept of the first k segments -/
def foldK (l : List (List UInt8)) (k : Nat) : List (List UInt8) := (l.take k).foldl kstep []
theorem foldK_succ (l : List (List UInt8)) (k : Nat) (h : k < l.length) : foldK l (k + 1) = kstep (foldK l k) l[k] := by
  unfold foldK
  rw [List.take_succ_eq_append_getElem h, List.foldl_append]; rfl
theorem keptL_fold (l : List (List UInt8)) : keptL l = foldK l l.length ++ (if (l.getLast?.map isDot).getD false = true then [[]] else []) := by
  unfold keptL kpt foldK; simp
def lastK (Q : List ByteArray) (k : Nat) : ByteArray := if k = 0 then ⟨#[]⟩ else Q.getD (k - 1) ⟨#[]⟩
theorem lastK_succ (Q : List ByteArray) (k : Nat) (h : k < Q.length) : lastK Q (k + 1) = Q[k] := by
  unfold lastK
  rw [if_neg (by omega), Nat.add_sub_cancel, List.getD_eq_getElem?_getD, List.getElem?_eq_getElem h]; rfl
theorem lastK_dot (Q : List ByteArray) : ((lists Q).getLast?.map isDot).getD false = isDot (lastK Q Q.length).data.toList := by
  cases e : Q.length with
  | zero => obtain rfl := List.eq_nil_of_length_eq_zero e; rfl
  | succ n =>
    rw [lastK_succ Q n (by omega), List.getLast?_eq_getElem?]
    simp only [lists, List.length_map, e, Nat.add_sub_cancel, List.getElem?_map]
    rw [List.getElem?_eq_getElem (by omega)]; rfl
theorem outL_snoc (l : List (List UInt8)) (k : Nat) (h : k < l.length) : outL (l.take (k + 1)) = outL (l.take k) ++ 47 :: l[k] := by
  unfold outL
  rw [List.take_succ_eq_append_getElem h, List.map_append, List.flatten_append]; simp
theorem outL_len (N : Nat) (l : List (List UInt8)) (h : ∀ x ∈ l, x.length ≤ N) : (outL l).length ≤ l.length * (N + 1) := by
  induction l with
  | nil => simp [outL]
  | cons x r ih =>
    have h1 := h x List.mem_cons_self
    have h2 := ih fun y hy => h y (List.mem_cons_of_mem _ hy)
    have e : outL (x :: r) = 47 :: x ++ outL r := by simp [outL]
    rw [e, List.length_append, List.length_cons, List.length_cons, Nat.add_mul]
    omega
theorem empty_iff (p : ByteArray) : p.toList.isEmpty = true ↔ p.data.toList = [] := by rw [List.isEmpty_iff, ByteArray.toList_eq]
theorem empty_not (p : ByteArray) (h : p.data.toList ≠ []) : p.toList.isEmpty = false := by
  cases e : p.toList.isEmpty with
  | false => rfl
  | true => exact absurd ((empty_iff p).1 e) h
def RowA (w w1 : World) (e : Ending) (R : List UInt8) : Prop := ∃ (g cap : Nat) (p0 : ByteArray) (ps : List ByteArray), e = .returned (.slice (some ⟨g, 0, none⟩) (ps.length + 1) cap) ∧ ps.length ≤ 1000000 ∧ Hid (∀ p ∈ lists ps, p.length ≤ 1000000) ∧ p0.toList.isEmpty = true ∧ (¬cap=1)
      ∧ w.heap.size ≤ g ∧ g < w1.heap.size ∧ ps.length + 1 ≤ cap ∧ cap ≤ maxLen ∧ Hid (∀ j (h : j < (ps).length), w1.cell? ⟨g, 1 + j, none⟩ = some (.string (ps)[j])) ∧ w1.cell? ⟨g, 0, none⟩ = some (.string p0) ∧ Below w.heap.size w w1 ∧ Hid ((if keptL (lists ps) = [] then [47] else outL (keptL (lists ps))) = R)
def RowB (w w1 : World) (e : Ending) (R : List UInt8) : Prop := ∃ (g cap : Nat) (p0 : ByteArray) (ps : List ByteArray), e = .returned (.slice (some ⟨g, 0, none⟩) (ps.length + 1) cap) ∧ ps.length ≤ 1000000 ∧ Hid (∀ p ∈ lists (p0::ps), p.length ≤ 1000000) ∧ p0.toList.isEmpty = false ∧ True
      ∧ w.heap.size ≤ g ∧ g < w1.heap.size ∧ ps.length + 1 ≤ cap ∧ cap ≤ maxLen ∧ Hid (∀ j (h : j < ((p0::ps)).length), w1.cell? ⟨g, 0 + j, none⟩ = some (.string ((p0::ps))[j])) ∧ w1.cell? ⟨g, 0, none⟩ = some (.string p0) ∧ Below w.heap.size w w1 ∧ Hid ((if keptL (lists (p0::ps)) = [] then [47] else outL (keptL (lists (p0::ps)))) = R)
end Go.Proofs.YtkobhknggamejaaDoor

/- The reference's Clean computes cleanL. -/
namespace Go.Proofs.YtkobhknggamejaaDoor
set_option linter.unusedVariables false
set_option linter.unusedSimpArgs false
open Go.RowKit

end Go.Proofs.YtkobhknggamejaaDoor

/- scheme, Scheme, port: what they compute. -/
namespace Go.Proofs.YtkobhknggamejaaDoor
set_option linter.unusedVariables false
set_option linter.unusedSimpArgs false
open Go.RowKit

/-- strings.Cut at one byte -/
theorem cut_any (s : ByteArray) (c : UInt8) (w : World) (hs : s.size ≤ 1000000) (hM : MaxAt w) :
    Calls Tryd.prog 26 #[.string s, .string ⟨#[c]⟩] w fun e w' => ∃ a b : ByteArray, e = .returned (.tuple #[.string a, .string b, .bool (s.data.toList.contains c)]) ∧ a.data.toList = pre c s.data.toList ∧ b.data.toList = post c s.data.toList ∧ Below w.heap.size w w' := by
  obtain ⟨m, hm⟩ := hM
  refine (Tryd.strings_Cut s ⟨#[c]⟩ m w (by omega) hm).mono ?_
  rintro e w' ⟨rfl, n, rfl⟩
  have h := cut_eq c s.data.toList
  exact ⟨_, _, by rw [show (⟨#[c]⟩ : ByteArray).data.toList = [c] from rfl, h], rfl, rfl, below_drewN (Below.refl _ w) n⟩
theorem takeW_head (p : UInt8 → Bool) (l : List UInt8) (b : UInt8) (r : List UInt8) (h : l.takeWhile p = b :: r) : ∃ r', l = b :: r' := by
  cases l with
  | nil => simp at h
  | cons x l =>
    rw [List.takeWhile_cons] at h
    split at h
    · cases h; exact ⟨l, rfl⟩
    · cases h
theorem schemeOk_pre (l : List UInt8) : schemeOk l = (l.contains 58 && (match pre 58 l with | [] => false | b :: _ => letterB b) && (pre 58 l).all (okC [43, 45, 46])) := by
  unfold schemeOk
  congr 2
  cases h : pre 58 l with
  | nil =>
    cases l with
    | nil => rfl
    | cons b l =>
      unfold pre at h
      rw [List.takeWhile_cons] at h
      split at h
      · cases h
      · next hb =>
        have : b = 58 := by simpa using hb
        subst this; rfl
  | cons b r =>
    obtain ⟨r', rfl⟩ := takeW_head _ _ _ _ h
    rfl
theorem pre_le (c : UInt8) (l : List UInt8) : (pre c l).length ≤ l.length := (List.takeWhile_sublist _).length_le
theorem post_le (c : UInt8) (l : List UInt8) : (post c l).length ≤ l.length := by
  unfold post
  rw [List.length_drop]
  have := (List.dropWhile_sublist (· != c) (l := l)).length_le
  omega
theorem size_of {s : ByteArray} {l : List UInt8} (h : s.data.toList = l) : s.size = l.length := by rw [← h, size_len]
theorem first_at (a : ByteArray) (h : 0 < a.size) : ∃ r, a.data.toList = a[0] :: r := ⟨_, by rw [← drop_at a 0 h]; simp⟩
/-- the cases of scheme -/
theorem scheme_case (l : List UInt8) (a : ByteArray) (ha : a.data.toList = pre 58 l) :
    (l.contains 58 = false ∧ schemeOk l = false) ∨ (l.contains 58 = true ∧ ((a.size = 0 ∧ a.toList.isEmpty = true ∧ schemeOk l = false) ∨ (∃ h : 0 < a.size, a.toList.isEmpty = false ∧ ((letterI (a[0].toNat : Int) = false ∧ schemeOk l = false) ∨ (letterI (a[0].toNat : Int) = true ∧ a.data.toList.all (okC [43, 45, 46]) = schemeOk l))))) := by
  rw [schemeOk_pre, ← ha]
  cases l.contains 58 with
  | false => exact .inl ⟨rfl, rfl⟩
  | true =>
    refine .inr ⟨rfl, ?_⟩
    rcases Nat.eq_zero_or_pos a.size with h0 | h0
    · have : a.data.toList = [] := List.eq_nil_of_length_eq_zero (by rw [size_len]; exact h0)
      exact .inl ⟨h0, (empty_iff a).2 this, by rw [this]; rfl⟩
    · obtain ⟨r, hr⟩ := first_at a h0
      refine .inr ⟨h0, nonempty_of a h0, ?_⟩
      rw [hr]
      have e : letterB a[0] = letterI (a[0].toNat : Int) := rfl
      simp only [e]
      cases letterI (a[0].toNat : Int) with
      | false => exact .inl ⟨rfl, rfl⟩
      | true => exact .inr ⟨rfl, by simp⟩
/-- the reference's scan for a scheme -/
def schemeI : List UInt8 → Nat → Int
  | [], _ => -1
  | b :: r, i => if b = 58 then i else if okC [43, 45, 46] b then schemeI r (i + 1) else -1
theorem schemeI_is (l : List UInt8) : ∀ i, schemeI l i = if l.contains 58 && (pre 58 l).all (okC [43, 45, 46]) then ((i + (pre 58 l).length : Nat) : Int) else -1 := by
  induction l with
  | nil => intro i; rfl
  | cons b l ih =>
    intro i
    unfold schemeI
    by_cases hb : b = 58
    · subst hb; simp [pre]
    · have h1 : (b != 58) = true := by simpa using hb
      have h2 : pre 58 (b :: l) = b :: pre 58 l := by unfold pre; rw [List.takeWhile_cons, if_pos h1]
      have h3 : (b :: l).contains 58 = l.contains 58 := by
        rw [List.contains_cons]
        have : ((58 : UInt8) == b) = false := by rw [beq_eq_false_iff_ne]; exact fun e => hb e.symm
        rw [this]; rfl
      rw [if_neg hb, h2, h3, List.all_cons, ih]
      cases okC [43, 45, 46] b with
      | false => simp
      | true => simp only [if_true, Bool.true_and, List.length_cons]; split <;> simp; omega
def schemeN (l : List UInt8) : Int := if schemeOk l = true then ((pre 58 l).length : Nat) else -1
theorem schemeN_is (l : List UInt8) : schemeN l = match l with | [] => -1 | b :: r => if letterB b then schemeI (b :: r) 0 else -1 := by
  unfold schemeN schemeOk
  cases l with
  | nil => rfl
  | cons b r =>
    simp only [schemeI_is, Nat.zero_add]
    by_cases h : letterB b = true
    · simp only [h, Bool.and_true, if_true]
    · rw [if_neg h]
      simp only [Bool.not_eq_true] at h
      simp [h]
/-- the walk of port, for a text of digits -/
theorem digits_drop (d : List UInt8) (k : Nat) (h : d.all digitB = true) : (d.drop k).all digitB = true := by
  rw [List.all_eq_true] at h ⊢
  exact fun x hx => h x (List.drop_subset _ _ hx)
theorem numL_snoc (l : List UInt8) (b : UInt8) : numL (l ++ [b]) = numL l * 10 + (b.toNat - 48) := by simp [numL, numF]
theorem take_snoc (s : ByteArray) (k : Nat) (h : k < s.size) : s.data.toList.take (k + 1) = s.data.toList.take k ++ [s[k]] := by
  rw [List.take_succ_eq_append_getElem (by simpa using h)]; rfl
theorem numL_bd (l : List UInt8) (h : l.all digitB = true) (h5 : l.length ≤ 5) : numL l ≤ 99999 := by
  have h1 := (foldl_bd l 0 h).2
  have h2 : 10 ^ l.length ≤ 10 ^ 5 := Nat.pow_le_pow_right (by omega) h5
  unfold numL
  omega
theorem digits_take (d : List UInt8) (k : Nat) (h : d.all digitB = true) : (d.take k).all digitB = true := by
  rw [List.all_eq_true] at h ⊢
  exact fun x hx => h x (List.mem_of_mem_take hx)
theorem mem_at (s : ByteArray) (k : Nat) (h : k < s.size) : s[k] ∈ s.data.toList := List.drop_subset k _ (by rw [drop_at s k h]; exact List.mem_cons_self)
theorem str_beq (s : ByteArray) (l : List UInt8) : (s.toList == l) = decide (s.data.toList = l) := by
  rw [ByteArray.toList_eq]
  by_cases h : s.data.toList = l
  · rw [h]; simp
  · rw [decide_eq_false h, beq_eq_false_iff_ne]; exact h
end Go.Proofs.YtkobhknggamejaaDoor

/- The walk of url.Parse: it computes parseL. -/
namespace Go.Proofs.YtkobhknggamejaaDoor
set_option linter.unusedVariables false
set_option linter.unusedSimpArgs false
open Go.RowKit

abbrev noneU : U6 := ([], [], [], [], [], [])
def strV (l : List UInt8) : Value := .string ⟨l.toArray⟩
def urlV (u : U6) : Value := .agg #[strV u.1, strV u.2.1, strV u.2.2.1, strV u.2.2.2.1, strV u.2.2.2.2.1, strV u.2.2.2.2.2]
/-- an address and its error number -/
def resV (o : Option U6) : Value := .tuple #[urlV (o.getD noneU), .int .i64 (if o.isSome then 0 else 4)]
theorem strV_of {t : ByteArray} {l : List UInt8} (h : t.data.toList = l) : Value.string t = strV l := by subst h; rfl
theorem urlV_of {a b c d e f : ByteArray} {u : U6} (ha : a.data.toList = u.1) (hb : b.data.toList = u.2.1) (hc : c.data.toList = u.2.2.1) (hd : d.data.toList = u.2.2.2.1) (he : e.data.toList = u.2.2.2.2.1) (hf : f.data.toList = u.2.2.2.2.2) :
    Value.agg #[.string a, .string b, .string c, .string d, .string e, .string f] = urlV u := by
  rw [urlV, strV_of ha, strV_of hb, strV_of hc, strV_of hd, strV_of he, strV_of hf]
theorem res_none {R : Option U6} (h : R = none) : Ending.returned (.tuple #[.agg #[.string ⟨#[]⟩, .string ⟨#[]⟩, .string ⟨#[]⟩, .string ⟨#[]⟩, .string ⟨#[]⟩, .string ⟨#[]⟩], .int .i64 4]) = .returned (resV R) := by subst h; rfl
theorem res_some {R : Option U6} {u : U6} (h : R = some u) {a b c d e f : ByteArray} (ha : a.data.toList = u.1) (hb : b.data.toList = u.2.1) (hc : c.data.toList = u.2.2.1) (hd : d.data.toList = u.2.2.2.1) (he : e.data.toList = u.2.2.2.2.1) (hf : f.data.toList = u.2.2.2.2.2) :
    Ending.returned (.tuple #[.agg #[.string a, .string b, .string c, .string d, .string e, .string f], .int .i64 0]) = .returned (resV R) := by
  subst h; rw [urlV_of ha hb hc hd he hf]; rfl
theorem trimL_len (l : List UInt8) : (trimL l).length ≤ l.length := by
  unfold trimL trimE trimF
  rw [List.length_reverse]
  refine Nat.le_trans (List.dropWhile_sublist _).length_le ?_
  rw [List.length_reverse]
  exact (List.dropWhile_sublist _).length_le
theorem pre_take (c : UInt8) (l : List UInt8) : l.take (pre c l).length = pre c l := by
  by_cases h : c ∈ l
  · have := pre_post c l h
    calc l.take (pre c l).length = (pre c l ++ c :: post c l).take (pre c l).length := congrArg (List.take _) this
      _ = pre c l := List.take_left
  · rw [pre_all c l h]; simp
theorem bcell {W w1 : World} (hb : Below W.heap.size W w1) : (∀ b o, b < W.heap.size → w1.cell? ⟨b, o, none⟩ = W.cell? ⟨b, o, none⟩) ∧ (∀ b o, b < W.heap.size → w1.frozen? ⟨b, o, none⟩ = W.frozen? ⟨b, o, none⟩) :=
  ⟨fun b o h => hb.cell (p := ⟨b, o, none⟩) h, fun b o h => hb.frozen (p := ⟨b, o, none⟩) h⟩
theorem _root_.Go.RowKit.Below.set6 {w w' : World} (h : Below w.heap.size w w') (a b c d e f : Value) : Below w.heap.size w ((((((w'.setCell ⟨w.heap.size, 0, none⟩ a).setCell ⟨w.heap.size, 1, none⟩ b).setCell ⟨w.heap.size, 2, none⟩ c).setCell ⟨w.heap.size, 3, none⟩ d).setCell ⟨w.heap.size, 4, none⟩ e).setCell ⟨w.heap.size, 5, none⟩ f) :=
  (((((h.setCell (Nat.le_refl _) _).setCell (Nat.le_refl _) _).setCell (Nat.le_refl _) _).setCell (Nat.le_refl _) _).setCell (Nat.le_refl _) _).setCell (Nat.le_refl _) _
/-- six cells lie there -/
def Blank (W : World) (b : Nat) : Prop := ∀ j, j < 6 → (W.cell? ⟨b, j, none⟩).isSome = true
theorem Blank.below {W W' : World} {b n : Nat} (h : Blank W b) (hb : Below n W W') (hlt : b < n) : Blank W' b := fun j hj => by
  rw [hb.cell (p := ⟨b, j, none⟩) hlt]; exact h j hj
theorem isSome_set {W : World} {p q : Addr} {v : Value} (h : (W.cell? q).isSome = true) : ((W.setCell p v).cell? q).isSome = true := by
  obtain ⟨x, hx⟩ := Option.isSome_iff_exists.1 h
  obtain ⟨y, hy⟩ := cell?_setCell_some (p := p) (x := v) hx
  rw [hy]; rfl
theorem Blank.set {W : World} {b : Nat} (h : Blank W b) (p : Addr) (v : Value) : Blank (W.setCell p v) b := fun j hj => isSome_set (h j hj)
theorem Blank.new (w : World) (a b c d e f : Value) (T : Nat) : Blank (w.alloc (.cells #[a, b, c, d, e, f] T)) w.heap.size := fun j hj => by
  have := cells_new w [a, b, c, d, e, f] T j ([a, b, c, d, e, f][j]'hj) (List.getElem?_eq_getElem _)
  have hadd : (⟨w.heap.size, 0, none⟩ : Addr).add j = ⟨w.heap.size, j, none⟩ := by unfold Addr.add; split <;> simp_all
  rw [hadd] at this
  rw [show #[a, b, c, d, e, f] = [a, b, c, d, e, f].toArray from rfl, this]; rfl
abbrev set6 (W : World) (k : Nat) (a b c d e f : Value) : World := (((((W.setCell ⟨k, 0, none⟩ a).setCell ⟨k, 1, none⟩ b).setCell ⟨k, 2, none⟩ c).setCell ⟨k, 3, none⟩ d).setCell ⟨k, 4, none⟩ e).setCell ⟨k, 5, none⟩ f
theorem set6_at {W : World} {k : Nat} (h : Blank W k) (a b c d e f : Value) : (set6 W k a b c d e f).cell? ⟨k, 0, none⟩ = some a ∧ (set6 W k a b c d e f).cell? ⟨k, 1, none⟩ = some b ∧ (set6 W k a b c d e f).cell? ⟨k, 2, none⟩ = some c ∧ (set6 W k a b c d e f).cell? ⟨k, 3, none⟩ = some d ∧ (set6 W k a b c d e f).cell? ⟨k, 4, none⟩ = some e ∧ (set6 W k a b c d e f).cell? ⟨k, 5, none⟩ = some f := by
  have far : ∀ (V : World) (i j : Nat) (v : Value), i ≠ j → (V.setCell ⟨k, i, none⟩ v).cell? ⟨k, j, none⟩ = V.cell? ⟨k, j, none⟩ := fun V i j v hij => World.cell?_setCell_other V _ _ v (fun e => hij (by cases e; rfl))
  have near : ∀ (V : World) (i : Nat) (v : Value), Blank V k → i < 6 → (V.setCell ⟨k, i, none⟩ v).cell? ⟨k, i, none⟩ = some v := fun V i v hV hi => World.cell?_setCell_same' V _ v (hV i hi)
  refine ⟨?_, ?_, ?_, ?_, ?_, ?_⟩
  · rw [far _ 5 0 _ (by omega), far _ 4 0 _ (by omega), far _ 3 0 _ (by omega), far _ 2 0 _ (by omega), far _ 1 0 _ (by omega)]; exact near _ 0 _ h (by omega)
  · rw [far _ 5 1 _ (by omega), far _ 4 1 _ (by omega), far _ 3 1 _ (by omega), far _ 2 1 _ (by omega)]; exact near _ 1 _ (h.set _ _) (by omega)
  · rw [far _ 5 2 _ (by omega), far _ 4 2 _ (by omega), far _ 3 2 _ (by omega)]; exact near _ 2 _ ((h.set _ _).set _ _) (by omega)
  · rw [far _ 5 3 _ (by omega), far _ 4 3 _ (by omega)]; exact near _ 3 _ (((h.set _ _).set _ _).set _ _) (by omega)
  · rw [far _ 5 4 _ (by omega)]; exact near _ 4 _ ((((h.set _ _).set _ _).set _ _).set _ _) (by omega)
  · exact near _ 5 _ (((((h.set _ _).set _ _).set _ _).set _ _).set _ _) (by omega)
abbrev innerQ : ByteArray := ⟨#[45, 46, 95, 126, 33, 36, 38, 39, 40, 41, 42, 43, 44, 59, 61, 58, 64, 47, 63]⟩
abbrev innerS : ByteArray := ⟨#[45, 46, 95, 126, 33, 36, 38, 39, 40, 41, 42, 43, 44, 59, 61, 58, 64, 47]⟩
end Go.Proofs.YtkobhknggamejaaDoor

/- Format and site: the texts of an address (both packages). -/
namespace Go.Proofs.YtkobhknggamejaaDoor
set_option linter.unusedVariables false
set_option linter.unusedSimpArgs false
open Go.RowKit

/-- scheme, host and port -/
def placeL (u : U6) : List UInt8 := u.1 ++ 58 :: 47 :: 47 :: u.2.1 ++ (if u.2.2.1 = [] then [] else 58 :: u.2.2.1)
def tailL (c : UInt8) (l : List UInt8) : List UInt8 := if l = [] then [] else c :: l
def formatL (u : U6) : List UInt8 := (if u.1 = aboutL then aboutL ++ 58 :: u.2.2.2.1 else placeL u ++ u.2.2.2.1 ++ tailL 63 u.2.2.2.2.1) ++ tailL 35 u.2.2.2.2.2
theorem list_empty {s : ByteArray} (h : s.size = 0) : s.data.toList = [] := List.eq_nil_of_length_eq_zero (by rw [size_len]; exact h)
theorem list_ne {s : ByteArray} (h : ¬ s.size = 0) : s.data.toList ≠ [] := fun e => h (by rw [← size_len, e]; rfl)
theorem snext6 {w1 wX w3 : World} {b : Nat} {v0 v1 v2 v3 v4 v5 : Value} (hb : b < w1.heap.size) (h : wX.cell? ⟨b, 0, none⟩ = some v0 ∧ wX.cell? ⟨b, 1, none⟩ = some v1 ∧ wX.cell? ⟨b, 2, none⟩ = some v2 ∧ wX.cell? ⟨b, 3, none⟩ = some v3 ∧ wX.cell? ⟨b, 4, none⟩ = some v4 ∧ wX.cell? ⟨b, 5, none⟩ = some v5 ∧ Below w1.heap.size w1 wX) (h3 : Below wX.heap.size wX w3) :
    w3.cell? ⟨b, 0, none⟩ = some v0 ∧ w3.cell? ⟨b, 1, none⟩ = some v1 ∧ w3.cell? ⟨b, 2, none⟩ = some v2 ∧ w3.cell? ⟨b, 3, none⟩ = some v3 ∧ w3.cell? ⟨b, 4, none⟩ = some v4 ∧ w3.cell? ⟨b, 5, none⟩ = some v5 ∧ Below w1.heap.size w1 w3 := by
  obtain ⟨h0, h1, h2, h4, h5, h6, hw⟩ := h
  have hb' := Nat.lt_of_lt_of_le hb hw.size
  exact ⟨(h3.cell (p := ⟨b, 0, none⟩) hb').trans h0, (h3.cell (p := ⟨b, 1, none⟩) hb').trans h1, (h3.cell (p := ⟨b, 2, none⟩) hb').trans h2, (h3.cell (p := ⟨b, 3, none⟩) hb').trans h4, (h3.cell (p := ⟨b, 4, none⟩) hb').trans h5, (h3.cell (p := ⟨b, 5, none⟩) hb').trans h6, hw.trans (h3.mono hw.size)⟩
theorem new6 (w : World) (a b c d e f : Value) (T : TypeId) : let W := w.alloc (.cells #[a, b, c, d, e, f] T); W.cell? ⟨w.heap.size, 0, none⟩ = some a ∧ W.cell? ⟨w.heap.size, 1, none⟩ = some b ∧ W.cell? ⟨w.heap.size, 2, none⟩ = some c ∧ W.cell? ⟨w.heap.size, 3, none⟩ = some d ∧ W.cell? ⟨w.heap.size, 4, none⟩ = some e ∧ W.cell? ⟨w.heap.size, 5, none⟩ = some f := by simp
theorem site_len (a b c d e f : ByteArray) : (placeL (a.data.toList, b.data.toList, c.data.toList, d.data.toList, e.data.toList, f.data.toList)).length ≤ a.size + b.size + c.size + 4 := by
  unfold placeL
  simp only [List.length_append, List.length_cons, size_len]
  split <;> simp <;> omega
theorem place_len (a b c d e f : ByteArray) : (placeL (a.data.toList, b.data.toList, c.data.toList, d.data.toList, e.data.toList, f.data.toList)).length ≤ a.size + b.size + c.size + 4 := by
  unfold placeL
  simp only [List.length_append, List.length_cons, size_len]
  split <;> simp <;> omega
end Go.Proofs.YtkobhknggamejaaDoor

/- The walk of url.Parse, the address of a site. -/
namespace Go.Proofs.YtkobhknggamejaaDoor
set_option linter.unusedVariables false
set_option linter.unusedSimpArgs false
open Go.RowKit

theorem ext_tail (s : ByteArray) (a b : Nat) (h : b = s.size) : (s.extract a b).data.toList = s.data.toList.drop a := by subst h; exact ext_to s a
end Go.Proofs.YtkobhknggamejaaDoor

/- Plain: what conv keeps, and its inverse. -/
namespace Go.Proofs.YtkobhknggamejaaDoor
set_option linter.unusedVariables false
set_option linter.unusedSimpArgs false
open Go.RowKit

theorem okC_hex (keep : List UInt8) (b : UInt8) (h : 0 ≤ hexB b) : okC keep b = true := by
  have : letterB b = true ∨ digitB b = true := by
    unfold hexB hexI at h
    unfold letterB letterI digitB digitI
    simp only [Bool.or_eq_true, decide_eq_true_eq]
    split at h
    · exact .inr (by assumption)
    · split at h
      · exact .inl (.inl (by omega))
      · split at h
        · exact .inl (.inr (by omega))
        · omega
  unfold okC
  rcases this with h | h <;> simp [h]
theorem hex_dig : ∀ n : Fin 16, 0 ≤ hexB (dig n.1) := by decide
theorem pct_coded (b : UInt8) (r : List UInt8) : codedL (pct b ++ r) = true := by
  have h1 := hex_dig ⟨b.toNat / 16, by have := b.toNat_lt; omega⟩
  have h2 := hex_dig ⟨b.toNat % 16, by omega⟩
  simp only [pct, List.cons_append, List.nil_append, codedL, Bool.and_eq_true, beq_self_eq_true, decide_eq_true_eq, true_and]
  exact ⟨h1, h2⟩
theorem conv_ok (keep : List UInt8) (codes : Bool) (c : UInt8) (r : List UInt8) (h : okC keep c = true) : conv keep codes (c :: r) = c :: conv keep codes r := by
  rw [conv, if_pos (by simp [h])]; rfl
theorem conv_coded (keep : List UInt8) (a b : UInt8) (r : List UInt8) (h : codedL (37 :: a :: b :: r) = true) : conv keep true (37 :: a :: b :: r) = 37 :: a :: b :: conv keep true r := by
  have h2 := h
  simp only [codedL, Bool.and_eq_true, decide_eq_true_eq] at h2
  rw [conv, if_pos (by simp [h]), conv_ok keep true a _ (okC_hex keep a h2.1.2), conv_ok keep true b _ (okC_hex keep b h2.2)]; rfl
theorem coded_shape (c : UInt8) (r : List UInt8) (h : codedL (c :: r) = true) : ∃ a b t, c = 37 ∧ r = a :: b :: t := by
  match r, h with
  | a :: b :: t, h =>
    simp only [codedL, Bool.and_eq_true, beq_iff_eq] at h
    exact ⟨a, b, t, h.1.1, rfl⟩
theorem codedL_more (a b : UInt8) (r t : List UInt8) : codedL (37 :: a :: b :: r) = codedL (37 :: a :: b :: t) := rfl
/-- a converted text stays as it is -/
theorem conv_idem (keep : List UInt8) (l : List UInt8) : conv keep true (conv keep true l) = conv keep true l := by
  suffices h : ∀ n (l : List UInt8), l.length ≤ n → conv keep true (conv keep true l) = conv keep true l from h _ l (Nat.le_refl _)
  intro n
  induction n with
  | zero => intro l hl; obtain rfl := List.eq_nil_of_length_eq_zero (Nat.le_zero.1 hl); rfl
  | succ n ih =>
    intro l hl
    match l with
    | [] => rfl
    | c :: r =>
      simp only [List.length_cons] at hl
      by_cases h1 : okC keep c = true
      · rw [conv_ok keep true c r h1, conv_ok keep true c _ h1, ih r (by omega)]
      · by_cases h2 : codedL (c :: r) = true
        · obtain ⟨a, b, t, rfl, rfl⟩ := coded_shape c r h2
          rw [conv_coded keep a b t h2, conv_coded keep a b _ ((codedL_more a b _ t).trans h2), ih t (by simp at hl; omega)]
        · have e : conv keep true (c :: r) = pct c ++ conv keep true r := by rw [conv, if_neg (by simp [h1, h2])]
          rw [e]
          have h3 := pct_coded c (conv keep true r)
          simp only [pct, List.cons_append, List.nil_append] at h3 ⊢
          rw [conv_coded keep _ _ _ h3, ih r (by omega)]
/-- what stands in a converted text -/
theorem conv_mem (keep : List UInt8) (codes : Bool) (l : List UInt8) : ∀ x ∈ conv keep codes l, okC keep x = true ∨ x = 37 := by
  induction l with
  | nil => intro x h; simp [conv] at h
  | cons c r ih =>
    intro x h
    rw [conv] at h
    rcases List.mem_append.1 h with h | h
    · split at h
      · next hc =>
        obtain rfl : x = c := by simpa using h
        rcases (Bool.or_eq_true _ _).mp hc with h1 | h1
        · exact .inl h1
        · obtain ⟨_, _, _, h2, _⟩ := coded_shape x r ((Bool.and_eq_true _ _).mp h1).2
          exact .inr h2
      · have hd : ∀ n : Fin 16, okC keep (dig n.1) = true := fun n => okC_hex keep _ (hex_dig n)
        simp only [pct, List.mem_cons, List.not_mem_nil, or_false] at h
        rcases h with rfl | rfl | rfl
        · exact .inr rfl
        · exact .inl (hd ⟨c.toNat / 16, by have := c.toNat_lt; omega⟩)
        · exact .inl (hd ⟨c.toNat % 16, by omega⟩)
    · exact ih x h
def hexByte (a b : UInt8) : UInt8 := UInt8.ofNat ((hexB a).toNat * 16 + (hexB b).toNat)
/-- percent codes turned to bytes -/
def unescL : List UInt8 → List UInt8
  | c :: a :: b :: r => if c == 37 && decide (0 ≤ hexB a) && decide (0 ≤ hexB b) then hexByte a b :: unescL r else c :: unescL (a :: b :: r)
  | [c, a] => [c, a]
  | [c] => [c]
  | [] => []
theorem unesc_coded (c a b : UInt8) (r : List UInt8) (h : codedL (c :: a :: b :: r) = true) : unescL (c :: a :: b :: r) = hexByte a b :: unescL r := by
  rw [unescL, if_pos (show (c == 37 && decide (0 ≤ hexB a) && decide (0 ≤ hexB b)) = true from h)]
theorem unesc_plain (c : UInt8) (l : List UInt8) (h : codedL (c :: l) = false) : unescL (c :: l) = c :: unescL l := by
  match l, h with
  | [], _ => rfl
  | [a], _ => rfl
  | a :: b :: r, h => rw [unescL, if_neg (by rw [show (c == 37 && decide (0 ≤ hexB a) && decide (0 ≤ hexB b)) = false from h]; exact Bool.false_ne_true)]
theorem hex_dig_is : ∀ n : Fin 16, hexB (dig n.1) = n.1 := by decide
theorem hexByte_dig (b : UInt8) : hexByte (dig (b.toNat / 16)) (dig (b.toNat % 16)) = b := by
  have h1 := hex_dig_is ⟨b.toNat / 16, by have := b.toNat_lt; omega⟩
  have h2 := hex_dig_is ⟨b.toNat % 16, by omega⟩
  simp only at h1 h2
  unfold hexByte
  rw [h1, h2]
  have : (((b.toNat / 16 : Nat) : Int)).toNat * 16 + (((b.toNat % 16 : Nat) : Int)).toNat = b.toNat := by omega
  rw [this]; simp
/-- what was escaped is found again -/
theorem unesc_conv (keep : List UInt8) (h : okC keep 37 = false) (l : List UInt8) : unescL (conv keep false l) = l := by
  induction l with
  | nil => rfl
  | cons c r ih =>
    by_cases h1 : okC keep c = true
    · rw [conv_ok keep false c r h1, unesc_plain, ih]
      have : c ≠ 37 := by rintro rfl; rw [h] at h1; cases h1
      cases e : codedL (c :: conv keep false r) with
      | false => rfl
      | true => exact absurd (coded_shape _ _ e).choose_spec.choose_spec.choose_spec.1 this
    · have e : conv keep false (c :: r) = pct c ++ conv keep false r := by rw [conv, if_neg (by simp [h1])]
      rw [e]
      have h3 := pct_coded c (conv keep false r)
      simp only [pct, List.cons_append, List.nil_append] at h3 ⊢
      rw [unesc_coded _ _ _ _ h3, hexByte_dig, ih]
theorem unesc_len (l : List UInt8) : (unescL l).length ≤ l.length := by
  suffices h : ∀ n (l : List UInt8), l.length ≤ n → (unescL l).length ≤ l.length from h _ l (Nat.le_refl _)
  intro n
  induction n with
  | zero => intro l hl; obtain rfl := List.eq_nil_of_length_eq_zero (Nat.le_zero.1 hl); simp [unescL]
  | succ n ih =>
    intro l hl
    match l with
    | [] => simp [unescL]
    | c :: r =>
      simp only [List.length_cons] at hl
      cases e : codedL (c :: r) with
      | false => rw [unesc_plain c r e]; have := ih r (by omega); simp; omega
      | true =>
        obtain ⟨a, b, t, rfl, rfl⟩ := coded_shape c r e
        rw [unesc_coded _ _ _ _ e]
        have := ih t (by simp at hl; omega)
        simp; omega
end Go.Proofs.YtkobhknggamejaaDoor

/- Plain: what conv and cleanL keep; an address is parsed from its text again. -/
namespace Go.Proofs.YtkobhknggamejaaDoor
set_option linter.unusedVariables false
set_option linter.unusedSimpArgs false
open Go.RowKit

/-- no conversion changes it -/
def Fixed (keep l : List UInt8) : Prop := conv keep true l = l
theorem conv_ge (keep : List UInt8) (codes : Bool) (l : List UInt8) : l.length ≤ (conv keep codes l).length := by
  induction l with
  | nil => simp [conv]
  | cons c r ih => unfold conv; split <;> simp [pct] <;> omega
theorem fixed_cases (keep : List UInt8) (c : UInt8) (r : List UInt8) (h : Fixed keep (c :: r)) :
    (okC keep c = true ∧ Fixed keep r) ∨ (∃ a b t, c = 37 ∧ r = a :: b :: t ∧ codedL (37 :: a :: b :: t) = true ∧ Fixed keep t) := by
  unfold Fixed at h ⊢
  by_cases h1 : okC keep c = true
  · rw [conv_ok keep true c r h1] at h
    exact .inl ⟨h1, (List.cons.inj h).2⟩
  · by_cases h2 : codedL (c :: r) = true
    · obtain ⟨a, b, t, rfl, rfl⟩ := coded_shape c r h2
      rw [conv_coded keep a b t h2] at h
      exact .inr ⟨a, b, t, rfl, rfl, h2, (List.cons.inj (List.cons.inj (List.cons.inj h).2).2).2⟩
    · exfalso
      rw [conv, if_neg (by simp [h1, h2])] at h
      have := congrArg List.length h
      have h3 := conv_ge keep true r
      simp [pct] at this
      omega
theorem fixed_ok (keep : List UInt8) (c : UInt8) (r : List UInt8) (h : okC keep c = true) (hr : Fixed keep r) : Fixed keep (c :: r) := by
  unfold Fixed at *; rw [conv_ok keep true c r h, hr]
theorem fixed_coded (keep : List UInt8) (a b : UInt8) (r : List UInt8) (h : codedL (37 :: a :: b :: r) = true) (hr : Fixed keep r) : Fixed keep (37 :: a :: b :: r) := by
  unfold Fixed at *; rw [conv_coded keep a b r h, hr]
theorem fixed_nil (keep : List UInt8) : Fixed keep [] := rfl
theorem fixed_app (keep b : List UInt8) (hb : Fixed keep b) : ∀ n (a : List UInt8), a.length ≤ n → Fixed keep a → Fixed keep (a ++ b) := by
  intro n
  induction n with
  | zero => intro a ha _; obtain rfl := List.eq_nil_of_length_eq_zero (Nat.le_zero.1 ha); exact hb
  | succ n ih =>
    intro a ha h
    match a, ha, h with
    | [], _, _ => exact hb
    | c :: r, ha, h =>
      simp only [List.length_cons] at ha
      rcases fixed_cases keep c r h with ⟨h1, h2⟩ | ⟨x, y, t, rfl, rfl, h3, h4⟩
      · exact fixed_ok keep c _ h1 (ih r (by omega) h2)
      · exact fixed_coded keep x y _ h3 (ih t (by simp at ha; omega) h4)
theorem hex_not_slash (a : UInt8) (h : 0 ≤ hexB a) : a ≠ 47 := by rintro rfl; revert h; decide
theorem fixed_split (keep r : List UInt8) (hk : okC keep 47 = true) : ∀ n (p : List UInt8), p.length ≤ n → Fixed keep (p ++ 47 :: r) → Fixed keep p ∧ Fixed keep r := by
  intro n
  induction n with
  | zero =>
    intro p hp h
    obtain rfl := List.eq_nil_of_length_eq_zero (Nat.le_zero.1 hp)
    rcases fixed_cases keep 47 r h with ⟨_, h2⟩ | ⟨_, _, _, e, _⟩
    · exact ⟨rfl, h2⟩
    · cases e
  | succ n ih =>
    intro p hp h
    match p, hp, h with
    | [], _, h =>
      rcases fixed_cases keep 47 r h with ⟨_, h2⟩ | ⟨_, _, _, e, _⟩
      · exact ⟨rfl, h2⟩
      · cases e
    | c :: q, hp, h =>
      simp only [List.length_cons] at hp
      rcases fixed_cases keep c (q ++ 47 :: r) h with ⟨h1, h2⟩ | ⟨x, y, t, rfl, e, h3, h4⟩
      · obtain ⟨h5, h6⟩ := ih q (by omega) h2
        exact ⟨fixed_ok keep c q h1 h5, h6⟩
      · have hx := h3
        simp only [codedL, Bool.and_eq_true, decide_eq_true_eq] at hx
        match q, e, hp with
        | [], e, _ => exact absurd (List.cons.inj e).1.symm (hex_not_slash x hx.1.2)
        | [z], e, _ => exact absurd (List.cons.inj (List.cons.inj e).2).1.symm (hex_not_slash y hx.2)
        | z :: z2 :: q2, e, hp =>
          obtain ⟨rfl, e2⟩ := List.cons.inj e
          obtain ⟨rfl, rfl⟩ := List.cons.inj e2
          obtain ⟨h5, h6⟩ := ih q2 (by simp at hp; omega) h4
          exact ⟨fixed_coded keep _ _ q2 h3 h5, h6⟩
theorem segs_step (c : UInt8) (l : List UInt8) (h : c ∈ l) : segs c l = pre c l :: segs c (post c l) := by
  have e := pre_post c l h
  calc segs c l = segs c (pre c l ++ c :: post c l) := congrArg _ e
    _ = _ := segs_pre c _ _ (pre_not c l)
theorem post_lt (c : UInt8) (l : List UInt8) (h : c ∈ l) : (post c l).length < l.length := by
  have := congrArg List.length (pre_post c l h)
  simp at this; omega
theorem segs_all (P : List UInt8 → Prop) (c : UInt8) (h1 : ∀ p r, c ∉ p → P (p ++ c :: r) → P p ∧ P r) : ∀ n (l : List UInt8), l.length ≤ n → P l → ∀ x ∈ segs c l, P x ∧ c ∉ x := by
  intro n
  induction n with
  | zero =>
    intro l hl hP x hx
    obtain rfl := List.eq_nil_of_length_eq_zero (Nat.le_zero.1 hl)
    simp [segs] at hx; subst hx; exact ⟨hP, by simp⟩
  | succ n ih =>
    intro l hl hP x hx
    by_cases hc : c ∈ l
    · rw [segs_step c l hc] at hx
      have e := pre_post c l hc
      rw [e] at hP
      obtain ⟨p1, p2⟩ := h1 _ _ (pre_not c l) hP
      rcases List.mem_cons.1 hx with rfl | hx
      · exact ⟨p1, pre_not c l⟩
      · exact ih _ (by have := post_lt c l hc; omega) p2 x hx
    · rw [segs_one c l hc] at hx
      obtain rfl : x = l := by simpa using hx
      exact ⟨hP, hc⟩
theorem fold_keep (l : List (List UInt8)) : ∀ (acc : List (List UInt8)) (x : List UInt8), x ∈ l.foldl kstep acc → x ∈ acc ∨ (x ∈ l ∧ isDot x = false) := by
  induction l with
  | nil => intro acc x h; exact .inl h
  | cons p r ih =>
    intro acc x h
    rcases ih _ x h with h | h
    · unfold kstep at h
      split at h
      · exact .inl (List.dropLast_subset _ h)
      · split at h
        · exact .inl h
        · next h1 h2 =>
          rcases List.mem_append.1 h with h | h
          · exact .inl h
          · obtain rfl : x = p := by simpa using h
            exact .inr ⟨List.mem_cons_self, by simp [isDot, h1, h2]⟩
    · exact .inr ⟨List.mem_cons_of_mem _ h.1, h.2⟩
theorem kept_mem (l : List (List UInt8)) (x : List UInt8) (h : x ∈ keptL l) : x = [] ∨ (x ∈ l ∧ isDot x = false) := by
  unfold keptL kpt at h
  rcases List.mem_append.1 h with h | h
  · rw [List.take_length] at h
    rcases fold_keep _ _ _ h with h | h
    · cases h
    · exact .inr h
  · split at h
    · exact .inl (by simpa using h)
    · cases h
theorem tailE_mem (l : List (List UInt8)) (x : List UInt8) (h : x ∈ tailE l) : x ∈ l := by
  unfold tailE at h
  split at h
  · exact List.mem_of_mem_tail h
  · exact h
theorem fold_same (l : List (List UInt8)) (h : ∀ x ∈ l, isDot x = false) : ∀ acc, l.foldl kstep acc = acc ++ l := by
  induction l with
  | nil => intro acc; simp
  | cons p r ih =>
    intro acc
    have hp := h p List.mem_cons_self
    simp only [isDot, Bool.or_eq_false_iff, beq_eq_false_iff_ne] at hp
    rw [List.foldl_cons, ih (fun x hx => h x (List.mem_cons_of_mem _ hx)), kstep, if_neg hp.2, if_neg hp.1]; simp
theorem kept_same (l : List (List UInt8)) (h : ∀ x ∈ l, isDot x = false) : keptL l = l := by
  unfold keptL kpt
  rw [List.take_length, fold_same l h, if_neg, List.append_nil, List.nil_append]
  rintro ⟨_, h2⟩
  cases e : l.getLast? with
  | none => rw [e] at h2; cases h2
  | some x =>
    rw [e] at h2
    have := h x (List.mem_of_getLast? e)
    simp only [Option.map_some, Option.getD_some] at h2
    rw [this] at h2; cases h2
theorem segs_out (k : List (List UInt8)) (h : ∀ x ∈ k, (47 : UInt8) ∉ x) (hk : k ≠ []) : segs 47 (outL k) = [] :: k := by
  induction k with
  | nil => exact absurd rfl hk
  | cons x r ih =>
    have e : outL (x :: r) = 47 :: (x ++ outL r) := by simp [outL]
    have hx := h x List.mem_cons_self
    have e2 : segs 47 (47 :: (x ++ outL r)) = [] :: segs 47 (x ++ outL r) := by rw [segs, if_pos (by rfl)]
    rw [e, e2]
    cases r with
    | nil => rw [show outL [] = [] from rfl, List.append_nil, segs_one 47 x hx]
    | cons y r =>
      have h2 := ih (fun z hz => h z (List.mem_cons_of_mem _ hz)) (by simp)
      have e3 : outL (y :: r) = 47 :: (y ++ outL r) := by simp [outL]
      rw [e3] at h2 ⊢
      rw [segs_pre 47 _ x hx]
      rw [segs, if_pos (by rfl)] at h2
      rw [(List.cons.inj h2).2]
def keptP (l : List UInt8) : List (List UInt8) := keptL (tailE (segs 47 l))
theorem keptP_mem (l : List UInt8) (x : List UInt8) (h : x ∈ keptP l) : (47 : UInt8) ∉ x ∧ isDot x = false ∧ (x = [] ∨ x ∈ segs 47 l) := by
  rcases kept_mem _ _ h with rfl | ⟨h1, h2⟩
  · exact ⟨by simp, rfl, .inl rfl⟩
  · have h3 := tailE_mem _ _ h1
    exact ⟨(segs_all (fun _ => True) 47 (fun _ _ _ _ => ⟨trivial, trivial⟩) _ l (Nat.le_refl _) trivial x h3).2, h2, .inr h3⟩
theorem cleanL_is (l : List UInt8) : cleanL l = if keptP l = [] then [47] else outL (keptP l) := rfl
/-- a cleaned path stays as it is -/
theorem clean_idem (l : List UInt8) : cleanL (cleanL l) = cleanL l := by
  rw [cleanL_is l]
  split
  · rfl
  · next h =>
    have h1 := segs_out (keptP l) (fun x hx => (keptP_mem l x hx).1) h
    have h2 : keptP (outL (keptP l)) = keptP l := by
      rw [keptP, h1, tailE, if_pos (show ([] :: keptP l).head? = some [] from rfl), List.tail_cons, kept_same _ (fun x hx => (keptP_mem l x hx).2.1)]
    rw [cleanL_is, h2, if_neg h]
theorem clean_head (l : List UInt8) : ∃ r, cleanL l = 47 :: r := by
  rw [cleanL_is]
  split
  · exact ⟨[], rfl⟩
  · next h =>
    cases e : keptP l with
    | nil => exact absurd e h
    | cons x r => exact ⟨x ++ outL r, by simp [outL]⟩
theorem fixed_out (keep : List UInt8) (hk : okC keep 47 = true) (k : List (List UInt8)) (h : ∀ x ∈ k, Fixed keep x) : Fixed keep (outL k) := by
  induction k with
  | nil => rfl
  | cons x r ih =>
    have e : outL (x :: r) = 47 :: (x ++ outL r) := by simp [outL]
    rw [e]
    exact fixed_ok keep 47 _ hk (fixed_app keep _ (ih fun y hy => h y (List.mem_cons_of_mem _ hy)) _ x (Nat.le_refl _) (h x List.mem_cons_self))
/-- cleaning keeps what is converted -/
theorem fixed_clean (keep : List UInt8) (hk : okC keep 47 = true) (l : List UInt8) (h : Fixed keep l) : Fixed keep (cleanL l) := by
  rw [cleanL_is]
  split
  · exact fixed_ok keep 47 [] hk rfl
  · refine fixed_out keep hk _ fun x hx => ?_
    rcases (keptP_mem l x hx).2.2 with rfl | h3
    · rfl
    · exact (segs_all (Fixed keep) 47 (fun p r _ hpr => fixed_split keep r hk _ p (Nat.le_refl _) hpr) _ l (Nat.le_refl _) h x h3).1
theorem out_mem (k : List (List UInt8)) (x : UInt8) (h : x ∈ outL k) : x = 47 ∨ ∃ p ∈ k, x ∈ p := by
  induction k with
  | nil => simp [outL] at h
  | cons p r ih =>
    have e : outL (p :: r) = 47 :: (p ++ outL r) := by simp [outL]
    rw [e] at h
    rcases List.mem_cons.1 h with h | h
    · exact .inl h
    · rcases List.mem_append.1 h with h | h
      · exact .inr ⟨p, List.mem_cons_self, h⟩
      · rcases ih h with h | ⟨q, hq, h⟩
        · exact .inl h
        · exact .inr ⟨q, List.mem_cons_of_mem _ hq, h⟩
theorem segs_sub (c : UInt8) : ∀ n (l : List UInt8), l.length ≤ n → ∀ p ∈ segs c l, ∀ x ∈ p, x ∈ l := by
  intro n
  induction n with
  | zero =>
    intro l hl p hp x hx
    obtain rfl := List.eq_nil_of_length_eq_zero (Nat.le_zero.1 hl)
    simp [segs] at hp; subst hp; exact hx
  | succ n ih =>
    intro l hl p hp x hx
    by_cases hc : c ∈ l
    · rw [segs_step c l hc] at hp
      have e := pre_post c l hc
      rw [e]
      rcases List.mem_cons.1 hp with rfl | hp
      · exact List.mem_append_left _ hx
      · exact List.mem_append_right _ (List.mem_cons_of_mem _ (ih _ (by have := post_lt c l hc; omega) p hp x hx))
    · rw [segs_one c l hc] at hp
      obtain rfl : p = l := by simpa using hp
      exact hx
theorem clean_mem (l : List UInt8) (x : UInt8) (h : x ∈ cleanL l) : x = 47 ∨ x ∈ l := by
  rw [cleanL_is] at h
  split at h
  · exact .inl (by simpa using h)
  · rcases out_mem _ _ h with h | ⟨p, hp, h⟩
    · exact .inl h
    · rcases (keptP_mem l p hp).2.2 with rfl | h3
      · cases h
      · exact .inr (segs_sub 47 _ l (Nat.le_refl _) p h3 x h)
theorem takeW_stop (c : UInt8) (p r : List UInt8) (h : c ∉ p) : pre c (p ++ c :: r) = p ∧ post c (p ++ c :: r) = r := by
  induction p with
  | nil => simp [pre, post]
  | cons b p ih =>
    have hb : (b != c) = true := by simp only [bne_iff_ne]; exact fun e => h (by rw [e]; exact List.mem_cons_self)
    obtain ⟨h1, h2⟩ := ih fun hm => h (List.mem_cons_of_mem _ hm)
    unfold pre post at *
    rw [List.cons_append, List.takeWhile_cons, if_pos hb, List.dropWhile_cons, if_pos hb]
    exact ⟨by rw [h1], h2⟩
theorem pre_tail (c : UInt8) (p l : List UInt8) (h : c ∉ p) : pre c (p ++ tailL c l) = p ∧ post c (p ++ tailL c l) = l := by
  unfold tailL
  split
  · next hl => subst hl; rw [List.append_nil]; exact ⟨pre_all c p h, post_none c p h⟩
  · exact takeW_stop c p l h
/-- no byte of it is white space -/
theorem trim_id (l : List UInt8) (h : ∀ x ∈ l, 32 < x.toNat) : trimL l = l := by
  have hw : ∀ m : List UInt8, (∀ x ∈ m, 32 < x.toNat) → m.dropWhile wsB = m := fun m hm => by
    cases m with
    | nil => rfl
    | cons b r =>
      rw [List.dropWhile_cons, if_neg]
      have := hm b List.mem_cons_self
      simp only [wsB, decide_eq_true_eq]; omega
  unfold trimL trimE trimF
  rw [hw l h, hw l.reverse (fun x hx => h x (by simpa using hx)), List.reverse_reverse]
theorem okC_ascii (more : List UInt8) (hm : ∀ x ∈ more, 32 < x.toNat) (x : UInt8) (h : okC more x = true) : 32 < x.toNat := by
  unfold okC letterB letterI digitB digitI at h
  simp only [Bool.or_eq_true, decide_eq_true_eq] at h
  rcases h with (h | h) | h
  · omega
  · omega
  · exact hm x (by simpa using h)
theorem conv_ascii (more : List UInt8) (codes : Bool) (hm : ∀ x ∈ more, 32 < x.toNat) (l : List UInt8) : ∀ x ∈ conv more codes l, 32 < x.toNat := fun x hx => by
  rcases conv_mem more codes l x hx with h | rfl
  · exact okC_ascii more hm x h
  · decide
theorem okC_ne (more : List UInt8) (c : UInt8) (hc : okC more c = false) (l : List UInt8) (h : ∀ x ∈ l, okC more x = true ∨ x = 37) (h37 : c ≠ 37) : c ∉ l := fun hm => by
  rcases h c hm with h | h
  · rw [hc] at h; cases h
  · exact h37 h
theorem lowB_low (b : UInt8) : lowB (lowB b) = lowB b := by
  unfold lowB
  split
  · next h =>
    have : (b + 32).toNat = b.toNat + 32 := by rw [UInt8.toNat_add]; have := b.toNat_lt; simp; omega
    rw [if_neg (by omega)]
  · rfl
theorem lowL_low (l : List UInt8) : lowL (lowL l) = lowL l := by
  unfold lowL; rw [List.map_map]; congr 1; exact funext fun b => lowB_low b
theorem zeros_zeros (l : List UInt8) : zerosOff (zerosOff l) = zerosOff l := by
  cases e : zerosOff l with
  | nil => rfl
  | cons b r =>
    have := zeros_head l b r e
    unfold zerosOff
    rw [List.dropWhile_cons, if_neg (by simpa using this)]
theorem zeros_len (l : List UInt8) : (zerosOff l).length ≤ l.length := (List.dropWhile_sublist _).length_le
theorem digit_ok (more : List UInt8) (x : UInt8) (h : digitB x = true) : okC more x = true := by unfold okC; simp [h]
/-- the port that was read is read again -/
theorem port_again (n d : List UInt8) (h : portOk d) : portOk (portOf n d) ∧ portOf n (portOf n d) = portOf n d := by
  obtain ⟨h1, h2, h3⟩ := h
  unfold portOf
  split
  · refine ⟨⟨rfl, by simp, by decide⟩, ?_⟩
    rw [if_neg (by rintro (⟨_, h⟩ | ⟨_, h⟩) <;> revert h <;> decide)]; rfl
  · next hn =>
    refine ⟨⟨zeros_all d h1, Nat.le_trans (zeros_len d) h2, by rw [numL_zeros]; exact h3⟩, ?_⟩
    rw [numL_zeros, if_neg hn, zeros_zeros]
theorem http_ne : httpL ≠ aboutL ∧ httpsL ≠ aboutL := by decide
structure Site (n h p path q f : List UInt8) : Prop where
  sch : n = httpL ∨ n = httpsL
  hlow : lowL h = h
  hlen : 1 ≤ h.length ∧ h.length ≤ 253
  hok : h.all (okC [45, 46]) = true
  pok : portOk p ∧ portOf n p = p
  clean : cleanL path = path
  pfix : conv innerL true path = path
  pmem : ∀ x ∈ path, okC innerL x = true ∨ x = 37
  qfix : conv (innerL ++ [63]) true q = q
  qmem : ∀ x ∈ q, okC (innerL ++ [63]) x = true ∨ x = 37
  ffix : conv (innerL ++ [63]) true f = f
  fmem : ∀ x ∈ f, okC (innerL ++ [63]) x = true ∨ x = 37
theorem innerQ_gt : ∀ x ∈ innerL ++ [63], 32 < x.toNat := by decide
theorem inner_gt : ∀ x ∈ innerL, 32 < x.toNat := by decide
theorem okC_sub (a b : List UInt8) (x : UInt8) (h : ∀ y ∈ a, y ∈ b) (hx : okC a x = true) : okC b x = true := by
  unfold okC at *
  simp only [Bool.or_eq_true] at *
  rcases hx with hx | hx
  · exact .inl hx
  · exact .inr (by simp only [List.contains_iff_mem] at *; exact h x hx)
/-- what parseL gives for a site -/
theorem site_of {n fr before : List UInt8} {u : U6} (hf : fr = conv (innerL ++ [63]) true fr) (hfm : ∀ x ∈ fr, okC (innerL ++ [63]) x = true ∨ x = 37) (h : siteL n fr before = some u) : ∃ a b c d, u = (n, a, b, c, d, fr) ∧ Site n a b c d fr := by
  unfold siteL at h
  split at h
  · next h1 =>
    simp only at h
    split at h
    · next h2 =>
      obtain ⟨h3, h4, h5, h6⟩ := h2
      cases h
      have hk : okC innerL 47 = true := by decide
      refine ⟨_, _, _, _, rfl, ⟨h1.1, lowL_low _, by rw [lowL_len]; exact ⟨h4, h5⟩, by rw [lowL_ok [45, 46] _ (by decide)]; exact h6, port_again n _ h3, clean_idem _, ?_, ?_, conv_idem _ _, conv_mem _ _ _, hf.symm, hfm⟩⟩
      · exact fixed_clean innerL hk _ (conv_idem innerL _)
      · intro x hx
        rcases clean_mem _ x hx with rfl | hx
        · exact .inl hk
        · exact conv_mem _ _ _ x hx
    · cases h
  · cases h
theorem http_gt : ∀ x ∈ httpL, 32 < x.toNat := by decide
theorem https_gt : ∀ x ∈ httpsL, 32 < x.toNat := by decide
theorem about_gt : ∀ x ∈ aboutL, 32 < x.toNat := by decide
theorem all_mem {more l : List UInt8} (h : l.all (okC more) = true) : ∀ x ∈ l, okC more x = true ∨ x = 37 := fun x hx => .inl (List.all_eq_true.1 h x hx)
theorem port_mem {p : List UInt8} (h : portOk p) : ∀ x ∈ p, okC [] x = true ∨ x = 37 := fun x hx => .inl (digit_ok [] x (List.all_eq_true.1 h.1 x hx))
theorem mem_tail (c : UInt8) (l : List UInt8) (x : UInt8) (h : x ∈ tailL c l) : x = c ∨ x ∈ l := by
  unfold tailL at h
  split at h
  · cases h
  · exact List.mem_cons.1 h
/-- what stands between the scheme and the fragment, and behind // -/
def midL (a b c d : List UInt8) : List UInt8 := a ++ tailL 58 b ++ c ++ tailL 63 d
theorem format_site (n a b c d f : List UInt8) (hn : n ≠ aboutL) : formatL (n, a, b, c, d, f) = n ++ 58 :: (47 :: 47 :: midL a b c d ++ tailL 35 f) := by
  unfold formatL placeL midL
  rw [if_neg hn]
  simp [tailL, List.append_assoc]
theorem http_pre (n r : List UInt8) (h : n = httpL ∨ n = httpsL) : pre 58 (n ++ 58 :: r) = n ∧ post 58 (n ++ 58 :: r) = r ∧ schemeOk (n ++ 58 :: r) = true ∧ lowL n = n := by
  have h1 := takeW_stop 58 n r (by rcases h with rfl | rfl <;> decide)
  refine ⟨h1.1, h1.2, ?_, by rcases h with rfl | rfl <;> decide⟩
  unfold schemeOk
  rw [h1.1]
  have h2 : (n ++ 58 :: r).contains 58 = true := by simp
  rw [h2]
  rcases h with rfl | rfl <;> rfl
theorem site_again {n a b c d f : List UInt8} (s : Site n a b c d f) : siteL n f (47 :: 47 :: midL a b c d) = some (n, a, b, c, d, f) := by
  obtain ⟨sch, hlow, hlen, hok, pok, clean, pfix, pmem, qfix, qmem, ffix, fmem⟩ := s
  have hc47 : ∃ r, c = 47 :: r := by rw [← clean]; exact clean_head c
  obtain ⟨cr, hcr⟩ := hc47
  have ha := all_mem hok
  have hb := port_mem pok.1
  have n63 : (63 : UInt8) ∉ a ++ tailL 58 b ++ c := by
    simp only [List.mem_append, not_or]
    refine ⟨⟨okC_ne _ 63 (by decide) a ha (by decide), fun h => ?_⟩, okC_ne _ 63 (by decide) c pmem (by decide)⟩
    rcases mem_tail 58 b 63 h with h | h
    · revert h; decide
    · exact okC_ne _ 63 (by decide) b hb (by decide) h
  have n47 : (47 : UInt8) ∉ a ++ tailL 58 b := by
    simp only [List.mem_append, not_or]
    refine ⟨okC_ne _ 47 (by decide) a ha (by decide), fun h => ?_⟩
    rcases mem_tail 58 b 47 h with h | h
    · revert h; decide
    · exact okC_ne _ 47 (by decide) b hb (by decide) h
  have n58 : (58 : UInt8) ∉ a := okC_ne _ 58 (by decide) a ha (by decide)
  have q1 := pre_tail 63 _ d n63
  have q2 : pre 47 (a ++ tailL 58 b ++ c) = a ++ tailL 58 b := by rw [hcr]; exact (takeW_stop 47 _ cr n47).1
  have q3 := pre_tail 58 a b n58
  have q4 : (a ++ tailL 58 b ++ c).drop (a ++ tailL 58 b).length = c := by simp
  unfold siteL
  rw [if_pos ⟨sch, rfl⟩]
  simp only [List.drop_succ_cons, List.drop_zero, midL, q1.1, q1.2, q2, q3.1, q3.2, q4]
  rw [if_pos ⟨pok.1, hlen.1, hlen.2, hok⟩, hlow, pok.2, pfix, clean, qfix]
theorem mid_mem {n a b c d f : List UInt8} (s : Site n a b c d f) : ∀ x ∈ midL a b c d, okC (innerL ++ [63]) x = true ∨ x = 37 := by
  intro x hx
  unfold midL at hx
  simp only [List.mem_append] at hx
  have hs : ∀ m : List UInt8, (∀ y ∈ m, y ∈ innerL ++ [63]) → okC m x = true ∨ x = 37 → okC (innerL ++ [63]) x = true ∨ x = 37 := fun m hm h => h.imp (okC_sub m _ x hm) id
  rcases hx with ((hx | hx) | hx) | hx
  · exact hs [45, 46] (by decide) (all_mem s.hok x hx)
  · rcases mem_tail 58 b x hx with rfl | hx
    · exact .inl (by decide)
    · exact hs [] (by simp) (port_mem s.pok.1 x hx)
  · exact hs innerL (fun y hy => List.mem_append_left _ hy) (s.pmem x hx)
  · rcases mem_tail 63 d x hx with rfl | hx
    · exact .inl (by decide)
    · exact s.qmem x hx
theorem ok_gt (x : UInt8) (h : okC (innerL ++ [63]) x = true ∨ x = 37) : 32 < x.toNat := by
  rcases h with h | rfl
  · exact okC_ascii _ innerQ_gt x h
  · decide
theorem site_parse {n a b c d f : List UInt8} (s : Site n a b c d f) : parseL (formatL (n, a, b, c, d, f)) = some (n, a, b, c, d, f) := by
  have hn : n ≠ aboutL := by rcases s.sch with rfl | rfl <;> decide
  rw [format_site n a b c d f hn]
  obtain ⟨p1, p2, p3, p4⟩ := http_pre n (47 :: 47 :: midL a b c d ++ tailL 35 f) s.sch
  have hgt : ∀ x ∈ n ++ 58 :: (47 :: 47 :: midL a b c d ++ tailL 35 f), 32 < x.toNat := by
    intro x hx
    rcases List.mem_append.1 hx with hx | hx
    · rcases s.sch with rfl | rfl
      · exact http_gt x hx
      · exact https_gt x hx
    · rcases List.mem_cons.1 hx with rfl | hx
      · decide
      · rcases List.mem_append.1 hx with hx | hx
        · rcases List.mem_cons.1 hx with rfl | hx
          · decide
          · rcases List.mem_cons.1 hx with rfl | hx
            · decide
            · exact ok_gt x (mid_mem s x hx)
        · rcases mem_tail 35 f x hx with rfl | hx
          · decide
          · exact ok_gt x (s.fmem x hx)
  have n35 : (35 : UInt8) ∉ 47 :: 47 :: midL a b c d := by
    intro h
    rcases List.mem_cons.1 h with h | h
    · revert h; decide
    · rcases List.mem_cons.1 h with h | h
      · revert h; decide
      · exact okC_ne _ 35 (by decide) _ (mid_mem s) (by decide) h
  have q := pre_tail 35 _ f n35
  unfold parseL
  rw [trim_id _ hgt, if_pos p3, p1, p2, p4]
  unfold restL
  simp only [if_neg hn, q.1, q.2, s.ffix]
  exact site_again s
structure About (path f : List UInt8) : Prop where
  pok : path.all (okC [45]) = true
  ffix : conv (innerL ++ [63]) true f = f
  fmem : ∀ x ∈ f, okC (innerL ++ [63]) x = true ∨ x = 37
theorem about_parse {p f : List UInt8} (s : About p f) : parseL (formatL (aboutL, [], [], p, [], f)) = some (aboutL, [], [], p, [], f) := by
  have e : formatL (aboutL, [], [], p, [], f) = aboutL ++ 58 :: (p ++ tailL 35 f) := by
    unfold formatL; rw [if_pos rfl]; simp
  rw [e]
  have h1 := takeW_stop 58 aboutL (p ++ tailL 35 f) (by decide)
  have hgt : ∀ x ∈ aboutL ++ 58 :: (p ++ tailL 35 f), 32 < x.toNat := by
    intro x hx
    rcases List.mem_append.1 hx with hx | hx
    · exact about_gt x hx
    · rcases List.mem_cons.1 hx with rfl | hx
      · decide
      · rcases List.mem_append.1 hx with hx | hx
        · exact okC_ascii [45] (by decide) x (List.all_eq_true.1 s.pok x hx)
        · rcases mem_tail 35 f x hx with rfl | hx
          · decide
          · exact ok_gt x (s.fmem x hx)
  have n35 : (35 : UInt8) ∉ p := okC_ne _ 35 (by decide) p (all_mem s.pok) (by decide)
  have q := pre_tail 35 _ f n35
  have hsc : schemeOk (aboutL ++ 58 :: (p ++ tailL 35 f)) = true := by
    unfold schemeOk
    rw [h1.1]
    have h2 : (aboutL ++ 58 :: (p ++ tailL 35 f)).contains 58 = true := by simp
    rw [h2]; rfl
  unfold parseL
  rw [trim_id _ hgt, if_pos hsc, h1.1, h1.2]
  unfold restL
  rw [if_pos (show lowL aboutL = aboutL from by decide)]
  simp only [q.1, q.2, s.ffix, if_pos s.pok]
  rfl
/-- what parseL gives -/
theorem parse_cases {s : List UInt8} {u : U6} (h : parseL s = some u) : (∃ p f, u = (aboutL, [], [], p, [], f) ∧ About p f) ∨ (∃ n a b c d f, u = (n, a, b, c, d, f) ∧ Site n a b c d f) := by
  unfold parseL at h
  split at h
  · unfold restL at h
    simp only at h
    split at h
    · next ha =>
      split at h
      · next hp =>
        cases h
        exact .inl ⟨_, _, by rw [ha], hp, conv_idem _ _, conv_mem _ _ _⟩
      · cases h
    · obtain ⟨a, b, c, d, h1, h2⟩ := site_of (conv_idem _ _).symm (conv_mem _ _ _) h
      exact .inr ⟨_, a, b, c, d, _, h1, h2⟩
  · cases h
/-- the text of a parsed address is parsed to it again -/
theorem parse_format {s : List UInt8} {u : U6} (h : parseL s = some u) : parseL (formatL u) = some u := by
  rcases parse_cases h with ⟨p, f, rfl, ha⟩ | ⟨n, a, b, c, d, f, rfl, hs⟩
  · exact about_parse ha
  · exact site_parse hs
end Go.Proofs.YtkobhknggamejaaDoor

/- Valid (both packages): an address is its own parsed text. -/
namespace Go.Proofs.YtkobhknggamejaaDoor
set_option linter.unusedVariables false
set_option linter.unusedSimpArgs false
open Go.RowKit

def eqU (u v : U6) : Bool := u.1 == v.1 && u.2.1 == v.2.1 && u.2.2.1 == v.2.2.1 && u.2.2.2.1 == v.2.2.2.1 && u.2.2.2.2.1 == v.2.2.2.2.1 && u.2.2.2.2.2 == v.2.2.2.2.2
theorem eqU_iff (u v : U6) : eqU u v = true ↔ u = v := by
  obtain ⟨a, b, c, d, e, f⟩ := u
  obtain ⟨a', b', c', d', e', f'⟩ := v
  simp only [eqU, Bool.and_eq_true, beq_iff_eq, Prod.mk.injEq]
  constructor
  · rintro ⟨⟨⟨⟨⟨h1, h2⟩, h3⟩, h4⟩, h5⟩, h6⟩; exact ⟨h1, h2, h3, h4, h5, h6⟩
  · rintro ⟨h1, h2, h3, h4, h5, h6⟩; exact ⟨⟨⟨⟨⟨h1, h2⟩, h3⟩, h4⟩, h5⟩, h6⟩
/-- parsed from its own text -/
def validB (u : U6) : Bool := match parseL (formatL u) with
  | none => false
  | some v => eqU v u
theorem validB_is (u : U6) : validB u = match parseL (formatL u) with
  | none => false
  | some v => eqU v u := rfl
theorem valid_iff (u : U6) : validB u = true ↔ parseL (formatL u) = some u := by
  unfold validB
  cases parseL (formatL u) with
  | none => simp
  | some v => simp [eqU_iff]
theorem format_len (a b c d e f : ByteArray) : (formatL (a.data.toList, b.data.toList, c.data.toList, d.data.toList, e.data.toList, f.data.toList)).length ≤ a.size + b.size + c.size + d.size + e.size + f.size + 20 := by
  have h := site_len a b c d e f
  have ht : ∀ (x : UInt8) (s : ByteArray), (tailL x s.data.toList).length ≤ s.size + 1 := fun x s => by unfold tailL; split <;> simp
  have h1 := ht 63 e
  have h2 := ht 35 f
  unfold formatL
  rw [List.length_append]
  split
  · next h0 =>
    have h0' : a.data.toList = aboutL := h0
    have : a.size = 5 := by rw [← size_len, h0']; rfl
    simp only [List.length_append, List.length_cons, List.length_nil, size_len]; omega
  · simp only [List.length_append, size_len]; omega
end Go.Proofs.YtkobhknggamejaaDoor

/- The walk of the reference's Parse: blocks of six strings; the texts that denote nothing, or an about address. -/
namespace Go.Proofs.YtkobhknggamejaaDoor
set_option linter.unusedVariables false
set_option linter.unusedSimpArgs false
open Go.RowKit

/-- six strings that may be written -/
def At6 (W : World) (k : Nat) (a b c d e f : Value) : Prop :=
  k < W.heap.size ∧ W.cell? ⟨k, 0, none⟩ = some a ∧ W.cell? ⟨k, 1, none⟩ = some b ∧ W.cell? ⟨k, 2, none⟩ = some c ∧ W.cell? ⟨k, 3, none⟩ = some d ∧ W.cell? ⟨k, 4, none⟩ = some e ∧ W.cell? ⟨k, 5, none⟩ = some f
  ∧ W.frozen? ⟨k, 0, none⟩ = false ∧ W.frozen? ⟨k, 1, none⟩ = false ∧ W.frozen? ⟨k, 2, none⟩ = false ∧ W.frozen? ⟨k, 3, none⟩ = false ∧ W.frozen? ⟨k, 4, none⟩ = false ∧ W.frozen? ⟨k, 5, none⟩ = false
theorem At6.below {W W' : World} {k n : Nat} {a b c d e f : Value} (h : At6 W k a b c d e f) (hb : Below n W W') (hk : k < n) : At6 W' k a b c d e f := by
  obtain ⟨h0, c0, c1, c2, c3, c4, c5, f0, f1, f2, f3, f4, f5⟩ := h
  have hc : ∀ j, W'.cell? ⟨k, j, none⟩ = W.cell? ⟨k, j, none⟩ := fun j => hb.cell (p := ⟨k, j, none⟩) hk
  have hf : ∀ j, W'.frozen? ⟨k, j, none⟩ = W.frozen? ⟨k, j, none⟩ := fun j => hb.frozen (p := ⟨k, j, none⟩) hk
  exact ⟨Nat.lt_of_lt_of_le h0 hb.size, (hc 0).trans c0, (hc 1).trans c1, (hc 2).trans c2, (hc 3).trans c3, (hc 4).trans c4, (hc 5).trans c5, (hf 0).trans f0, (hf 1).trans f1, (hf 2).trans f2, (hf 3).trans f3, (hf 4).trans f4, (hf 5).trans f5⟩
theorem frozen_set (W : World) (p q : Addr) (v : Value) (h : W.frozen? q = false) : (W.setCell p v).frozen? q = false := by simpa using h
theorem At6.set {W : World} {k : Nat} {a b c d e f : Value} (h : At6 W k a b c d e f) (p : Addr) (v : Value) (hp : p.block ≠ k) : At6 (W.setCell p v) k a b c d e f := by
  obtain ⟨h0, c0, c1, c2, c3, c4, c5, f0, f1, f2, f3, f4, f5⟩ := h
  have hc : ∀ j, (W.setCell p v).cell? ⟨k, j, none⟩ = W.cell? ⟨k, j, none⟩ := fun j => World.cell?_setCell_other W _ _ v (fun e => hp (by rw [e]))
  exact ⟨by simpa using h0, (hc 0).trans c0, (hc 1).trans c1, (hc 2).trans c2, (hc 3).trans c3, (hc 4).trans c4, (hc 5).trans c5, frozen_set _ _ _ _ f0, frozen_set _ _ _ _ f1, frozen_set _ _ _ _ f2, frozen_set _ _ _ _ f3, frozen_set _ _ _ _ f4, frozen_set _ _ _ _ f5⟩
theorem set_far (V : World) (k i j : Nat) (v : Value) (hij : i ≠ j) : (V.setCell ⟨k, i, none⟩ v).cell? ⟨k, j, none⟩ = V.cell? ⟨k, j, none⟩ := World.cell?_setCell_other V _ _ v (fun e => hij (by cases e; rfl))
theorem At6.set1 {W : World} {k : Nat} {a b c d e f : Value} (h : At6 W k a b c d e f) (v : Value) : At6 (W.setCell ⟨k, 1, none⟩ v) k a v c d e f := by
  obtain ⟨h0, c0, c1, c2, c3, c4, c5, f0, f1, f2, f3, f4, f5⟩ := h
  refine ⟨by simpa using h0, ?_, ?_, ?_, ?_, ?_, ?_, frozen_set _ _ _ _ f0, frozen_set _ _ _ _ f1, frozen_set _ _ _ _ f2, frozen_set _ _ _ _ f3, frozen_set _ _ _ _ f4, frozen_set _ _ _ _ f5⟩
  all_goals first
    | exact World.cell?_setCell_same' W _ v (by simp [c1, c2, c3, c4, c5])
    | exact (set_far W k 1 _ v (by omega)).trans c0
    | exact (set_far W k 1 _ v (by omega)).trans c1
    | exact (set_far W k 1 _ v (by omega)).trans c2
    | exact (set_far W k 1 _ v (by omega)).trans c3
    | exact (set_far W k 1 _ v (by omega)).trans c4
    | exact (set_far W k 1 _ v (by omega)).trans c5
theorem At6.set2 {W : World} {k : Nat} {a b c d e f : Value} (h : At6 W k a b c d e f) (v : Value) : At6 (W.setCell ⟨k, 2, none⟩ v) k a b v d e f := by
  obtain ⟨h0, c0, c1, c2, c3, c4, c5, f0, f1, f2, f3, f4, f5⟩ := h
  refine ⟨by simpa using h0, ?_, ?_, ?_, ?_, ?_, ?_, frozen_set _ _ _ _ f0, frozen_set _ _ _ _ f1, frozen_set _ _ _ _ f2, frozen_set _ _ _ _ f3, frozen_set _ _ _ _ f4, frozen_set _ _ _ _ f5⟩
  all_goals first
    | exact World.cell?_setCell_same' W _ v (by simp [c1, c2, c3, c4, c5])
    | exact (set_far W k 2 _ v (by omega)).trans c0
    | exact (set_far W k 2 _ v (by omega)).trans c1
    | exact (set_far W k 2 _ v (by omega)).trans c2
    | exact (set_far W k 2 _ v (by omega)).trans c3
    | exact (set_far W k 2 _ v (by omega)).trans c4
    | exact (set_far W k 2 _ v (by omega)).trans c5
theorem At6.set3 {W : World} {k : Nat} {a b c d e f : Value} (h : At6 W k a b c d e f) (v : Value) : At6 (W.setCell ⟨k, 3, none⟩ v) k a b c v e f := by
  obtain ⟨h0, c0, c1, c2, c3, c4, c5, f0, f1, f2, f3, f4, f5⟩ := h
  refine ⟨by simpa using h0, ?_, ?_, ?_, ?_, ?_, ?_, frozen_set _ _ _ _ f0, frozen_set _ _ _ _ f1, frozen_set _ _ _ _ f2, frozen_set _ _ _ _ f3, frozen_set _ _ _ _ f4, frozen_set _ _ _ _ f5⟩
  all_goals first
    | exact World.cell?_setCell_same' W _ v (by simp [c1, c2, c3, c4, c5])
    | exact (set_far W k 3 _ v (by omega)).trans c0
    | exact (set_far W k 3 _ v (by omega)).trans c1
    | exact (set_far W k 3 _ v (by omega)).trans c2
    | exact (set_far W k 3 _ v (by omega)).trans c3
    | exact (set_far W k 3 _ v (by omega)).trans c4
    | exact (set_far W k 3 _ v (by omega)).trans c5
theorem At6.set4 {W : World} {k : Nat} {a b c d e f : Value} (h : At6 W k a b c d e f) (v : Value) : At6 (W.setCell ⟨k, 4, none⟩ v) k a b c d v f := by
  obtain ⟨h0, c0, c1, c2, c3, c4, c5, f0, f1, f2, f3, f4, f5⟩ := h
  refine ⟨by simpa using h0, ?_, ?_, ?_, ?_, ?_, ?_, frozen_set _ _ _ _ f0, frozen_set _ _ _ _ f1, frozen_set _ _ _ _ f2, frozen_set _ _ _ _ f3, frozen_set _ _ _ _ f4, frozen_set _ _ _ _ f5⟩
  all_goals first
    | exact World.cell?_setCell_same' W _ v (by simp [c1, c2, c3, c4, c5])
    | exact (set_far W k 4 _ v (by omega)).trans c0
    | exact (set_far W k 4 _ v (by omega)).trans c1
    | exact (set_far W k 4 _ v (by omega)).trans c2
    | exact (set_far W k 4 _ v (by omega)).trans c3
    | exact (set_far W k 4 _ v (by omega)).trans c4
    | exact (set_far W k 4 _ v (by omega)).trans c5
theorem At6.set5 {W : World} {k : Nat} {a b c d e f : Value} (h : At6 W k a b c d e f) (v : Value) : At6 (W.setCell ⟨k, 5, none⟩ v) k a b c d e v := by
  obtain ⟨h0, c0, c1, c2, c3, c4, c5, f0, f1, f2, f3, f4, f5⟩ := h
  refine ⟨by simpa using h0, ?_, ?_, ?_, ?_, ?_, ?_, frozen_set _ _ _ _ f0, frozen_set _ _ _ _ f1, frozen_set _ _ _ _ f2, frozen_set _ _ _ _ f3, frozen_set _ _ _ _ f4, frozen_set _ _ _ _ f5⟩
  all_goals first
    | exact World.cell?_setCell_same' W _ v (by simp [c1, c2, c3, c4, c5])
    | exact (set_far W k 5 _ v (by omega)).trans c0
    | exact (set_far W k 5 _ v (by omega)).trans c1
    | exact (set_far W k 5 _ v (by omega)).trans c2
    | exact (set_far W k 5 _ v (by omega)).trans c3
    | exact (set_far W k 5 _ v (by omega)).trans c4
    | exact (set_far W k 5 _ v (by omega)).trans c5
theorem At6.new (w : World) (a b c d e f : Value) (T : Nat) : At6 (w.alloc (.cells #[a, b, c, d, e, f] T)) w.heap.size a b c d e f := by
  have hc : ∀ j v, [a, b, c, d, e, f][j]? = some v → (w.alloc (.cells #[a, b, c, d, e, f] T)).cell? ⟨w.heap.size, j, none⟩ = some v := fun j v hj => by
    have := cells_new w [a, b, c, d, e, f] T j v hj
    have hadd : (⟨w.heap.size, 0, none⟩ : Addr).add j = ⟨w.heap.size, j, none⟩ := by unfold Addr.add; split <;> simp_all
    rw [hadd] at this
    exact this
  have hh : (w.alloc (.cells #[a, b, c, d, e, f] T)).heap[w.heap.size]? = some (.cells #[a, b, c, d, e, f] T) := by unfold World.alloc; simp
  have hf : ∀ j, (w.alloc (.cells #[a, b, c, d, e, f] T)).frozen? ⟨w.heap.size, j, none⟩ = false := fun j => by
    unfold World.frozen?
    rw [hh]
    simp
  exact ⟨by simp, hc 0 _ rfl, hc 1 _ rfl, hc 2 _ rfl, hc 3 _ rfl, hc 4 _ rfl, hc 5 _ rfl, hf 0, hf 1, hf 2, hf 3, hf 4, hf 5⟩
theorem At6.blank {W : World} {k : Nat} {a b c d e f : Value} (h : At6 W k a b c d e f) : Blank W k := by
  obtain ⟨h0, c0, c1, c2, c3, c4, c5, -⟩ := h
  intro j hj
  match j, hj with
  | 0, _ => rw [c0]; rfl
  | 1, _ => rw [c1]; rfl
  | 2, _ => rw [c2]; rfl
  | 3, _ => rw [c3]; rfl
  | 4, _ => rw [c4]; rfl
  | 5, _ => rw [c5]; rfl
theorem At6.alloc {W : World} {k : Nat} {a b c d e f : Value} (h : At6 W k a b c d e f) (o : Obj) : At6 (W.alloc o) k a b c d e f := h.below ((Below.refl _ W).alloc (Nat.le_refl _) o) h.1
abbrev E0 : Value := .string ⟨#[]⟩
theorem start2 (w : World) (T : Nat) : At6 ((w.alloc (.cells #[E0, E0, E0, E0, E0, E0] T)).alloc (.cells #[E0, E0, E0, E0, E0, E0] T)) w.heap.size E0 E0 E0 E0 E0 E0 ∧ At6 ((w.alloc (.cells #[E0, E0, E0, E0, E0, E0] T)).alloc (.cells #[E0, E0, E0, E0, E0, E0] T)) (w.heap.size + 1) E0 E0 E0 E0 E0 E0 := by
  refine ⟨(At6.new w E0 E0 E0 E0 E0 E0 T).alloc _, ?_⟩
  have := At6.new (w.alloc (.cells #[E0, E0, E0, E0, E0, E0] T)) E0 E0 E0 E0 E0 E0 T
  rwa [show (w.alloc (.cells #[E0, E0, E0, E0, E0, E0] T)).heap.size = w.heap.size + 1 by simp] at this
/-- an address and whether there is one -/
def resB (o : Option U6) : Value := .tuple #[urlV (o.getD noneU), .bool o.isSome]
theorem resB_none {R : Option U6} (h : R = none) : Ending.returned (.tuple #[.agg #[.string ⟨#[]⟩, .string ⟨#[]⟩, .string ⟨#[]⟩, .string ⟨#[]⟩, .string ⟨#[]⟩, .string ⟨#[]⟩], .bool false]) = .returned (resB R) := by subst h; rfl
theorem resB_some {R : Option U6} {u : U6} (h : R = some u) {a b c d e f : ByteArray} (ha : a.data.toList = u.1) (hb : b.data.toList = u.2.1) (hc : c.data.toList = u.2.2.1) (hd : d.data.toList = u.2.2.2.1) (he : e.data.toList = u.2.2.2.2.1) (hf : f.data.toList = u.2.2.2.2.2) :
    Ending.returned (.tuple #[.agg #[.string a, .string b, .string c, .string d, .string e, .string f], .bool true]) = .returned (resB R) := by
  subst h; rw [urlV_of ha hb hc hd he hf]; rfl
theorem post_drop (c : UInt8) (l : List UInt8) : l.drop ((pre c l).length + 1) = post c l := by
  by_cases h : c ∈ l
  · have := pre_post c l h
    calc l.drop ((pre c l).length + 1) = (pre c l ++ c :: post c l).drop ((pre c l).length + 1) := congrArg (List.drop _) this
      _ = post c l := by simp [List.drop_append]
  · rw [pre_all c l h, post_none c l h]
    exact List.drop_eq_nil_of_le (by omega)
end Go.Proofs.YtkobhknggamejaaDoor

/- The walk of the reference's Parse. -/
namespace Go.Proofs.YtkobhknggamejaaDoor
set_option linter.unusedVariables false
set_option linter.unusedSimpArgs false
open Go.RowKit

theorem okC_one (c b : UInt8) : okC [c] b = (letterI (b.toNat : Int) || digitI (b.toNat : Int) || ((b.toNat : Int) == (c.toNat : Int))) := by
  have : [c].contains b = ((b.toNat : Int) == (c.toNat : Int)) := by
    by_cases h : b = c
    · subst h; simp
    · have h1 : [c].contains b = false := by simp [h]
      have h2 : ((b.toNat : Int) == (c.toNat : Int)) = false := by
        rw [beq_eq_false_iff_ne]; exact fun e => h (UInt8.toNat_inj.1 (by omega))
      rw [h1, h2]
  unfold okC letterB digitB
  rw [this]
end Go.Proofs.YtkobhknggamejaaDoor

/- The walk of the reference's Parse: texts that denote nothing. -/
namespace Go.Proofs.YtkobhknggamejaaDoor
set_option linter.unusedVariables false
set_option linter.unusedSimpArgs false
open Go.RowKit

end Go.Proofs.YtkobhknggamejaaDoor

/- The walk of the reference's Parse, the address of a site. -/
namespace Go.Proofs.YtkobhknggamejaaDoor
set_option linter.unusedVariables false
set_option linter.unusedSimpArgs false
open Go.RowKit

def CA_own (N : List UInt8) : Prop := (if N = httpsL then [52, 52, 51] else [56, 48]) = ([56, 48] : List UInt8)
def CB_own (N : List UInt8) : Prop := (if N = httpsL then [52, 52, 51] else [56, 48]) = ([52, 52, 51] : List UInt8)
theorem len_case (n : Nat) : (1 ≤ n ∧ n ≤ 253) ∨ n < 1 ∨ 253 < n := by omega
theorem At6.out {W : World} {k : Nat} {a b c d e f : Value} (h : At6 W k a b c d e f) : k < W.heap.size ∧ W.cell? ⟨k, 0, none⟩ = some a ∧ W.cell? ⟨k, 1, none⟩ = some b ∧ W.cell? ⟨k, 2, none⟩ = some c ∧ W.cell? ⟨k, 3, none⟩ = some d ∧ W.cell? ⟨k, 4, none⟩ = some e ∧ W.cell? ⟨k, 5, none⟩ = some f
  ∧ W.frozen? ⟨k, 0, none⟩ = false ∧ W.frozen? ⟨k, 1, none⟩ = false ∧ W.frozen? ⟨k, 2, none⟩ = false ∧ W.frozen? ⟨k, 3, none⟩ = false ∧ W.frozen? ⟨k, 4, none⟩ = false ∧ W.frozen? ⟨k, 5, none⟩ = false := h
end Go.Proofs.YtkobhknggamejaaDoor

/- The walk of the reference's Parse, the address of a site by https; the whole. -/
namespace Go.Proofs.YtkobhknggamejaaDoor
set_option linter.unusedVariables false
set_option linter.unusedSimpArgs false
open Go.RowKit

end Go.Proofs.YtkobhknggamejaaDoor

/- The reference's Valid. -/
namespace Go.Proofs.YtkobhknggamejaaDoor
set_option linter.unusedVariables false
set_option linter.unusedSimpArgs false
open Go.RowKit

end Go.Proofs.YtkobhknggamejaaDoor

/- Cookies: whether an address has cookies. -/
namespace Go.Proofs.YtkobhknggamejaaDoor
set_option linter.unusedVariables false
set_option linter.unusedSimpArgs false
open Go.RowKit

theorem brl {B : Nat} {w0 w1 : World} (hb : Below B w0 w1) : ∀ b o, b < B → w1.cell? ⟨b, o, none⟩ = w0.cell? ⟨b, o, none⟩ := fun b o h => hb.cell (p := ⟨b, o, none⟩) h
/-- an address has cookies -/
def takesB (u : U6) : Bool := validB u && !(u.1 == aboutL)
abbrev urlA (a b c d e f : ByteArray) : Value := .agg #[.string a, .string b, .string c, .string d, .string e, .string f]
abbrev urlL (a b c d e f : ByteArray) : List Value := [.string a, .string b, .string c, .string d, .string e, .string f]
abbrev u6 (a b c d e f : ByteArray) : U6 := (a.data.toList, b.data.toList, c.data.toList, d.data.toList, e.data.toList, f.data.toList)
structure USize (n : Nat) (a b c d e f : ByteArray) : Prop where
  a : a.size ≤ n
  b : b.size ≤ n
  c : c.size ≤ n
  d : d.size ≤ n
  e : e.size ≤ n
  f : f.size ≤ n
theorem neq_about (a : ByteArray) : (a.toList != aboutL) = !(a.data.toList == aboutL) := by rw [ByteArray.toList_eq]; rfl
end Go.Proofs.YtkobhknggamejaaDoor

/- Cookies: storing into a jar: a new cookie; one that has expired and is not there. -/
namespace Go.Proofs.YtkobhknggamejaaDoor
set_option linter.unusedVariables false
set_option linter.unusedSimpArgs false
open Go.RowKit

theorem AtL.grown {w w' : World} {k : Nat} {vs : List Value} {row : Option Nat} (h : AtL w k vs) (hg : w.grownBy w' row) (hr : row ≠ some k) : AtL w' k vs := by
  have hh := hg.block k h.1 (fun e => hr e.symm)
  exact ⟨Nat.lt_of_lt_of_le h.1 hg.size, fun j v hv => ⟨(World.cell?_of_block (w := w) hh).trans (h.c j hv), (World.frozen?_of_block (w := w) hh).trans (h.f j hv)⟩⟩
theorem atL_drewk {w wA : World} {vs : List Value} (h : AtL w wA.drew.heap.size vs) : AtL w wA.heap.size vs := h
theorem own_fresh {w : World} {b e s n : Nat} {v : Value} {xs : List Value} (h : w.ownsRow b e s v n xs) : v.ownBlock ≠ some w.heap.size := by
  rcases h.2 with ⟨rfl, _⟩ | ⟨g, cap, cur, rfl, hg, hh, _⟩
  · simp [Value.ownBlock]
  · intro e
    simp only [Value.ownBlock, Option.some.injEq] at e
    have := (Array.getElem?_eq_some_iff.1 hh).1
    omega
theorem own_eq {w : World} {b e s n n' : Nat} {v : Value} {xs xs' : List Value} (h : w.ownsRow b e s v n xs) (hn : n = n') (hx : xs = xs') : w.ownsRow b e s v n' xs' := by subst hn hx; exact h
/-- a jar's slice and a cookie's nine cells, as a drawn region asks for them -/
def S10 (jb K : Nat) (v : Value) (c : Ck) (wa w' : World) : Prop := w'.cell? ⟨jb, 0, none⟩ = some v ∧ w'.cell? ⟨K, 0, none⟩ = some (.string c.n) ∧ w'.cell? ⟨K, 1, none⟩ = some (.string c.v) ∧ w'.cell? ⟨K, 2, none⟩ = some (.string c.d) ∧ w'.cell? ⟨K, 3, none⟩ = some (.string c.p) ∧ w'.cell? ⟨K, 4, none⟩ = some (.bool c.ho) ∧ w'.cell? ⟨K, 5, none⟩ = some (.bool c.se) ∧ w'.cell? ⟨K, 6, none⟩ = some (.bool c.hi) ∧ w'.cell? ⟨K, 7, none⟩ = some (.int .i64 c.ex) ∧ w'.cell? ⟨K, 8, none⟩ = some (.int .i64 c.cr) ∧ Below wa.heap.size wa w'
theorem s10_start {jb K : Nat} {v nx : Value} {c : Ck} {wa : World} (hj : AtL wa jb [v, nx]) (hk : AtL wa K (ckL c)) : S10 jb K v c wa wa :=
  ⟨hj.c 0 rfl, hk.c 0 rfl, hk.c 1 rfl, hk.c 2 rfl, hk.c 3 rfl, hk.c 4 rfl, hk.c 5 rfl, hk.c 6 rfl, hk.c 7 rfl, hk.c 8 rfl, Below.refl _ _⟩
theorem s10_next {jb K : Nat} {v : Value} {c : Ck} {wa wX w3 : World} (hj : jb < wa.heap.size) (hk : K < wa.heap.size) (h : S10 jb K v c wa wX) (h3 : Below wX.heap.size wX w3) : S10 jb K v c wa w3 := by
  obtain ⟨a0, a1, a2, a3, a4, a5, a6, a7, a8, a9, hb⟩ := h
  have h1 := Nat.lt_of_lt_of_le hj hb.size
  have h2 := Nat.lt_of_lt_of_le hk hb.size
  have r := brl h3
  exact ⟨(r jb 0 h1).trans a0, (r K 0 h2).trans a1, (r K 1 h2).trans a2, (r K 2 h2).trans a3, (r K 3 h2).trans a4, (r K 4 h2).trans a5, (r K 5 h2).trans a6, (r K 6 h2).trans a7, (r K 7 h2).trans a8, (r K 8 h2).trans a9, hb.trans (h3.mono hb.size)⟩
theorem s10_below {jb K : Nat} {v : Value} {c : Ck} {wa wX : World} (h : S10 jb K v c wa wX) : Below wa.heap.size wa wX := h.2.2.2.2.2.2.2.2.2.2
theorem grownBy_of_drew {w w' : World} {row : Option Nat} (h : w.drew.grownBy w' row) : w.grownBy w' row := ⟨h.os, h.tape, h.output, h.size, h.block⟩
/-- an append of freshly built elements, as a step of a drawn region: where the new row lies -/
theorem step_app {P : Program} {T E size bytes : Nat} (ty : SlTy P T E size bytes) (W0 : World) {ops : Array Oper} {o : Oper} {a : Act} {K : Act → World → Prop} {Q : Exit → Act → World → Prop} {Ep : Prop}
    (hgd : o.guard = none) (s x : Operand) (ho : o.op = .call { callee := .builtin .append, args := #[s, x], argTypes := #[T, T] })
    (B : Nat) (v : Value) (n : Nat) (xs : List Value) (hs : a.eval s = v) (hown : W0.ownsRow B E size v n xs) (news : List Value) (m : Nat)
    (kk : Nat) (hx : a.eval x = .slice (some ⟨kk, 0, none⟩) m m) (hkk : kk = W0.heap.size) (hl : news.length = m * size) (h1 : ∀ u ∈ news, u.oneCell' = true)
    (hm : 0 < m) (hb : (n + m) * bytes ≤ 140737488355328) (hn : n + m ≤ 140737488355328) (hB : B ≤ W0.heap.size)
    (h : ∀ g cap w', w'.ownsRow B E size (.slice (some ⟨g, 0, none⟩) (n + m) cap) (n + m) (xs ++ news) → W0.grownBy w' v.ownBlock → (v.ownBlock = some g ∨ g = W0.heap.size + 1) → g < w'.heap.size → K (a.put o.dst (.slice (some ⟨g, 0, none⟩) (n + m) cap)) w') :
    if Region.wanted o (yielded ops a.tmps) = true then Oper.wp P o a (W0.alloc (.cells news.toArray E)).drew K Q else Ep := by
  subst hkk
  obtain ⟨hu, ⟨i, z, hi, hz, h2, h3, h4⟩, hp⟩ := ty
  exact step_append_lies _ hgd s x T ho B E i z size bytes hu hi hz h2 h3 h4 hp v n xs hs (hown.alloc _).drew ⟨W0.heap.size, 0, none⟩ m m news hx hl (fun j u hu => cells_new W0 news E j u hu) h1 hm (by unfold maxLen; omega) hb (by simp; omega) (W0.heap.size + 1) (by simp)
    fun g cap w' a1 a2 a3 a4 => h g cap w' a1 (grownBy_trans_alloc (grownBy_of_drew a2)) a3 a4
theorem one9 (c : Ck) : ∀ u ∈ ckL c, u.oneCell' = true := by
  intro u hu
  simp at hu
  rcases hu with rfl | rfl | rfl | rfl | rfl | rfl | rfl | rfl | rfl <;> rfl
/-- the same cells without a world to come from: what stays of them behind an append -/
def S2 (jb K : Nat) (v : Value) (c : Ck) (w' : World) : Prop := w'.cell? ⟨jb, 0, none⟩ = some v ∧ w'.cell? ⟨K, 0, none⟩ = some (.string c.n) ∧ w'.cell? ⟨K, 1, none⟩ = some (.string c.v) ∧ w'.cell? ⟨K, 2, none⟩ = some (.string c.d) ∧ w'.cell? ⟨K, 3, none⟩ = some (.string c.p) ∧ w'.cell? ⟨K, 4, none⟩ = some (.bool c.ho) ∧ w'.cell? ⟨K, 5, none⟩ = some (.bool c.se) ∧ w'.cell? ⟨K, 6, none⟩ = some (.bool c.hi) ∧ w'.cell? ⟨K, 7, none⟩ = some (.int .i64 c.ex) ∧ w'.cell? ⟨K, 8, none⟩ = some (.int .i64 c.cr)
theorem s2_start {jb K : Nat} {v nx : Value} {c : Ck} {wa : World} (hj : AtL wa jb [v, nx]) (hk : AtL wa K (ckL c)) : S2 jb K v c wa :=
  ⟨hj.c 0 rfl, hk.c 0 rfl, hk.c 1 rfl, hk.c 2 rfl, hk.c 3 rfl, hk.c 4 rfl, hk.c 5 rfl, hk.c 6 rfl, hk.c 7 rfl, hk.c 8 rfl⟩
theorem s2_of {jb K : Nat} {v : Value} {c : Ck} {w w' : World} (h : S2 jb K v c w) (r : ∀ b o u, b = jb ∨ b = K → w.cell? ⟨b, o, none⟩ = some u → w'.cell? ⟨b, o, none⟩ = some u) : S2 jb K v c w' := by
  obtain ⟨a0, a1, a2, a3, a4, a5, a6, a7, a8, a9⟩ := h
  exact ⟨r _ _ _ (.inl rfl) a0, r _ _ _ (.inr rfl) a1, r _ _ _ (.inr rfl) a2, r _ _ _ (.inr rfl) a3, r _ _ _ (.inr rfl) a4, r _ _ _ (.inr rfl) a5, r _ _ _ (.inr rfl) a6, r _ _ _ (.inr rfl) a7, r _ _ _ (.inr rfl) a8, r _ _ _ (.inr rfl) a9⟩
theorem s2_alloc {jb K : Nat} {v : Value} {c : Ck} {w : World} (o : Obj) (h : S2 jb K v c w) : S2 jb K v c (w.alloc o) := s2_of h fun b o' u _ hu => (brl ((Below.refl _ w).alloc (Nat.le_refl _) o) b o' (cell_lt hu)).trans hu
theorem s2_drew {jb K : Nat} {v : Value} {c : Ck} {w : World} (h : S2 jb K v c w) : S2 jb K v c w.drew := h
theorem s2_adrew {jb K : Nat} {v : Value} {c : Ck} {w : World} (o : Obj) (h : S2 jb K v c w.drew) : S2 jb K v c (w.alloc o).drew := s2_drew (s2_alloc o h)
theorem s2_grown {jb K : Nat} {v : Value} {c : Ck} {w w' : World} {row : Option Nat} (h : S2 jb K v c w) (hg : w.grownBy w' row) (h1 : row ≠ some jb) (h2 : row ≠ some K) : S2 jb K v c w' :=
  s2_of h fun b o u hb hu => (World.cell?_of_block (w := w) (a := ⟨b, o, none⟩) (hg.block b (cell_lt hu) (by rintro e; rcases hb with rfl | rfl; exact h1 e.symm; exact h2 e.symm))).trans hu
/-- of the blocks that lay there, all but one and a row's own are as they were -/
structure RowBut (n jb : Nat) (o : Option Nat) (w w' : World) : Prop where
  os : w'.os = w.os
  tape : w'.tape = w.tape
  output : w'.output = w.output
  size : w.heap.size ≤ w'.heap.size
  block : ∀ k, k < n → k ≠ jb → o ≠ some k → w'.heap[k]? = w.heap[k]?
theorem RowBut.refl (n jb : Nat) (o : Option Nat) (w : World) : RowBut n jb o w w := ⟨rfl, rfl, rfl, Nat.le_refl _, fun _ _ _ _ => rfl⟩
theorem RowBut.below {n jb B' : Nat} {o : Option Nat} {W w w' : World} (h : RowBut n jb o W w) (k : Below B' w w') (hB : n ≤ B') : RowBut n jb o W w' :=
  ⟨k.os.trans h.os, k.tape.trans h.tape, k.output.trans h.output, Nat.le_trans h.size k.size, fun i hi hb ho => (k.block i (by omega)).trans (h.block i hi hb ho)⟩
theorem RowBut.setCell {n jb : Nat} {o : Option Nat} {W w : World} (h : RowBut n jb o W w) (p : Addr) (hp : p.block = jb ∨ o = some p.block ∨ n ≤ p.block) (u : Value) : RowBut n jb o W (w.setCell p u) :=
  ⟨h.os, h.tape, h.output, by simp [World.setCell]; exact h.size, fun k hk hb ho => by
    have hne : k ≠ p.block := by
      rcases hp with hp | hp | hp
      · omega
      · exact fun e => ho (by rw [hp, e])
      · omega
    exact (Below.heap_setCell w p u k hne).trans (h.block k hk hb ho)⟩
theorem RowBut.grown {n jb : Nat} {o : Option Nat} {W w w' : World} (h : RowBut n jb o W w) (hg : w.grownBy w' o) (hn : n ≤ w.heap.size) : RowBut n jb o W w' :=
  ⟨hg.os.trans h.os, hg.tape.trans h.tape, hg.output.trans h.output, Nat.le_trans h.size hg.size, fun k hk hb ho => (hg.block k (by omega) (fun e => ho e.symm)).trans (h.block k hk hb ho)⟩
theorem RowBut.mono {n n' jb : Nat} {o : Option Nat} {w w' : World} (h : RowBut n jb o w w') (hn : n' ≤ n) : RowBut n' jb o w w' := ⟨h.os, h.tape, h.output, h.size, fun k hk => h.block k (by omega)⟩
theorem RowBut.trans {n jb : Nat} {o : Option Nat} {W w w' : World} (h : RowBut n jb o W w) (k : RowBut n jb o w w') : RowBut n jb o W w' := ⟨k.os.trans h.os, k.tape.trans h.tape, k.output.trans h.output, Nat.le_trans h.size k.size, fun x hx hb ho => (k.block x hx hb ho).trans (h.block x hx hb ho)⟩
theorem own_base {w : World} {b e s n g : Nat} {v : Value} {xs : List Value} (h : w.ownsRow b e s v n xs) (ho : v.ownBlock = some g) : b ≤ g := by
  rcases h.2 with ⟨rfl, _⟩ | ⟨g', cap, cur, rfl, hg, _⟩
  · simp [Value.ownBlock] at ho
  · simp only [Value.ownBlock, Option.some.injEq] at ho
    omega
/-- the same, said below the jar's memory -/
theorem RowBut.but {n jb B e s m : Nat} {w w' W : World} {v : Value} {xs : List Value} (h : RowBut n jb v.ownBlock w w') (ho : W.ownsRow B e s v m xs) (hn : B ≤ n) : BelowBut B jb w w' :=
  ⟨h.os, h.tape, h.output, h.size, fun k hk hb => h.block k (by omega) hb (fun e => by have := own_base ho e; omega)⟩
end Go.Proofs.YtkobhknggamejaaDoor

/- Cookies: the walk of cookie.Parse. -/
namespace Go.Proofs.YtkobhknggamejaaDoor
set_option linter.unusedVariables false
set_option linter.unusedSimpArgs false
open Go.RowKit

theorem trimC_nil_bs (l : List UInt8) : (bs (trimC l)).toList.isEmpty = decide (trimC l = []) := by
  rw [ByteArray.toList_eq, bs_list]
  cases trimC l with
  | nil => rfl
  | cons b r => simp
theorem split_is (c : UInt8) (s : ByteArray) (hs : s.size ≤ 1000000) : ∃ l : List ByteArray, lists l = segs c s.data.toList ∧ ∀ w, MaxAt w → Calls Tryd.prog 36 #[.string s, .string ⟨#[c]⟩] w fun e w' => e = .returned (.slice (some ⟨w.heap.size, 0, none⟩) l.length l.length) ∧ w' = w.alloc (.cells (l.map Value.string).toArray 9) := by
  refine ⟨Lib.splitB ⟨#[c]⟩ 0 (Lib.countB s ⟨#[c]⟩) s, split_segs c _ s rfl, fun w hM => ?_⟩
  obtain ⟨m, hm⟩ := hM
  have cS := Tryd.strings_Split s ⟨#[c]⟩ m w (by omega) hm (by show 1 ≤ 1; omega)
  have hsl := Lib.splitB_all ⟨#[c]⟩ (Nat.le_refl 1) 0 (Lib.countB s ⟨#[c]⟩) s rfl
  rw [← hsl] at cS
  exact cS
/-- which attribute a name is -/
theorem kind_cases (L : ByteArray) :
    ((L.toList == maxageL) = true ∧ L.data.toList = maxageL) ∨ ((L.toList == maxageL) = false ∧ (L.toList == domainL) = true ∧ L.data.toList = domainL) ∨
    ((L.toList == maxageL) = false ∧ (L.toList == domainL) = false ∧ (L.toList == pathwL) = true ∧ L.data.toList = pathwL) ∨
    ((L.toList == maxageL) = false ∧ (L.toList == domainL) = false ∧ (L.toList == pathwL) = false ∧ (L.toList == secureL) = true ∧ L.data.toList = secureL) ∨
    ((L.toList == maxageL) = false ∧ (L.toList == domainL) = false ∧ (L.toList == pathwL) = false ∧ (L.toList == secureL) = false ∧ (L.toList == hidL) = true ∧ L.data.toList = hidL) ∨
    ((L.toList == maxageL) = false ∧ (L.toList == domainL) = false ∧ (L.toList == pathwL) = false ∧ (L.toList == secureL) = false ∧ (L.toList == hidL) = false ∧ L.data.toList ≠ maxageL ∧ L.data.toList ≠ domainL ∧ L.data.toList ≠ pathwL ∧ L.data.toList ≠ secureL ∧ L.data.toList ≠ hidL) := by
  rw [ByteArray.toList_eq]
  by_cases h1 : L.data.toList = maxageL
  · exact .inl ⟨beq_iff_eq.2 h1, h1⟩
  · refine .inr ?_
    by_cases h2 : L.data.toList = domainL
    · exact .inl ⟨beq_eq_false_iff_ne.2 h1, beq_iff_eq.2 h2, h2⟩
    · refine .inr ?_
      by_cases h3 : L.data.toList = pathwL
      · exact .inl ⟨beq_eq_false_iff_ne.2 h1, beq_eq_false_iff_ne.2 h2, beq_iff_eq.2 h3, h3⟩
      · refine .inr ?_
        by_cases h4 : L.data.toList = secureL
        · exact .inl ⟨beq_eq_false_iff_ne.2 h1, beq_eq_false_iff_ne.2 h2, beq_eq_false_iff_ne.2 h3, beq_iff_eq.2 h4, h4⟩
        · refine .inr ?_
          by_cases h5 : L.data.toList = hidL
          · exact .inl ⟨beq_eq_false_iff_ne.2 h1, beq_eq_false_iff_ne.2 h2, beq_eq_false_iff_ne.2 h3, beq_eq_false_iff_ne.2 h4, beq_iff_eq.2 h5, h5⟩
          · exact .inr ⟨beq_eq_false_iff_ne.2 h1, beq_eq_false_iff_ne.2 h2, beq_eq_false_iff_ne.2 h3, beq_eq_false_iff_ne.2 h4, beq_eq_false_iff_ne.2 h5, h1, h2, h3, h4, h5⟩
theorem attr_max (h p : ByteArray) (now : Int) (c : Ck) (v : List UInt8) (n : Int) (hn : ageL v = some n) : attrC h p now c maxageL v = { c with ex := clockI now + n * 1000 } := by unfold attrC; rw [if_pos rfl, hn]
theorem attr_max0 (h p : ByteArray) (now : Int) (c : Ck) (v : List UInt8) (hn : ageL v = none) : attrC h p now c maxageL v = c := by unfold attrC; rw [if_pos rfl, hn]
theorem attr_dom (h p : ByteArray) (now : Int) (c : Ck) (v : List UInt8) : attrC h p now c domainL v = if lowL (undot v) = [] then { c with d := h, ho := true } else { c with d := bs (lowL (undot v)), ho := false } := by unfold attrC; rw [if_neg (by decide), if_pos rfl]
theorem attr_path (h p : ByteArray) (now : Int) (c : Ck) (v : List UInt8) : attrC h p now c pathwL v = { c with p := if Lib.hasPrefix v [47] = true then bs v else p } := by unfold attrC; rw [if_neg (by decide), if_neg (by decide), if_pos rfl]
theorem attr_sec (h p : ByteArray) (now : Int) (c : Ck) (v : List UInt8) : attrC h p now c secureL v = { c with se := true } := by unfold attrC; rw [if_neg (by decide), if_neg (by decide), if_neg (by decide), if_pos rfl]
theorem attr_hid (h p : ByteArray) (now : Int) (c : Ck) (v : List UInt8) : attrC h p now c hidL v = { c with hi := true } := by unfold attrC; rw [if_neg (by decide), if_neg (by decide), if_neg (by decide), if_neg (by decide), if_pos rfl]
theorem attr_no (h p : ByteArray) (now : Int) (c : Ck) (l v : List UInt8) (h1 : l ≠ maxageL) (h2 : l ≠ domainL) (h3 : l ≠ pathwL) (h4 : l ≠ secureL) (h5 : l ≠ hidL) : attrC h p now c l v = c := by unfold attrC; rw [if_neg h1, if_neg h2, if_neg h3, if_neg h4, if_neg h5]

theorem low_len (l : List UInt8) : (lowL l).length = l.length := by simp [lowL]
theorem undot_len (l : List UInt8) : (undot l).length ≤ l.length := by
  unfold undot; split
  · simp
  · exact Nat.le_refl _
theorem pre_len' (c : UInt8) (l : List UInt8) : (pre c l).length ≤ l.length := (List.takeWhile_sublist _).length_le
theorem post_len' (c : UInt8) (l : List UInt8) : (post c l).length ≤ l.length := by
  unfold post; rw [List.length_drop]
  have := (List.dropWhile_sublist (p := (· != c)) (l := l)).length_le
  omega
end Go.Proofs.YtkobhknggamejaaDoor

/- Cookies: the walk of cookie.Parse: the errors, and the loop. -/
namespace Go.Proofs.YtkobhknggamejaaDoor
set_option linter.unusedVariables false
set_option linter.unusedSimpArgs false
open Go.RowKit

abbrev ck0V : List Value := [.string ⟨#[]⟩, .string ⟨#[]⟩, .string ⟨#[]⟩, .string ⟨#[]⟩, .bool false, .bool false, .bool false, .int .i64 0, .int .i64 0]
theorem parseC_no (field : List UInt8) (s h p : ByteArray) (now : Int) : parseC field false s h p now = (ck0, 7) := by unfold parseC; rw [if_pos rfl]
theorem parseC_yes (field : List UInt8) (s h p : ByteArray) (now : Int) (p0 : List UInt8) (ps : List (List UInt8)) (hs : segs 59 field = p0 :: ps) :
    parseC field true s h p now = if p0.contains 61 = false ∨ trimC (pre 61 p0) = [] ∨ ctlL field = true then (ck0, 4)
      else lastC h.data.toList s.data.toList (ps.foldl (stepC h (bs (defpL p.data.toList)) now) (firstC h (bs (defpL p.data.toList)) p0)) := by
  unfold parseC; rw [if_neg (by decide), hs]
end Go.Proofs.YtkobhknggamejaaDoor

/- Cookies: the walk of cookie.Parse: a field that sets nothing. -/
namespace Go.Proofs.YtkobhknggamejaaDoor
set_option linter.unusedVariables false
set_option linter.unusedSimpArgs false
open Go.RowKit

theorem split_at (c : UInt8) (s : ByteArray) (hs : s.size ≤ 1000000) : ∃ (q0 : ByteArray) (qs : List ByteArray), lists (q0 :: qs) = segs c s.data.toList ∧ ∀ w, MaxAt w → Calls Tryd.prog 36 #[.string s, .string ⟨#[c]⟩] w fun e w' => e = .returned (.slice (some ⟨w.heap.size, 0, none⟩) (q0 :: qs).length (q0 :: qs).length) ∧ Below w.heap.size w w' ∧ w.heap.size < w'.heap.size ∧ w'.cell? ⟨w.heap.size, 0, none⟩ = some (.string q0) ∧ ∀ j (h : j < qs.length), w'.cell? ⟨w.heap.size, 1 + j, none⟩ = some (.string qs[j]) := by
  obtain ⟨l, hl, hc⟩ := split_is c s hs
  cases l with
  | nil => exact absurd hl.symm (segs_ne c _)
  | cons q0 qs =>
    refine ⟨q0, qs, hl, fun w hM => (hc w hM).mono ?_⟩
    rintro e w' ⟨rfl, rfl⟩
    have hA := AtL.new w ((q0 :: qs).map Value.string) 9
    refine ⟨rfl, (Below.refl _ w).alloc (Nat.le_refl _) _, by simp, hA.c 0 rfl, fun j hj => ?_⟩
    have := hA.c (1 + j) (v := .string qs[j]) (by rw [Nat.add_comm, List.map_cons, List.getElem?_cons_succ, List.getElem?_map, List.getElem?_eq_getElem hj]; rfl)
    exact this
theorem segs_sizes {c : UInt8} {s : ByteArray} {l : List ByteArray} (h : lists l = segs c s.data.toList) : l.length ≤ s.size + 1 ∧ ∀ p ∈ l, p.size ≤ s.size := by
  constructor
  · have h1 := segs_count c s.data.toList
    rw [← h, size_len] at h1
    simpa [lists] using h1
  · intro p hp
    have := segs_len c s.data.toList p.data.toList (by rw [← h]; exact List.mem_map_of_mem hp)
    rwa [size_len, size_len] at this
end Go.Proofs.YtkobhknggamejaaDoor

/- Cookies: the walk of cookie.Parse: a field that sets a cookie. -/
namespace Go.Proofs.YtkobhknggamejaaDoor
set_option linter.unusedVariables false
set_option linter.unusedSimpArgs false
open Go.RowKit

theorem MaxAt.keep {w w' : World} {B : Nat} (h : MaxAt w) (hb : Below B w w') (hB : 0 < B) : MaxAt w' := by
  obtain ⟨m, hm⟩ := h
  exact ⟨m, (hb.cell (p := ⟨0, 0, none⟩) hB).trans hm⟩
theorem MaxAt.lt {w : World} (h : MaxAt w) : 0 < w.heap.size := by
  obtain ⟨m, hm⟩ := h
  exact cell_lt hm
theorem bs_data (V : ByteArray) : bs V.data.toList = V := ba_ext' rfl
theorem step_is (h p : ByteArray) (now : Int) (c : Ck) (l : List UInt8) (L V : ByteArray) (hL : L.data.toList = lowL (trimC (pre 61 l))) (hV : V.data.toList = trimC (post 61 l)) : stepC h p now c l = attrC h p now c L.data.toList V.data.toList := by unfold stepC; rw [hL, hV]
theorem bne_data (a b : ByteArray) : (a.toList != b.toList) = !decide (a.data.toList = b.data.toList) := by
  rw [ByteArray.toList_eq, ByteArray.toList_eq, Bool.eq_iff_iff]
  simp
theorem bne_list (a : ByteArray) (l : List UInt8) : (a.toList != l) = !decide (a.data.toList = l) := by
  rw [ByteArray.toList_eq, Bool.eq_iff_iff]
  simp
end Go.Proofs.YtkobhknggamejaaDoor

/- Cookies: the walk of cookie.Parse, whole. -/
namespace Go.Proofs.YtkobhknggamejaaDoor
set_option linter.unusedVariables false
set_option linter.unusedSimpArgs false
open Go.RowKit

end Go.Proofs.YtkobhknggamejaaDoor

/- Cookies: storing an expired cookie that is not there; Set on an empty jar. -/
namespace Go.Proofs.YtkobhknggamejaaDoor
set_option linter.unusedVariables false
set_option linter.unusedSimpArgs false
open Go.RowKit

theorem s2_below {jb K : Nat} {v : Value} {c : Ck} {w w' : World} (h : S2 jb K v c w) (hb : Below w.heap.size w w') : S2 jb K v c w' := s2_of h fun b o u _ hu => (brl hb b o (cell_lt hu)).trans hu
theorem s2_set {jb K : Nat} {v : Value} {c : Ck} {w : World} (h : S2 jb K v c w) (hne : jb ≠ K) : S2 jb K v c (w.setCell ⟨jb, 0, none⟩ v) := s2_of h fun b o u hb hu => by
  by_cases e : (⟨jb, 0, none⟩ : Addr) = ⟨b, o, none⟩
  · have e1 : b = jb ∧ o = 0 := by injection e with e1 e2; exact ⟨e1.symm, e2.symm⟩
    obtain ⟨rfl, rfl⟩ := e1
    have : some u = some v := hu.symm.trans h.1
    injection this with this
    subst this
    exact World.cell?_setCell_same' w _ _ (by rw [hu]; rfl)
  · rw [World.cell?_setCell_other w _ _ v e]; exact hu
end Go.Proofs.YtkobhknggamejaaDoor

/- Cookies: Set. -/
namespace Go.Proofs.YtkobhknggamejaaDoor
set_option linter.unusedVariables false
set_option linter.unusedSimpArgs false
open Go.RowKit

end Go.Proofs.YtkobhknggamejaaDoor

/- Cookies: Match, by what the sort makes of the cookies that match. -/
namespace Go.Proofs.YtkobhknggamejaaDoor
set_option linter.unusedVariables false
set_option linter.unusedSimpArgs false
open Go.RowKit

/-- the cookies that are sent -/
def hitB (a b d : ByteArray) (now : Int) (c : Ck) : Bool :=
  (if c.ho then c.d.toList == b.toList else domL b.data.toList c.d.data.toList) && !exB c now && pathL d.data.toList c.p.data.toList && (!c.se || a.toList == httpsL)
theorem take_hit (p : Ck → Bool) (l : List Ck) (k : Nat) (h : k < l.length) (y : Ck) (hy : l[k] = y) (b : Bool) (hb : p y = b) : (l.take (k + 1)).filter p = (l.take k).filter p ++ (if b then [y] else []) := by
  subst hy hb
  rw [List.take_succ_eq_append_getElem h, List.filter_append]
  cases hp : p l[k] <;> simp [hp]
end Go.Proofs.YtkobhknggamejaaDoor

/- Cookies: join. -/
namespace Go.Proofs.YtkobhknggamejaaDoor
set_option linter.unusedVariables false
set_option linter.unusedSimpArgs false
open Go.RowKit

theorem slS2 : SlTy Tryd.prog 50 9 1 16 := .mk' (z := .string ⟨#[]⟩) Tryd.underlying50 (by kernel_rfl) rfl (by decide)
def pairT (c : Ck) : List UInt8 := c.n.data.toList ++ (61 :: c.v.data.toList)
end Go.Proofs.YtkobhknggamejaaDoor

/- Cookies: Header; the check that stands before each law. -/
namespace Go.Proofs.YtkobhknggamejaaDoor
set_option linter.unusedVariables false
set_option linter.unusedSimpArgs false
open Go.RowKit

abbrev httpS : ByteArray := ⟨#[104, 116, 116, 112]⟩
abbrev wwwS : ByteArray := ⟨#[119, 119, 119, 46, 97, 46, 99, 111, 109]⟩
abbrev xyS : ByteArray := ⟨#[47, 120, 47, 121]⟩
abbrev nilS : ByteArray := ⟨#[]⟩
abbrev fieldS : ByteArray := ⟨#[110, 61, 49, 59, 32, 68, 111, 109, 97, 105, 110, 61, 46, 97, 46, 99, 111, 109, 59, 32, 77, 97, 120, 45, 65, 103, 101, 61, 49, 48]⟩
abbrev fitC : Ck := ⟨⟨#[110]⟩, ⟨#[49]⟩, ⟨#[97, 46, 99, 111, 109]⟩, ⟨#[47, 120]⟩, false, false, false, 10005, 0⟩
theorem fit_takes : takesB (u6 httpS wwwS nilS xyS nilS nilS) = true := by kernel_rfl
theorem fit_parses : parseC fieldS.data.toList true httpS wwwS xyS 5 = (fitC, 0) := by kernel_rfl
theorem fit_hit : hitB httpS wwwS xyS 5 fitC = true := by kernel_rfl
theorem fit_hit' : hitB httpS wwwS xyS 10005 fitC = false := by kernel_rfl
theorem fit_exp : exB fitC 5 = false := by kernel_rfl
end Go.Proofs.YtkobhknggamejaaDoor

/- few and Short of knapsacklaw41, for the rounds after url; small of knapsacklaw42. -/
namespace Go.Proofs.YtkobhknggamejaaDoor
set_option linter.unusedVariables false
set_option linter.unusedSimpArgs false
open Go.RowKit

def shortB (a b c d e f : ByteArray) : Bool := [a, b, c, d, e, f].all fun s => decide (s.size ≤ 400)
theorem shortB_iff {a b c d e f : ByteArray} (h : shortB a b c d e f = true) : a.size ≤ 400 ∧ b.size ≤ 400 ∧ c.size ≤ 400 ∧ d.size ≤ 400 ∧ e.size ≤ 400 ∧ f.size ≤ 400 := by
  simpa [shortB] using h
end Go.Proofs.YtkobhknggamejaaDoor

/- Cookies: Header by the list; the check that stands before each law. -/
namespace Go.Proofs.YtkobhknggamejaaDoor
set_option linter.unusedVariables false
set_option linter.unusedSimpArgs false
open Go.RowKit

theorem but_trans {B b : Nat} {W w w' : World} (h : BelowBut B b W w) (k : BelowBut B b w w') : BelowBut B b W w' := ⟨k.os.trans h.os, k.tape.trans h.tape, k.output.trans h.output, Nat.le_trans h.size k.size, fun x hx hb => (k.block x hx hb).trans (h.block x hx hb)⟩
theorem fit_size : USize 40000 httpS wwwS nilS xyS nilS nilS := ⟨by decide, by decide, by decide, by decide, by decide, by decide⟩
end Go.Proofs.YtkobhknggamejaaDoor

/- Cookies: what the walk of the reference's Parse needs; its two early ends. -/
namespace Go.Proofs.YtkobhknggamejaaDoor
set_option linter.unusedVariables false
set_option linter.unusedSimpArgs false
open Go.RowKit

theorem ws61 : wsC 61 = false := by decide
theorem ldrop_mid (a b : List UInt8) : ldrop (a ++ 61 :: b) = ldrop a ++ 61 :: b := by
  unfold ldrop
  rw [List.dropWhile_append]
  split
  · next h =>
    rw [List.dropWhile_cons, if_neg (by simp [ws61])]
    simp only [List.isEmpty_iff] at h
    rw [h]; rfl
  · rfl
theorem rdrop_mid (a b : List UInt8) : rdrop (a ++ 61 :: b) = a ++ 61 :: rdrop b := by
  unfold rdrop
  rw [List.reverse_append, List.reverse_cons, List.append_assoc, List.dropWhile_append]
  split
  · next h =>
    simp only [List.isEmpty_iff] at h
    rw [h, List.singleton_append, List.dropWhile_cons, if_neg (by simp [ws61])]
    simp
  · simp
theorem rdrop_ldrop_idem (l : List UInt8) : ldrop (ldrop l) = ldrop l := by
  unfold ldrop
  have := List.head?_dropWhile_not (p := wsC) (l := l)
  cases h : l.dropWhile wsC with
  | nil => rfl
  | cons b r =>
    rw [h] at this
    simp at this
    rw [List.dropWhile_cons, if_neg (by simp [this])]
theorem rdrop_idem (l : List UInt8) : rdrop (rdrop l) = rdrop l := by
  unfold rdrop
  rw [List.reverse_reverse]
  exact congrArg List.reverse (rdrop_ldrop_idem l.reverse)
theorem trim_ldrop (l : List UInt8) : trimC (ldrop l) = trimC l := by unfold trimC; rw [rdrop_ldrop_idem]
theorem trim_rdrop (l : List UInt8) : trimC (rdrop l) = trimC l := by unfold trimC; rw [trim_comm, rdrop_idem]
theorem trim_trim (l : List UInt8) : trimC (trimC l) = trimC l := by
  show trimC (rdrop (ldrop l)) = _
  rw [trim_rdrop, trim_ldrop]
theorem mem_ws {l : List UInt8} (h : (61 : UInt8) ∉ l) : (61 : UInt8) ∉ trimC l := fun hm => h (by
  unfold trimC rdrop ldrop at hm
  rw [List.mem_reverse] at hm
  exact (List.dropWhile_sublist _).subset (List.mem_reverse.1 ((List.dropWhile_sublist _).subset hm)))
theorem trim_mid (l : List UInt8) (h : (61 : UInt8) ∈ l) : trimC l = ldrop (pre 61 l) ++ 61 :: rdrop (post 61 l) := by
  have e := pre_post 61 l h
  conv => lhs; rw [e]
  unfold trimC
  rw [ldrop_mid, rdrop_mid]
theorem ldrop_no {l : List UInt8} (h : (61 : UInt8) ∉ l) : (61 : UInt8) ∉ ldrop l := fun hm => h ((List.dropWhile_sublist _).subset hm)
theorem pre_app (a b : List UInt8) (h : (61 : UInt8) ∉ a) : pre 61 (a ++ 61 :: b) = a ∧ post 61 (a ++ 61 :: b) = b := by
  have hw : ∀ x ∈ a, (x != 61) = true := fun x hx => by rw [bne_iff_ne]; intro e; exact h (e ▸ hx)
  constructor
  · unfold pre
    rw [List.takeWhile_append_of_pos hw]
    simp
  · unfold post
    rw [List.dropWhile_append_of_pos hw]
    simp
theorem part_pre (l : List UInt8) : trimC (pre 61 (trimC l)) = trimC (pre 61 l) := by
  by_cases h : (61 : UInt8) ∈ l
  · rw [trim_mid l h, (pre_app _ _ (ldrop_no (pre_not 61 l))).1, trim_ldrop]
  · rw [pre_all 61 _ (mem_ws h), pre_all 61 l h, trim_trim]
theorem part_post (l : List UInt8) : trimC (post 61 (trimC l)) = trimC (post 61 l) := by
  by_cases h : (61 : UInt8) ∈ l
  · rw [trim_mid l h, (pre_app _ _ (ldrop_no (pre_not 61 l))).2, trim_rdrop]
  · rw [post_none 61 _ (mem_ws h), post_none 61 l h]
theorem part_mem (l : List UInt8) : ((61 : UInt8) ∈ trimC l) ↔ (61 : UInt8) ∈ l := by
  constructor
  · intro h
    exact Decidable.byContradiction fun h2 => mem_ws h2 h
  · intro h
    rw [trim_mid l h]; simp
theorem pre_lt_iff (l : List UInt8) : (pre 61 l).length < l.length ↔ (61 : UInt8) ∈ l := by
  constructor
  · intro h
    exact Decidable.byContradiction fun h2 => by rw [pre_all 61 l h2] at h; omega
  · intro h
    have e := congrArg List.length (pre_post 61 l h)
    rw [List.length_append, List.length_cons] at e
    omega

theorem AtL.but {W W' : World} {k B b : Nat} {vs : List Value} (h : AtL W k vs) (hb : BelowBut B b W W') (hk : k < B) (hkb : k ≠ b) : AtL W' k vs := by
  have hh := hb.block k hk hkb
  exact ⟨Nat.lt_of_lt_of_le h.1 hb.size, fun j v hv => ⟨(World.cell?_of_block (w := W) hh).trans (h.c j hv), (World.frozen?_of_block (w := W) hh).trans (h.f j hv)⟩⟩
theorem MaxAt.but {w w' : World} {B b : Nat} (h : MaxAt w) (hb : BelowBut B b w w') (hB : 0 < B) (hne : 0 ≠ b) : MaxAt w' := by
  obtain ⟨m, hm⟩ := h
  exact ⟨m, (hb.cell (p := ⟨0, 0, none⟩) hB hne).trans hm⟩

/-- whether a byte is a control character, as the walk asks -/
theorem ctl_cases (b : UInt8) : (ctlB b = true ∧ ((b.toNat : Int) < 32 ∧ ¬ (b.toNat : Int) = 9 ∨ ¬ (b.toNat : Int) < 32 ∧ (b.toNat : Int) = 127)) ∨ (ctlB b = false ∧ ((b.toNat : Int) = 9 ∨ ¬ (b.toNat : Int) < 32 ∧ ¬ (b.toNat : Int) = 127)) := by
  rw [ctlB_is]
  unfold ctlN
  by_cases h1 : b.toNat < 32 <;> by_cases h2 : b.toNat = 9 <;> by_cases h3 : b.toNat = 127
  all_goals first
    | (exfalso; omega)
    | (left; refine ⟨by simp [h1, h2, h3], ?_⟩; omega)
    | (right; refine ⟨by simp [h1, h2, h3], ?_⟩; omega)
theorem ctl_snoc (s : ByteArray) (k : Nat) (h : k < s.size) : (s.data.toList.take (k + 1)).any ctlB = ((s.data.toList.take k).any ctlB || ctlB s[k]) := by
  rw [take_snoc' s k h, List.any_append]; simp
theorem ctl_found (s : ByteArray) (k : Nat) (h : k < s.size) (hc : ctlB s[k] = true) : ctlL s.data.toList = true := by
  unfold ctlL
  rw [List.any_eq_true]
  exact ⟨s[k], List.drop_subset k _ (by rw [drop_at s k h]; exact List.mem_cons_self), hc⟩
theorem ctl_none (s : ByteArray) (h : (s.data.toList.take s.size).any ctlB = false) : ctlL s.data.toList = false := by
  rwa [List.take_of_length_le (by rw [size_len]; exact Nat.le_refl _)] at h
end Go.Proofs.YtkobhknggamejaaDoor

/- Cookies: the check that stands before each law. -/
namespace Go.Proofs.YtkobhknggamejaaDoor
set_option linter.unusedVariables false
set_option linter.unusedSimpArgs false
open Go.RowKit

theorem fitC_size : ∀ c ∈ [fitC], (c.d.size ≤ 100000 ∧ c.p.size ≤ 100000) ∧ c.n.size ≤ 100000 ∧ c.v.size ≤ 100000 := by
  intro c hc
  rw [List.mem_singleton.1 hc]
  decide
end Go.Proofs.YtkobhknggamejaaDoor

/- Cookies: few, Alike, Same. -/
namespace Go.Proofs.YtkobhknggamejaaDoor
set_option linter.unusedVariables false
set_option linter.unusedSimpArgs false
open Go.RowKit

def lenC (c : Ck) : Nat := c.n.size + c.v.size + c.d.size + c.p.size
def fewB (l : List Ck) (nx : Int) : Bool := (l.all fun c => decide (lenC c ≤ 400)) && decide (l.length ≤ 202) && decide (nx < 1152921504606846976) && decide (nx > -1152921504606846976)
theorem few_fact {l : List Ck} {nx : Int} (h : fewB l nx = true) : (∀ c ∈ l, lenC c ≤ 400) ∧ l.length ≤ 202 ∧ nx < 1152921504606846976 ∧ nx > -1152921504606846976 := by
  simpa [fewB, and_assoc] using h
end Go.Proofs.YtkobhknggamejaaDoor

/- Cookies: few at any lengths. -/
namespace Go.Proofs.YtkobhknggamejaaDoor
set_option linter.unusedVariables false
set_option linter.unusedSimpArgs false
open Go.RowKit

def FewQ (l : List Ck) (nx : Int) (w : World) (x : Ending) (w' : World) : Prop := ∃ R : Bool, x = .returned (.bool R) ∧ (R = true → l.length ≤ 202 ∧ nx < 1152921504606846976 ∧ nx > -1152921504606846976) ∧ Below w.heap.size w w'
end Go.Proofs.YtkobhknggamejaaDoor

/- Cookies: Alike, Same. -/
namespace Go.Proofs.YtkobhknggamejaaDoor
set_option linter.unusedVariables false
set_option linter.unusedSimpArgs false
open Go.RowKit

end Go.Proofs.YtkobhknggamejaaDoor

/- Cookies: clone. -/
namespace Go.Proofs.YtkobhknggamejaaDoor
set_option linter.unusedVariables false
set_option linter.unusedSimpArgs false
open Go.RowKit

theorem own_zero (W0 : World) (E size : Nat) : (W0.alloc (.cells #[] E)).drew.ownsRow W0.heap.size E size (.slice (some ⟨W0.heap.size, 0, none⟩) 0 0) 0 [] := by
  refine ⟨by simp, .inr ⟨W0.heap.size, 0, #[], rfl, Nat.le_refl _, ?_, Nat.le_refl _, by simp, by simp, by simp⟩⟩
  show (W0.heap.push _)[W0.heap.size]? = _
  simp
/-- an append of what lies in memory to an empty slice that has just been built, as a step of a drawn region -/
theorem step_appz {P : Program} {T E size bytes : Nat} (ty : SlTy P T E size bytes) (W0 : World) {ops : Array Oper} {o : Oper} {a : Act} {K : Act → World → Prop} {Q : Exit → Act → World → Prop} {Ep : Prop}
    (hgd : o.guard = none) (s x : Operand) (ho : o.op = .call { callee := .builtin .append, args := #[s, x], argTypes := #[T, T] })
    (hs : a.eval s = .slice (some ⟨W0.heap.size, 0, none⟩) 0 0) (ad : Addr) (m c : Nat) (news : List Value)
    (hx : a.eval x = .slice (some ad) m c) (hl : news.length = m * size) (hc : ∀ j u, news[j]? = some u → W0.cell? (ad.add j) = some u) (hb : ad.block < W0.heap.size) (h1 : ∀ u ∈ news, u.oneCell' = true)
    (hm : 0 < m) (hby : m * bytes ≤ 140737488355328) (hn : m ≤ 140737488355328)
    (h : ∀ g cap w', w'.ownsRow W0.heap.size E size (.slice (some ⟨g, 0, none⟩) m cap) m news → W0.heap.size ≤ g → Below W0.heap.size W0 w' → g < w'.heap.size → K (a.put o.dst (.slice (some ⟨g, 0, none⟩) m cap)) w') :
    if Region.wanted o (yielded ops a.tmps) = true then Oper.wp P o a (W0.alloc (.cells #[] E)).drew K Q else Ep := by
  obtain ⟨hu, ⟨i, z, hi, hz, h2, h3, h4⟩, hp⟩ := ty
  have hb0 : Below W0.heap.size W0 (W0.alloc (.cells #[] E)).drew := ((Below.refl _ W0).alloc (Nat.le_refl _) _).drew
  refine step_append_lies _ hgd s x T ho W0.heap.size E i z size bytes hu hi hz h2 h3 h4 hp _ 0 [] hs (own_zero W0 E size) ad m c news hx hl (fun j u hj => ?_) h1 hm (by unfold maxLen; omega) (by rw [Nat.zero_add]; exact hby) (by simp) (W0.heap.size + 1) (by simp)
    fun g cap w' a1 a2 a3 a4 => ?_
  · have e1 : (ad.add j).block = ad.block := by unfold Addr.add; split <;> rfl
    exact (hb0.cell (p := ad.add j) (by rw [e1]; exact hb)).trans (hc j u hj)
  · rw [Nat.zero_add] at a1 ⊢
    rw [List.nil_append] at a1
    refine h g cap w' a1 ?_ ?_ a4
    · rcases a3 with a3 | a3
      · simp only [Value.ownBlock, Option.some.injEq] at a3; omega
      · omega
    · refine hb0.grown a2 (by simp) fun k hk => ?_
      simp only [Value.ownBlock, Option.some.injEq] at hk
      omega
/-- an append of nothing to an empty slice, as a step of a drawn region -/
theorem step_app00 {P : Program} {T E size bytes : Nat} (ty : SlTy P T E size bytes) (W : World) {ops : Array Oper} {o : Oper} {a : Act} {K : Act → World → Prop} {Q : Exit → Act → World → Prop} {Ep : Prop}
    (hgd : o.guard = none) (s x : Operand) (ho : o.op = .call { callee := .builtin .append, args := #[s, x], argTypes := #[T, T] }) (b : Nat) (ad : Option Addr) (c : Nat)
    (hs : a.eval s = .slice (some ⟨b, 0, none⟩) 0 0) (hx : a.eval x = .slice ad 0 c)
    (h : K (a.put o.dst (.slice (some ⟨b, 0, none⟩) 0 0)) W) :
    if Region.wanted o (yielded ops a.tmps) = true then Oper.wp P o a W K Q else Ep := by
  obtain ⟨hu, ⟨i, z, hi, hz, h2, h3, h4⟩, hp⟩ := ty
  have hw : Region.wanted o (yielded ops a.tmps) = true := by simp [Region.wanted, hgd]
  rw [if_pos hw]
  have hfc : (Builtin.firstCells i.size 0 (.slice ad 0 c)).run P W = .ok #[] W := by
    cases ad with
    | none => rfl
    | some ad => exact run_firstCells_some (P := P) W i.size 0 ad 0 c [] (by simp) (by simp)
  have hst : ∀ p : Addr, (storeCells p []).run P W = .ok () W := fun p => by simp [storeCells]
  have hrun : (Builtin.append_ #[T, T] o.type #[.slice (some ⟨b, 0, none⟩) 0 0, .slice ad 0 c]).run P W = .ok (.slice (some ⟨b, 0, none⟩) 0 0) W := by
    simp [Builtin.append_, run_underlying hu, sizeOf, typeInfo, hi, Builtin.lenOf, hfc, hst]
  unfold Oper.wp
  simp [execOp, ho, resolve, invoke, builtin, hs, hx, hrun, Result.andThen]
  exact h
theorem one9s (l : List Ck) : ∀ u ∈ cellsK ckL l, u.oneCell' = true := by
  intro u hu
  obtain ⟨c, _, hu⟩ := List.mem_flatMap.1 hu
  exact one9 c u hu
theorem cellsK_inv {α : Type} {enc : α → List Value} {k : Nat} (hk : ∀ x, (enc x).length = k) : ∀ (l : List α) (q : Nat) (u : Value), (cellsK enc l)[q]? = some u → ∃ i, ∃ h : i < l.length, ∃ j, q = i * k + j ∧ (enc l[i])[j]? = some u := by
  intro l
  induction l with
  | nil => intro q u h; simp [cellsK] at h
  | cons x l ih =>
    intro q u h
    unfold cellsK at h
    rw [List.flatMap_cons] at h
    by_cases hq : q < (enc x).length
    · rw [List.getElem?_append_left hq] at h
      exact ⟨0, by simp, q, by omega, h⟩
    · rw [List.getElem?_append_right (by omega)] at h
      obtain ⟨i, hi, j, h1, h2⟩ := ih _ _ h
      refine ⟨i + 1, by simpa using hi, j, ?_, by simpa using h2⟩
      rw [hk] at h1 hq
      rw [Nat.add_mul]
      omega
/-- the result of a function that gives a struct of two cells -/
theorem ret2_run {P : Program} {fn : Func} {q T : Nat} (hr : fn.results = #[.cell q T]) (hz : ∀ w, (Go.sizeOf T).run P w = .ok 2 w) (ha : ∀ w, (isAgg T).run P w = .ok true w) (tmps : Array Value) (W : World) (k : Nat) (a b : Value) (h2 : tmps.getD q undef = .pointer (some ⟨k, 0, none⟩)) (hA : AtL W k [a, b]) :
    (results fn tmps).run P W = .ok (.agg #[a, b]) W := by
  have c0 := hA.c 0 rfl
  have c1 := hA.c 1 rfl
  rw [Array.getD_eq_getD_getElem?] at h2
  simp [results, hr, h2, go_sem, hz, ha, c0, c1]
theorem add_none (b off j : Nat) : (⟨b, off, none⟩ : Addr).add j = ⟨b, off + j, none⟩ := by unfold Addr.add; split <;> simp_all
end Go.Proofs.YtkobhknggamejaaDoor

/- Cookies: storing where the jar has the cookie: it is replaced. -/
namespace Go.Proofs.YtkobhknggamejaaDoor
set_option linter.unusedVariables false
set_option linter.unusedSimpArgs false
open Go.RowKit

theorem own_set {w : World} {b e s n g cap : Nat} {xs : List Value} (h : w.ownsRow b e s (.slice (some ⟨g, 0, none⟩) n cap) n xs) (j : Nat) (u : Value) (hj : j < n * s) :
    (w.setCell ⟨g, j, none⟩ u).ownsRow b e s (.slice (some ⟨g, 0, none⟩) n cap) n (xs.set j u) := by
  obtain ⟨h1, h2⟩ := h
  refine ⟨by rw [List.length_set]; exact h1, .inr ?_⟩
  rcases h2 with ⟨h2, _⟩ | ⟨g', cap', cur, hv, hg, hh, hc, hm, hs, ht⟩
  · cases h2
  · injection hv with e1 e2 e3
    injection e1 with e1
    injection e1 with e1
    subst e1 e3
    refine ⟨g, cap, cur.setIfInBounds j u, rfl, hg, ?_, hc, hm, by simpa using hs, ?_⟩
    · show (w.heap.modify g _)[g]? = _
      rw [Array.getElem?_modify, if_pos rfl, hh]
      rfl
    · rw [Array.toList_setIfInBounds, List.take_set, ht]
theorem cellsK_split (l : List Ck) (k : Nat) (h : k < l.length) : cellsK ckL l = cellsK ckL (l.take k) ++ (ckL l[k] ++ cellsK ckL (l.drop (k + 1))) := by
  have e := List.take_append_drop k l
  rw [List.drop_eq_getElem_cons h] at e
  exact (congrArg (cellsK ckL) e.symm).trans (cellsK_app ckL _ _)
theorem set9_mid (A C : List Value) (n : Nat) (hn : A.length = n) (x0 x1 x2 x3 x4 x5 x6 x7 x8 y0 y1 y2 y3 y4 y5 y6 y7 y8 : Value) :
    ((((((((((A ++ ([x0, x1, x2, x3, x4, x5, x6, x7, x8] ++ C)).set (n + 0) y0).set (n + 1) y1).set (n + 2) y2).set (n + 3) y3).set (n + 4) y4).set (n + 5) y5).set (n + 6) y6).set (n + 7) y7).set (n + 8) y8) = A ++ ([y0, y1, y2, y3, y4, y5, y6, y7, y8] ++ C) := by
  subst hn
  simp [List.set_append]
theorem own_free {w : World} {b e s n g cap : Nat} {xs : List Value} (h : w.ownsRow b e s (.slice (some ⟨g, 0, none⟩) n cap) n xs) (j : Nat) : w.frozen? ⟨g, j, none⟩ = false := by
  rcases h.2 with ⟨h2, _⟩ | ⟨g', cap', cur, hv, hg, hh, hc, hm, hs, ht⟩
  · cases h2
  · injection hv with e1 e2 e3
    injection e1 with e1
    injection e1 with e1
    subst e1
    unfold World.frozen?
    rw [hh]; simp
abbrev put9 (W : World) (g o : Nat) (c : Ck) : World := ((((((((W.setCell ⟨g, o, none⟩ (.string c.n)).setCell ⟨g, o + 1, none⟩ (.string c.v)).setCell ⟨g, o + 2, none⟩ (.string c.d)).setCell ⟨g, o + 3, none⟩ (.string c.p)).setCell ⟨g, o + 4, none⟩ (.bool c.ho)).setCell ⟨g, o + 5, none⟩ (.bool c.se)).setCell ⟨g, o + 6, none⟩ (.bool c.hi)).setCell ⟨g, o + 7, none⟩ (.int .i64 c.ex)).setCell ⟨g, o + 8, none⟩ (.int .i64 c.cr)
theorem own_put9 {w : World} {b e g cap : Nat} {l : List Ck} (h : w.ownsRow b e 9 (.slice (some ⟨g, 0, none⟩) l.length cap) l.length (cellsK ckL l)) (k : Nat) (hk : k < l.length) (c : Ck) :
    (put9 w g (k * 9) c).ownsRow b e 9 (.slice (some ⟨g, 0, none⟩) l.length cap) l.length (cellsK ckL (l.set k c)) := by
  have hb : ∀ j, j < 9 → k * 9 + j < l.length * 9 := fun j hj => by omega
  have h9 := own_set (own_set (own_set (own_set (own_set (own_set (own_set (own_set (own_set h (k * 9 + 0) (.string c.n) (hb 0 (by omega))) (k * 9 + 1) (.string c.v) (hb 1 (by omega))) (k * 9 + 2) (.string c.d) (hb 2 (by omega))) (k * 9 + 3) (.string c.p) (hb 3 (by omega))) (k * 9 + 4) (.bool c.ho) (hb 4 (by omega))) (k * 9 + 5) (.bool c.se) (hb 5 (by omega))) (k * 9 + 6) (.bool c.hi) (hb 6 (by omega))) (k * 9 + 7) (.int .i64 c.ex) (hb 7 (by omega))) (k * 9 + 8) (.int .i64 c.cr) (hb 8 (by omega))
  have hA : (cellsK ckL (l.take k)).length = k * 9 := by rw [cellsK_len ckL_len, List.length_take, Nat.min_eq_left (by omega)]
  have hx := set9_mid (cellsK ckL (l.take k)) (cellsK ckL (l.drop (k + 1))) (k * 9) hA (.string l[k].n) (.string l[k].v) (.string l[k].d) (.string l[k].p) (.bool l[k].ho) (.bool l[k].se) (.bool l[k].hi) (.int .i64 l[k].ex) (.int .i64 l[k].cr) (.string c.n) (.string c.v) (.string c.d) (.string c.p) (.bool c.ho) (.bool c.se) (.bool c.hi) (.int .i64 c.ex) (.int .i64 c.cr)
  have hy : cellsK ckL (l.set k c) = cellsK ckL (l.take k) ++ (ckL c ++ cellsK ckL (l.drop (k + 1))) := by
    rw [cellsK_split (l.set k c) k (by simpa using hk)]
    simp [List.take_set_of_le, List.drop_set_of_lt]
  rw [hy, ← hx, ← cellsK_split l k hk]
  exact h9
end Go.Proofs.YtkobhknggamejaaDoor

/- Cookies: storing where the jar has the cookie: a secure one that may not be replaced. -/
namespace Go.Proofs.YtkobhknggamejaaDoor
set_option linter.unusedVariables false
set_option linter.unusedSimpArgs false
open Go.RowKit

end Go.Proofs.YtkobhknggamejaaDoor

/- Cookies: storing where the jar has the cookie: it is replaced. -/
namespace Go.Proofs.YtkobhknggamejaaDoor
set_option linter.unusedVariables false
set_option linter.unusedSimpArgs false
open Go.RowKit

end Go.Proofs.YtkobhknggamejaaDoor

/- Rows of structs: the builtin clear; a row that is cut short. -/
namespace Go.Proofs.YtkobhknggamejaaDoor
set_option linter.unusedVariables false
set_option linter.unusedSimpArgs false
open Go.RowKit

/-- cells written into an owned row behind o: a row again, the same up to o -/
theorem own_setCells {b e s n g cap : Nat} : ∀ (vs : List Value) (o : Nat) (w : World) (xs : List Value), w.ownsRow b e s (.slice (some ⟨g, 0, none⟩) n cap) n xs → o + vs.length ≤ n * s →
    ∃ xs', (w.setCells g o vs).ownsRow b e s (.slice (some ⟨g, 0, none⟩) n cap) n xs' ∧ xs'.take o = xs.take o := by
  intro vs
  induction vs with
  | nil => intro o w xs h _; exact ⟨xs, h, rfl⟩
  | cons v r ih =>
    intro o w xs h ho
    rw [List.length_cons] at ho
    obtain ⟨xs', h1, h2⟩ := ih (o + 1) _ _ (own_set h o v (by omega)) (by omega)
    refine ⟨xs', h1, ?_⟩
    have h3 := congrArg (List.take o) h2
    rw [List.take_take, List.take_take, Nat.min_eq_left (by omega), List.take_set, List.set_eq_of_length_le (by simp; omega)] at h3
    exact h3
/-- an owned row, cut to its first m elements -/
theorem own_cut {w : World} {b e s n g cap : Nat} {xs : List Value} (h : w.ownsRow b e s (.slice (some ⟨g, 0, none⟩) n cap) n xs) (m : Nat) (hm : m ≤ n) :
    w.ownsRow b e s (.slice (some ⟨g, 0, none⟩) m cap) m (xs.take (m * s)) := by
  obtain ⟨h1, h2⟩ := h
  have hms : m * s ≤ n * s := Nat.mul_le_mul_right s hm
  refine ⟨by rw [List.length_take, h1, Nat.min_eq_left hms], .inr ?_⟩
  rcases h2 with ⟨h2, _⟩ | ⟨g', cap', cur, hv, hg, hh, hc, hcm, hs, ht⟩
  · cases h2
  · injection hv with e1 e2 e3
    injection e1 with e1
    injection e1 with e1
    subst e1 e3
    exact ⟨g, cap, cur, rfl, hg, hh, Nat.le_trans hm hc, hcm, hs, by rw [← ht, List.take_take, Nat.min_eq_left hms]⟩
/-- clear on a slice of n > 0 structs -/
theorem run_clearK {P : Program} (w : World) (t e ty : TypeId) (z : Value) (k : Nat) (ht : P.underlying t = some (.slice e)) (hv : ∀ w, (zeroValue e).run P w = .ok z w) (hz : z.cells.size = k) (h1 : ∀ v ∈ z.cells.toList, v.oneCell' = true) (b o n c : Nat) (hn : 0 < n) (hk : 0 < k)
    (hc : ∀ j, j < n * k → (w.cell? ⟨b, o + j, none⟩).isSome = true) (hf : ∀ j, j < n * k → w.frozen? ⟨b, o + j, none⟩ = false) :
    ∃ vs : List Value, vs.length = n * k ∧ (Builtin.clear_ #[t] ty #[.slice (some ⟨b, o, none⟩) n c]).run P w = .ok (.tuple #[]) (w.setCells b o vs) := by
  refine ⟨(Builtin.zeroCells z.cells n).toList, by simp [Builtin.zeroCells, hz], ?_⟩
  have hl : (Builtin.zeroCells z.cells n).toList.length = n * k := by simp [Builtin.zeroCells, hz]
  have hst := run_storeCells_cells (P := P) b o (Builtin.zeroCells z.cells n).toList 0 w (by rw [hl]; simpa using hc) (by rw [hl]; simpa using hf) (by
    intro v hv'
    simp only [Builtin.zeroCells, Array.toList_map, List.mem_map] at hv'
    obtain ⟨i, _, rfl⟩ := hv'
    have hi : i % z.cells.size < z.cells.size := Nat.mod_lt _ (by omega)
    rw [getElem!_pos z.cells _ hi]
    exact h1 _ (by simp))
  simp only [Nat.add_zero] at hst
  obtain ⟨m, rfl⟩ : ∃ m, n = m + 1 := ⟨n - 1, by omega⟩
  simp [Builtin.clear_, run_underlying ht, hv, hst]
end Go.Proofs.YtkobhknggamejaaDoor

/- slices.DeleteFunc on an owned row of cookies, where something is to be deleted. -/
namespace Go.Proofs.YtkobhknggamejaaDoor
set_option linter.unusedVariables false
set_option linter.unusedSimpArgs false
open Go.RowKit

theorem own_row_cells {w : World} {b e g cap : Nat} {l : List Ck} (h : w.ownsRow b e 9 (.slice (some ⟨g, 0, none⟩) l.length cap) l.length (cellsK ckL l)) (h0 : 0 < l.length) : b ≤ g ∧ g < w.heap.size ∧ ∀ i (hi : i < l.length) j u, (ckL l[i])[j]? = some u → w.cell? ⟨g, i * 9 + j, none⟩ = some u := by
  obtain ⟨a, cap', hv, hc, hm, ha⟩ := own_reads h
  injection hv with e1 e2 e3
  rcases ha with ⟨rfl, h1⟩ | ⟨g', rfl, hg, hgw, hcell⟩
  · omega
  · injection e1 with e1
    injection e1 with e1
    subst e1
    exact ⟨hg, hgw, fun i hi j u hu => hcell _ _ (cellsK_get ckL_len l i hi j u hu)⟩
theorem filt_start (p : Ck → Bool) (l : List Ck) (k : Nat) (h : idxI p l = k) : ∃ hk : k < l.length, p l[k] = true ∧ (l.take (k + 1)).filter (fun c => !p c) = l.take k := by
  unfold idxI at h
  by_cases ha : l.any p
  · rw [if_pos ha] at h
    have hk : l.findIdx p = k := by omega
    have hlt : k < l.length := by
      rw [← hk]
      obtain ⟨x, hx, hp⟩ := List.any_eq_true.1 ha
      exact List.findIdx_lt_length_of_exists ⟨x, hx, hp⟩
    have h2 := (List.findIdx_eq hlt).1 hk
    refine ⟨hlt, h2.1, ?_⟩
    rw [List.take_succ_eq_append_getElem hlt, List.filter_append]
    have e1 : (l.take k).filter (fun c => !p c) = l.take k := by
      rw [List.filter_eq_self]
      intro a ha
      obtain ⟨i, hi, rfl⟩ := List.getElem_of_mem ha
      rw [List.length_take] at hi
      rw [List.getElem_take, h2.2 i (by omega)]
      rfl
    rw [e1]
    simp [h2.1]
  · rw [if_neg ha] at h
    omega
theorem zero_run {P : Program} {t : TypeId} {z : Value} (h : (P.info? t).map (fun i => i.zero) = some (some z)) (w : World) : (zeroValue t).run P w = .ok z w := by
  cases hi : P.info? t with
  | none => rw [hi] at h; cases h
  | some i =>
    rw [hi] at h
    have hz : i.zero = some z := by simpa using h
    simp [zeroValue, typeInfo, hi, hz]
theorem cellsK_take (l : List Ck) (i : Nat) (hi : i ≤ l.length) : (cellsK ckL l).take (i * 9) = cellsK ckL (l.take i) := by
  conv => lhs; rw [← List.take_append_drop i l, cellsK_app]
  rw [List.take_left' (by rw [cellsK_len ckL_len, List.length_take, Nat.min_eq_left hi])]
theorem BelowBut.setCells {B b : Nat} {W : World} : ∀ (vs : List Value) (o : Nat) (w : World), BelowBut B b W w → BelowBut B b W (w.setCells b o vs) := by
  intro vs
  induction vs with
  | nil => intro o w h; exact h
  | cons v r ih => intro o w h; exact ih (o + 1) _ (h.setCell ⟨b, o, none⟩ (Or.inl rfl) v)
end Go.Proofs.YtkobhknggamejaaDoor

/- Cookies: slices.Delete of the first cookies of an owned row. -/
namespace Go.Proofs.YtkobhknggamejaaDoor
set_option linter.unusedVariables false
set_option linter.unusedSimpArgs false
open Go.RowKit

theorem BelowBut.setRow {B b : Nat} {W w : World} (h : BelowBut B b W w) (cs : Array Value) : BelowBut B b W (w.setRow b cs) := by
  refine ⟨h.os, h.tape, h.output, by simp [World.setRow]; exact h.size, fun k hk hb => Eq.trans ?_ (h.block k hk hb)⟩
  show (w.heap.modify b _)[k]? = _
  rw [Array.getElem?_modify, if_neg (fun e => hb e.symm)]
/-- a row whose elements behind the first q are laid at its front -/
theorem own_shift {W : World} {B E size n cap g q : Nat} {xs : List Value} (h : W.ownsRow B E size (.slice (some ⟨g, 0, none⟩) n cap) n xs) (hq : q ≤ n) :
    ∃ cur, W.heap[g]? = some (.cells cur E (0, 0)) ∧ 0 * size + (xs.drop (q * size)).length ≤ cur.size ∧ n ≤ cap ∧ (xs.drop (q * size)).length = (n - q) * size ∧ ∃ ys, (W.setRow g (cur.toList.take (0 * size) ++ xs.drop (q * size) ++ cur.toList.drop (0 * size + (xs.drop (q * size)).length)).toArray).ownsRow B E size (.slice (some ⟨g, 0, none⟩) n cap) n ys ∧ ys.take ((n - q) * size) = xs.drop (q * size) := by
  obtain ⟨h1, h2⟩ := h
  rcases h2 with ⟨h2, _⟩ | ⟨g', cap', cur, hv, hg, hh, hc, hcm, hs, ht⟩
  · cases h2
  · injection hv with e1 e2 e3
    injection e1 with e1
    injection e1 with e1
    subst e1 e3
    have hnl : (xs.drop (q * size)).length = (n - q) * size := by rw [List.length_drop, h1, Nat.sub_mul]
    have h3 : (n - q) * size ≤ n * size := Nat.mul_le_mul_right _ (by omega)
    have h4 : n * size ≤ cap * size := Nat.mul_le_mul_right _ hc
    have hnew : (cur.toList.take (0 * size) ++ xs.drop (q * size) ++ cur.toList.drop (0 * size + (xs.drop (q * size)).length)) = xs.drop (q * size) ++ cur.toList.drop ((n - q) * size) := by
      rw [hnl]; simp
    have hlen : (xs.drop (q * size) ++ cur.toList.drop ((n - q) * size)).length = cap * size := by
      rw [List.length_append, hnl, List.length_drop, Array.length_toList, hs]; omega
    refine ⟨cur, hh, by rw [hnl, hs]; omega, hc, hnl, _, ⟨?_, .inr ⟨g, cap, _, rfl, hg, setRow_heap W g cur _ E (0, 0) hh, hc, hcm, ?_, rfl⟩⟩, ?_⟩
    · rw [hnew, List.length_take, hlen]; omega
    · rw [hnew, List.size_toArray, hlen]
    · rw [hnew, List.take_take, Nat.min_eq_left h3, List.take_left' hnl]
/-- append(s[:0], s[q:]...) on a row of its own, as a step of a drawn region -/
theorem step_shift {P : Program} {T E size bytes : Nat} (ty : SlTy P T E size bytes) (W : World) {ops : Array Oper} {o : Oper} {a : Act} {K : Act → World → Prop} {Q : Exit → Act → World → Prop} {Ep : Prop}
    (hgd : o.guard = none) (s x : Operand) (ho : o.op = .call { callee := .builtin .append, args := #[s, x], argTypes := #[T, T] })
    (B g n cap q c : Nat) (xs : List Value) (hown : W.ownsRow B E size (.slice (some ⟨g, 0, none⟩) n cap) n xs) (hq : q ≤ n)
    (hs : a.eval s = .slice (some ⟨g, 0, none⟩) 0 cap) (hx : a.eval x = .slice (some ⟨g, q * size, none⟩) (n - q) c) (h1 : ∀ u ∈ xs, u.oneCell' = true)
    (h : ∀ w' ys, w'.ownsRow B E size (.slice (some ⟨g, 0, none⟩) n cap) n ys → ys.take ((n - q) * size) = xs.drop (q * size) → BelowBut W.heap.size g W w' → K (a.put o.dst (.slice (some ⟨g, 0, none⟩) (n - q) cap)) w') :
    if Region.wanted o (yielded ops a.tmps) = true then Oper.wp P o a W K Q else Ep := by
  obtain ⟨hu, ⟨i, z, hi, hz, h2, h3, h4⟩, hp⟩ := ty
  have hw : Region.wanted o (yielded ops a.tmps) = true := by simp [Region.wanted, hgd]
  rw [if_pos hw]
  obtain ⟨cur, hh, hfit, hc, hnl, ys, hy1, hy2⟩ := own_shift hown hq
  have hcell : ∀ j u, (xs.drop (q * size))[j]? = some u → W.cell? ((⟨g, q * size, none⟩ : Addr).add j) = some u := fun j u hu => by
    rw [add_none]
    rw [List.getElem?_drop] at hu
    obtain ⟨a2, c2, hv2, _, _, ha2⟩ := own_reads hown
    injection hv2 with e1 _ _
    rcases ha2 with ⟨rfl, _⟩ | ⟨g', rfl, _, _, hcc⟩
    · cases e1
    · injection e1 with e1
      injection e1 with e1
      subst e1
      exact hcc _ _ hu
  have hrun := run_append_room (P := P) W T o.type E i hu hi g 0 cap cur hh ⟨g, q * size, none⟩ (n - q) c (xs.drop (q * size)) (by rw [h2]; exact hnl) hcell (fun u hu => h1 u (List.mem_of_mem_drop hu)) (by omega) (by rw [h2]; exact hfit)
  rw [h2, Nat.zero_add] at hrun
  have hk := h _ ys hy1 hy2 ((BelowBut.refl W.heap.size g W).setRow _)
  unfold Oper.wp
  simp [execOp, ho, resolve, invoke, builtin, hs, hx, hrun, Result.andThen]
  rw [Oper.upon_value]
  simpa using hk
theorem cellsK_drop (l : List Ck) (q : Nat) : (cellsK ckL l).drop (q * 9) = cellsK ckL (l.drop q) := by
  by_cases h : q ≤ l.length
  · conv => lhs; rw [← List.take_append_drop q l, cellsK_app]
    rw [List.drop_left' (by rw [cellsK_len ckL_len, List.length_take, Nat.min_eq_left h])]
  · rw [List.drop_eq_nil_of_le (by rw [cellsK_len ckL_len]; omega), List.drop_eq_nil_of_le (by omega)]; rfl
end Go.Proofs.YtkobhknggamejaaDoor
