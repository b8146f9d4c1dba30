/- Plain: what Parse computes (scheme, port, the parts of an address). -/
import Derived.Test.YtjdhaacmlpegoaaGreatDoorB1
import Derived.Test.YtjdhaacmlpegoaaGreatDoorUH
namespace Go.Proofs.YtjdhaacmlpegoaaGreatDoor
set_option linter.unusedVariables false
set_option linter.unusedSimpArgs false
open Go.RowKit

/-- scheme, host, port, path, query, fragment -/
abbrev U6 := List UInt8 × List UInt8 × List UInt8 × List UInt8 × List UInt8 × List UInt8
abbrev httpL : List UInt8 := [104, 116, 116, 112]
abbrev httpsL : List UInt8 := [104, 116, 116, 112, 115]
abbrev aboutL : List UInt8 := [97, 98, 111, 117, 116]
/-- a text begins with a scheme and a colon -/
def schemeOk (l : List UInt8) : Bool := l.contains 58 && (match l with | [] => false | b :: _ => letterB b) && (pre 58 l).all (okC [43, 45, 46])
def zerosOff (l : List UInt8) : List UInt8 := l.dropWhile (· == 48)
def numF (n : Nat) (b : UInt8) : Nat := n * 10 + (b.toNat - 48)
def numL (l : List UInt8) : Nat := l.foldl numF 0
def portOk (d : List UInt8) : Prop := d.all digitB = true ∧ d.length ≤ 5 ∧ numL d ≤ 65535
def portOf (sch d : List UInt8) : List UInt8 := if (sch = httpL ∧ numL d = 80) ∨ (sch = httpsL ∧ numL d = 443) then [] else zerosOff d
instance (d : List UInt8) : Decidable (portOk d) := by unfold portOk; infer_instance
def siteL (n fr before : List UInt8) : Option U6 :=
  if (n = httpL ∨ n = httpsL) ∧ before.take 2 = [47, 47] then
    let path := pre 63 (before.drop 2)
    let plc := pre 47 path
    let host := pre 58 plc
    if portOk (post 58 plc) ∧ 1 ≤ host.length ∧ host.length ≤ 253 ∧ host.all (okC [45, 46]) = true then
      some (n, lowL host, portOf n (post 58 plc), cleanL (conv innerL true (path.drop plc.length)), conv (innerL ++ [63]) true (post 63 (before.drop 2)), fr)
    else none
  else none
def restL (n rest : List UInt8) : Option U6 :=
  let fr := conv (innerL ++ [63]) true (post 35 rest)
  if n = aboutL then (if (pre 35 rest).all (okC [45]) = true then some (n, [], [], pre 35 rest, [], fr) else none) else siteL n fr (pre 35 rest)
/-- the address that a text denotes -/
def parseL (s : List UInt8) : Option U6 :=
  if schemeOk (trimL s) = true then restL (lowL (pre 58 (trimL s))) (post 58 (trimL s)) else none

theorem numF_le (n : Nat) (b : UInt8) (h : digitB b = true) : numF n b ≤ n * 10 + 9 ∧ n * 10 ≤ numF n b := by
  simp only [digitB, digitI, decide_eq_true_eq] at h
  unfold numF; omega
theorem foldl_bd : ∀ (l : List UInt8) (n : Nat), l.all digitB = true → n * 10 ^ l.length ≤ l.foldl numF n ∧ l.foldl numF n + 1 ≤ (n + 1) * 10 ^ l.length := by
  intro l
  induction l with
  | nil => intro n _; simp
  | cons b l ih =>
    intro n h
    simp only [List.all_cons, Bool.and_eq_true] at h
    have h1 := numF_le n b h.1
    have h2 := ih (numF n b) h.2
    simp only [List.foldl_cons, List.length_cons, Nat.pow_succ']
    constructor
    · calc n * (10 * 10 ^ l.length) = (n * 10) * 10 ^ l.length := by rw [Nat.mul_assoc]
        _ ≤ numF n b * 10 ^ l.length := Nat.mul_le_mul_right _ h1.2
        _ ≤ _ := h2.1
    · calc _ ≤ (numF n b + 1) * 10 ^ l.length := h2.2
        _ ≤ ((n + 1) * 10) * 10 ^ l.length := Nat.mul_le_mul_right _ (by omega)
        _ = _ := by rw [Nat.mul_assoc]
theorem numL_zeros : ∀ l : List UInt8, numL (zerosOff l) = numL l := by
  intro l
  unfold numL zerosOff
  induction l with
  | nil => rfl
  | cons b l ih =>
    rw [List.dropWhile_cons]
    split
    · next h =>
      rw [ih]
      have : b = 48 := by simpa using h
      subst this
      rfl
    · rfl
theorem zeros_all (l : List UInt8) (h : l.all digitB = true) : (zerosOff l).all digitB = true := by
  rw [List.all_eq_true] at h ⊢
  exact fun x hx => h x ((List.dropWhile_sublist _).subset hx)
theorem zeros_head (l : List UInt8) : ∀ b r, zerosOff l = b :: r → b ≠ 48 := by
  intro b r h e
  subst e
  unfold zerosOff at h
  have := List.head?_dropWhile_not (p := (· == (48 : UInt8))) (l := l)
  rw [h] at this
  simp at this
theorem digit_u8 (b : UInt8) (n : Nat) (h : digitB b = true) (hn : b.toNat - 48 = n) : b = UInt8.ofNat (n + 48) := by
  simp only [digitB, digitI, decide_eq_true_eq] at h
  have : b.toNat = n + 48 := by omega
  rw [← this]; simp
/-- without leading zeros a number's digits are determined -/
theorem num80 (t : List UInt8) (h : t.all digitB = true) (hz : ∀ b r, t = b :: r → b ≠ 48) : numL t = 80 ↔ t = [56, 48] := by
  constructor
  · intro e
    match t, h, hz, e with
    | [], _, _, e => simp [numL] at e
    | [a], h, _, e => simp [numL, numF] at e; simp [digitB, digitI] at h; omega
    | [a, b], h, _, e =>
      simp only [List.all_cons, List.all_nil, Bool.and_eq_true] at h
      have ha := h.1
      have hb := h.2.1
      simp only [digitB, digitI, decide_eq_true_eq] at ha hb
      simp [numL, numF] at e
      rw [digit_u8 a 8 h.1 (by omega), digit_u8 b 0 h.2.1 (by omega)]; rfl
    | a :: b :: c :: r, h, hz, e =>
      exfalso
      have h1 := foldl_bd (b :: c :: r) (numF 0 a) (by simp only [List.all_cons, Bool.and_eq_true] at h ⊢; exact h.2)
      have ha : a ≠ 48 := hz a _ rfl
      simp only [List.all_cons, Bool.and_eq_true] at h
      have h0 := h.1
      simp only [digitB, digitI, decide_eq_true_eq] at h0
      have h2 : 1 ≤ numF 0 a := by
        unfold numF
        have : a.toNat ≠ 48 := fun e => ha (UInt8.toNat_inj.1 e)
        omega
      have h3 : 10 ^ 2 ≤ 10 ^ (b :: c :: r).length := Nat.pow_le_pow_right (by omega) (by simp)
      have h4 : 10 ^ 2 ≤ numF 0 a * 10 ^ (b :: c :: r).length := Nat.le_trans h3 (Nat.le_mul_of_pos_left _ h2)
      have e' : List.foldl numF (numF 0 a) (b :: c :: r) = 80 := e
      omega
  · rintro rfl; rfl
theorem num443 (t : List UInt8) (h : t.all digitB = true) (hz : ∀ b r, t = b :: r → b ≠ 48) : numL t = 443 ↔ t = [52, 52, 51] := by
  constructor
  · intro e
    match t, h, hz, e with
    | [], _, _, e => simp [numL] at e
    | [a], h, _, e => simp [numL, numF] at e; simp [digitB, digitI] at h; omega
    | [a, b], h, _, e => simp [numL, numF] at e; simp [digitB, digitI] at h; omega
    | [a, b, c], h, _, e =>
      simp only [List.all_cons, List.all_nil, Bool.and_eq_true] at h
      have ha := h.1
      have hb := h.2.1
      have hc := h.2.2.1
      simp only [digitB, digitI, decide_eq_true_eq] at ha hb hc
      simp [numL, numF] at e
      rw [digit_u8 a 4 h.1 (by omega), digit_u8 b 4 h.2.1 (by omega), digit_u8 c 3 h.2.2.1 (by omega)]; rfl
    | a :: b :: c :: d :: r, h, hz, e =>
      exfalso
      have h1 := foldl_bd (b :: c :: d :: r) (numF 0 a) (by simp only [List.all_cons, Bool.and_eq_true] at h ⊢; exact h.2)
      have ha : a ≠ 48 := hz a _ rfl
      simp only [List.all_cons, Bool.and_eq_true] at h
      have h0 := h.1
      simp only [digitB, digitI, decide_eq_true_eq] at h0
      have h2 : 1 ≤ numF 0 a := by
        unfold numF
        have : a.toNat ≠ 48 := fun e => ha (UInt8.toNat_inj.1 e)
        omega
      have h3 : 10 ^ 3 ≤ 10 ^ (b :: c :: d :: r).length := Nat.pow_le_pow_right (by omega) (by simp)
      have h4 : 10 ^ 3 ≤ numF 0 a * 10 ^ (b :: c :: d :: r).length := Nat.le_trans h3 (Nat.le_mul_of_pos_left _ h2)
      have e' : List.foldl numF (numF 0 a) (b :: c :: d :: r) = 443 := e
      omega
  · rintro rfl; rfl
/-- the reference's form of portOf -/
theorem portOf_own (sch d : List UInt8) (h : d.all digitB = true) (hs : sch = httpL ∨ sch = httpsL) :
    portOf sch d = if zerosOff d = (if sch = httpsL then [52, 52, 51] else [56, 48]) then [] else zerosOff d := by
  have ha := zeros_all d h
  have hz := zeros_head d
  have h80 := num80 _ ha hz
  have h443 := num443 _ ha hz
  rw [numL_zeros] at h80 h443
  unfold portOf
  rcases hs with rfl | rfl
  · by_cases e : numL d = 80
    · have := h80.1 e
      rw [if_pos (.inl ⟨rfl, e⟩), if_neg (show ¬ httpL = httpsL by decide), if_pos this]
    · rw [if_neg (by rintro (⟨_, h⟩ | ⟨h, _⟩) <;> first | exact e h | (revert h; decide)), if_neg (show ¬ httpL = httpsL by decide), if_neg fun h => e (h80.2 h)]
  · by_cases e : numL d = 443
    · have := h443.1 e
      rw [if_pos (.inr ⟨rfl, e⟩), if_pos rfl, if_pos this]
    · rw [if_neg (by rintro (⟨h, _⟩ | ⟨_, h⟩) <;> first | exact e h | (revert h; decide)), if_pos rfl, if_neg fun h => e (h443.2 h)]
theorem lowB_ok (more : List UInt8) (b : UInt8) (hm : ∀ x ∈ more, letterB x = false ∧ lowB x = x) : okC more (lowB b) = okC more b := by
  unfold lowB
  split
  · next h =>
    have : (b + 32).toNat = b.toNat + 32 := by rw [UInt8.toNat_add]; have := b.toNat_lt; simp; omega
    have l1 : letterB (b + 32) = true := by simp [letterB, letterI, this]; omega
    have l2 : letterB b = true := by simp [letterB, letterI]; omega
    simp [okC, l1, l2]
  · rfl
theorem lowL_ok (more l : List UInt8) (hm : ∀ x ∈ more, letterB x = false ∧ lowB x = x) : (lowL l).all (okC more) = l.all (okC more) := by
  unfold lowL
  rw [List.all_map]
  congr 1
  exact funext fun b => lowB_ok more b hm
theorem lowL_len (l : List UInt8) : (lowL l).length = l.length := by simp [lowL]
end Go.Proofs.YtjdhaacmlpegoaaGreatDoor
