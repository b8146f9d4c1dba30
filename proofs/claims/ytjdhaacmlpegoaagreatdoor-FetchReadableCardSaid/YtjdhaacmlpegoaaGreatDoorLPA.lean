/- Plain: what conv keeps, and its inverse. -/
import Derived.Test.YtjdhaacmlpegoaaGreatDoorUH
namespace Go.Proofs.YtjdhaacmlpegoaaGreatDoor
set_option linter.unusedVariables false
set_option linter.unusedSimpArgs false
open Go.RowKit

theorem okC_hex (keep : List UInt8) (b : UInt8) (h : 0 ≤ hexB b) : okC keep b = true := by
  have : letterB b = true ∨ digitB b = true := by
    unfold hexB hexI at h
    unfold letterB letterI digitB digitI
    simp only [Bool.or_eq_true, decide_eq_true_eq]
    split at h
    · exact .inr (by assumption)
    · split at h
      · exact .inl (.inl (by omega))
      · split at h
        · exact .inl (.inr (by omega))
        · omega
  unfold okC
  rcases this with h | h <;> simp [h]
theorem hex_dig : ∀ n : Fin 16, 0 ≤ hexB (dig n.1) := by decide
theorem pct_coded (b : UInt8) (r : List UInt8) : codedL (pct b ++ r) = true := by
  have h1 := hex_dig ⟨b.toNat / 16, by have := b.toNat_lt; omega⟩
  have h2 := hex_dig ⟨b.toNat % 16, by omega⟩
  simp only [pct, List.cons_append, List.nil_append, codedL, Bool.and_eq_true, beq_self_eq_true, decide_eq_true_eq, true_and]
  exact ⟨h1, h2⟩
theorem conv_ok (keep : List UInt8) (codes : Bool) (c : UInt8) (r : List UInt8) (h : okC keep c = true) : conv keep codes (c :: r) = c :: conv keep codes r := by
  rw [conv, if_pos (by simp [h])]; rfl
theorem conv_coded (keep : List UInt8) (a b : UInt8) (r : List UInt8) (h : codedL (37 :: a :: b :: r) = true) : conv keep true (37 :: a :: b :: r) = 37 :: a :: b :: conv keep true r := by
  have h2 := h
  simp only [codedL, Bool.and_eq_true, decide_eq_true_eq] at h2
  rw [conv, if_pos (by simp [h]), conv_ok keep true a _ (okC_hex keep a h2.1.2), conv_ok keep true b _ (okC_hex keep b h2.2)]; rfl
theorem coded_shape (c : UInt8) (r : List UInt8) (h : codedL (c :: r) = true) : ∃ a b t, c = 37 ∧ r = a :: b :: t := by
  match r, h with
  | a :: b :: t, h =>
    simp only [codedL, Bool.and_eq_true, beq_iff_eq] at h
    exact ⟨a, b, t, h.1.1, rfl⟩
theorem codedL_more (a b : UInt8) (r t : List UInt8) : codedL (37 :: a :: b :: r) = codedL (37 :: a :: b :: t) := rfl
/-- a converted text stays as it is -/
theorem conv_idem (keep : List UInt8) (l : List UInt8) : conv keep true (conv keep true l) = conv keep true l := by
  suffices h : ∀ n (l : List UInt8), l.length ≤ n → conv keep true (conv keep true l) = conv keep true l from h _ l (Nat.le_refl _)
  intro n
  induction n with
  | zero => intro l hl; obtain rfl := List.eq_nil_of_length_eq_zero (Nat.le_zero.1 hl); rfl
  | succ n ih =>
    intro l hl
    match l with
    | [] => rfl
    | c :: r =>
      simp only [List.length_cons] at hl
      by_cases h1 : okC keep c = true
      · rw [conv_ok keep true c r h1, conv_ok keep true c _ h1, ih r (by omega)]
      · by_cases h2 : codedL (c :: r) = true
        · obtain ⟨a, b, t, rfl, rfl⟩ := coded_shape c r h2
          rw [conv_coded keep a b t h2, conv_coded keep a b _ ((codedL_more a b _ t).trans h2), ih t (by simp at hl; omega)]
        · have e : conv keep true (c :: r) = pct c ++ conv keep true r := by rw [conv, if_neg (by simp [h1, h2])]
          rw [e]
          have h3 := pct_coded c (conv keep true r)
          simp only [pct, List.cons_append, List.nil_append] at h3 ⊢
          rw [conv_coded keep _ _ _ h3, ih r (by omega)]
/-- what stands in a converted text -/
theorem conv_mem (keep : List UInt8) (codes : Bool) (l : List UInt8) : ∀ x ∈ conv keep codes l, okC keep x = true ∨ x = 37 := by
  induction l with
  | nil => intro x h; simp [conv] at h
  | cons c r ih =>
    intro x h
    rw [conv] at h
    rcases List.mem_append.1 h with h | h
    · split at h
      · next hc =>
        obtain rfl : x = c := by simpa using h
        rcases (Bool.or_eq_true _ _).mp hc with h1 | h1
        · exact .inl h1
        · obtain ⟨_, _, _, h2, _⟩ := coded_shape x r ((Bool.and_eq_true _ _).mp h1).2
          exact .inr h2
      · have hd : ∀ n : Fin 16, okC keep (dig n.1) = true := fun n => okC_hex keep _ (hex_dig n)
        simp only [pct, List.mem_cons, List.not_mem_nil, or_false] at h
        rcases h with rfl | rfl | rfl
        · exact .inr rfl
        · exact .inl (hd ⟨c.toNat / 16, by have := c.toNat_lt; omega⟩)
        · exact .inl (hd ⟨c.toNat % 16, by omega⟩)
    · exact ih x h
def hexByte (a b : UInt8) : UInt8 := UInt8.ofNat ((hexB a).toNat * 16 + (hexB b).toNat)
/-- percent codes turned to bytes -/
def unescL : List UInt8 → List UInt8
  | c :: a :: b :: r => if c == 37 && decide (0 ≤ hexB a) && decide (0 ≤ hexB b) then hexByte a b :: unescL r else c :: unescL (a :: b :: r)
  | [c, a] => [c, a]
  | [c] => [c]
  | [] => []
theorem unesc_coded (c a b : UInt8) (r : List UInt8) (h : codedL (c :: a :: b :: r) = true) : unescL (c :: a :: b :: r) = hexByte a b :: unescL r := by
  rw [unescL, if_pos (show (c == 37 && decide (0 ≤ hexB a) && decide (0 ≤ hexB b)) = true from h)]
theorem unesc_plain (c : UInt8) (l : List UInt8) (h : codedL (c :: l) = false) : unescL (c :: l) = c :: unescL l := by
  match l, h with
  | [], _ => rfl
  | [a], _ => rfl
  | a :: b :: r, h => rw [unescL, if_neg (by rw [show (c == 37 && decide (0 ≤ hexB a) && decide (0 ≤ hexB b)) = false from h]; exact Bool.false_ne_true)]
theorem hex_dig_is : ∀ n : Fin 16, hexB (dig n.1) = n.1 := by decide
theorem hexByte_dig (b : UInt8) : hexByte (dig (b.toNat / 16)) (dig (b.toNat % 16)) = b := by
  have h1 := hex_dig_is ⟨b.toNat / 16, by have := b.toNat_lt; omega⟩
  have h2 := hex_dig_is ⟨b.toNat % 16, by omega⟩
  simp only at h1 h2
  unfold hexByte
  rw [h1, h2]
  have : (((b.toNat / 16 : Nat) : Int)).toNat * 16 + (((b.toNat % 16 : Nat) : Int)).toNat = b.toNat := by omega
  rw [this]; simp
/-- what was escaped is found again -/
theorem unesc_conv (keep : List UInt8) (h : okC keep 37 = false) (l : List UInt8) : unescL (conv keep false l) = l := by
  induction l with
  | nil => rfl
  | cons c r ih =>
    by_cases h1 : okC keep c = true
    · rw [conv_ok keep false c r h1, unesc_plain, ih]
      have : c ≠ 37 := by rintro rfl; rw [h] at h1; cases h1
      cases e : codedL (c :: conv keep false r) with
      | false => rfl
      | true => exact absurd (coded_shape _ _ e).choose_spec.choose_spec.choose_spec.1 this
    · have e : conv keep false (c :: r) = pct c ++ conv keep false r := by rw [conv, if_neg (by simp [h1])]
      rw [e]
      have h3 := pct_coded c (conv keep false r)
      simp only [pct, List.cons_append, List.nil_append] at h3 ⊢
      rw [unesc_coded _ _ _ _ h3, hexByte_dig, ih]
theorem unesc_len (l : List UInt8) : (unescL l).length ≤ l.length := by
  suffices h : ∀ n (l : List UInt8), l.length ≤ n → (unescL l).length ≤ l.length from h _ l (Nat.le_refl _)
  intro n
  induction n with
  | zero => intro l hl; obtain rfl := List.eq_nil_of_length_eq_zero (Nat.le_zero.1 hl); simp [unescL]
  | succ n ih =>
    intro l hl
    match l with
    | [] => simp [unescL]
    | c :: r =>
      simp only [List.length_cons] at hl
      cases e : codedL (c :: r) with
      | false => rw [unesc_plain c r e]; have := ih r (by omega); simp; omega
      | true =>
        obtain ⟨a, b, t, rfl, rfl⟩ := coded_shape c r e
        rw [unesc_coded _ _ _ _ e]
        have := ih t (by simp at hl; omega)
        simp; omega
end Go.Proofs.YtjdhaacmlpegoaaGreatDoor
