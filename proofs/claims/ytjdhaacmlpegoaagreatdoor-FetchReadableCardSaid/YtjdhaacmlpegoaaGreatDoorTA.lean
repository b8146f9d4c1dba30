/- Fetch: methods, addresses of the network. -/
import Derived.Test.YtjdhaacmlpegoaaGreatDoorB6
import Derived.Test.YtjdhaacmlpegoaaGreatDoorB5
namespace Go.Proofs.YtjdhaacmlpegoaaGreatDoor
set_option linter.unusedVariables false
set_option linter.unusedSimpArgs false
open Go.RowKit

theorem format_is4 (a b c d e f t : ByteArray) (w : World) (ha : a.size ≤ 1000000) (hb : b.size ≤ 1000000) (hc : c.size ≤ 1000000) (hd : d.size ≤ 1000000) (he : e.size ≤ 1000000) (hf : f.size ≤ 1000000) (ht : t.data.toList = formatL (a.data.toList, b.data.toList, c.data.toList, d.data.toList, e.data.toList, f.data.toList)) :
    Calls Tryz.prog 104 #[.agg #[.string a, .string b, .string c, .string d, .string e, .string f]] w fun x w' => x = .returned (.string t) ∧ Below w.heap.size w w' := by
  refine (format_any a b c d e f w ha hb hc hd he hf).mono ?_
  rintro x w' ⟨u, rfl, hu, hb⟩
  exact ⟨by rw [byteArray_ext (hu.trans ht.symm)], hb⟩
theorem parse_some4 (t : ByteArray) (w : World) (hs : t.size ≤ 300000) (hM : MaxAt w) (a b c d e f : ByteArray) (h : parseL t.data.toList = some (a.data.toList, b.data.toList, c.data.toList, d.data.toList, e.data.toList, f.data.toList)) :
    Calls Tryz.prog 28 #[.string t] w fun x w' => x = .returned (.tuple #[.agg #[.string a, .string b, .string c, .string d, .string e, .string f], .int .i64 0]) ∧ Below w.heap.size w w' := by
  have := parse_any t w hs hM
  rw [h] at this
  exact this
theorem valid_is4 (a b c d e f : ByteArray) (w : World) (ha : a.size ≤ 40000) (hb : b.size ≤ 40000) (hc : c.size ≤ 40000) (hd : d.size ≤ 40000) (he : e.size ≤ 40000) (hf : f.size ≤ 40000) (hM : MaxAt w) (B : Bool) (hB : validB (a.data.toList, b.data.toList, c.data.toList, d.data.toList, e.data.toList, f.data.toList) = B) :
    Calls Tryz.prog 49 #[.agg #[.string a, .string b, .string c, .string d, .string e, .string f]] w fun x w' => x = .returned (.bool B) ∧ Below w.heap.size w w' := by
  rw [← hB]; exact valid_any a b c d e f w ha hb hc hd he hf hM
theorem rvalid_is4 (a b c d e f : ByteArray) (w : World) (ha : a.size ≤ 40000) (hb : b.size ≤ 40000) (hc : c.size ≤ 40000) (hd : d.size ≤ 40000) (he : e.size ≤ 40000) (hf : f.size ≤ 40000) (hM : MaxAt w) (B : Bool) (hB : validB (a.data.toList, b.data.toList, c.data.toList, d.data.toList, e.data.toList, f.data.toList) = B) :
    Calls Tryz.prog 56 #[.agg #[.string a, .string b, .string c, .string d, .string e, .string f]] w fun x w' => x = .returned (.bool B) ∧ Below w.heap.size w w' := by
  rw [← hB]; exact rvalid_any a b c d e f w ha hb hc hd he hf hM
theorem list_bytes44 (l : List UInt8) : ∃ t : ByteArray, t.data.toList = l := ⟨⟨l.toArray⟩, rfl⟩
/-- the methods -/
def methL : List ByteArray := [⟨#[71, 69, 84]⟩, ⟨#[72, 69, 65, 68]⟩, ⟨#[80, 79, 83, 84]⟩, ⟨#[80, 85, 84]⟩, ⟨#[68, 69, 76, 69, 84, 69]⟩]
def knownB (m : ByteArray) : Bool := Lib.containsS methL m
theorem known_or (m : ByteArray) : knownB m = ((m.toList == [71, 69, 84]) || ((m.toList == [72, 69, 65, 68]) || ((m.toList == [80, 79, 83, 84]) || ((m.toList == [80, 85, 84]) || (m.toList == [68, 69, 76, 69, 84, 69]))))) := by
  have k : ∀ (l : List UInt8), (m.toList == l) = true ↔ m = ⟨l.toArray⟩ := fun l => by
    rw [beq_iff_eq, ByteArray.toList_eq]
    constructor
    · intro h; exact ba_ext' h
    · rintro rfl; rfl
  rw [Bool.eq_iff_iff]
  simp only [Bool.or_eq_true, k]
  unfold knownB
  rw [Lib.containsS_iff]
  unfold methL
  simp only [List.mem_cons, List.not_mem_nil, or_false]
theorem known_is (m : ByteArray) (w : World) (R : Bool) (hR : knownB m = R) :
    Calls Tryz.prog 48 #[.string m] w fun e w' => e = .returned (.bool R) ∧ Below w.heap.size w w' := by
  have hb := (Below.refl _ w).alloc (Nat.le_refl _) (.cells (methL.map Value.string).toArray 9)
  have A := AtL.new w (methL.map Value.string) 9
  have CC := Lib.hid (Tryz.slices_Contains_string w.heap.size 0 5 5 methL m (w.alloc (.cells (methL.map Value.string).toArray 9)) (Nat.le_refl _) (by decide) (fun j hj => by rw [Nat.zero_add]; exact A.c j (by rw [List.getElem?_map, List.getElem?_eq_getElem hj, List.getD_eq_getElem?_getD, List.getElem?_eq_getElem hj]; rfl)))
  have HR : Hid (((methL.take 5).any fun y => Lib.containsS [y] m) = true ∨ True) := Lib.hid (Or.inr trivial)
  have HR2 := Lib.hid hR
  clear hR A
  go_enter Tryz.func48, Tryz.ntmps48
  go_wp2_with (go_at_call 103; refine CC.out.mono ?_; rintro e w4 ⟨rfl, rfl⟩)
  go_ret
  exact ⟨ret_bool (by rw [← HR2.out]; rfl), hb⟩
theorem rknown_is (m : ByteArray) (w : World) (R : Bool) (hR : knownB m = R) :
    Calls Tryz.prog 54 #[.string m] w fun e w' => e = .returned (.bool R) ∧ w = w' := by
  rw [known_or] at hR
  cases h1 : (m.toList == [71, 69, 84]) with
  | true =>
    rw [h1] at hR; subst hR
    go_enter Tryz.func54, Tryz.ntmps54
    go_wp2_with fail
    go_ret
    exact ⟨rfl, rfl⟩
  | false =>
    cases h2 : (m.toList == [72, 69, 65, 68]) with
    | true =>
      rw [h1, h2] at hR; subst hR
      go_enter Tryz.func54, Tryz.ntmps54
      go_wp2_with fail
      go_ret
      exact ⟨rfl, rfl⟩
    | false =>
      cases h3 : (m.toList == [80, 79, 83, 84]) with
      | true =>
        rw [h1, h2, h3] at hR; subst hR
        go_enter Tryz.func54, Tryz.ntmps54
        go_wp2_with fail
        go_ret
        exact ⟨rfl, rfl⟩
      | false =>
        cases h4 : (m.toList == [80, 85, 84]) with
        | true =>
          rw [h1, h2, h3, h4] at hR; subst hR
          go_enter Tryz.func54, Tryz.ntmps54
          go_wp2_with fail
          go_ret
          exact ⟨rfl, rfl⟩
        | false =>
          obtain ⟨b5, h5⟩ : ∃ b5, (m.toList == [68, 69, 76, 69, 84, 69]) = b5 := ⟨_, rfl⟩
          rw [h1, h2, h3, h4, h5] at hR
          have hR : b5 = R := by simpa using hR
          subst hR
          go_enter Tryz.func54, Tryz.ntmps54
          go_wp2_with fail
          go_ret
          exact ⟨rfl, rfl⟩
def webB (a : ByteArray) : Bool := (a.toList == [104, 116, 116, 112]) || (a.toList == [104, 116, 116, 112, 115])
/-- a valid address is one of the network, or its scheme is about -/
theorem web_valid (a b c d e f : ByteArray) : (webB a && validB (a.data.toList, b.data.toList, c.data.toList, d.data.toList, e.data.toList, f.data.toList)) = ((a.toList != [97, 98, 111, 117, 116]) && validB (a.data.toList, b.data.toList, c.data.toList, d.data.toList, e.data.toList, f.data.toList)) := by
  cases hv : validB (a.data.toList, b.data.toList, c.data.toList, d.data.toList, e.data.toList, f.data.toList) with
  | false => simp
  | true =>
    rw [Bool.and_true, Bool.and_true]
    unfold webB
    rw [ByteArray.toList_eq]
    rcases valid_cases ((valid_iff _).1 hv) with ⟨p, g, h, _⟩ | ⟨n, q1, q2, q3, q4, q5, h, s⟩
    · have h1 : a.data.toList = aboutL := (Prod.mk.inj h).1
      rw [h1]; decide
    · have h1 : a.data.toList = n := (Prod.mk.inj h).1
      rw [h1]
      rcases s.sch with rfl | rfl <;> decide
theorem web_is (a b c d e f : ByteArray) (w : World) (R : Bool) (hR : webB a = R) :
    Calls Tryz.prog 50 #[.agg #[.string a, .string b, .string c, .string d, .string e, .string f]] w fun x w' => x = .returned (.bool R) ∧ Below w.heap.size w w' := by
  have hb := (Below.refl _ w).alloc (Nat.le_refl _) (.cells [.string a, .string b, .string c, .string d, .string e, .string f].toArray 37)
  have A := AtL.new w [.string a, .string b, .string c, .string d, .string e, .string f] 37
  unfold webB at hR
  cases h1 : (a.toList == [104, 116, 116, 112]) with
  | true =>
    rw [h1] at hR; subst hR
    go_enter Tryz.func50, Tryz.ntmps50
    go_wp2_with fail
    go_ret
    exact ⟨rfl, hb⟩
  | false =>
    obtain ⟨b5, h5⟩ : ∃ b5, (a.toList == [104, 116, 116, 112, 115]) = b5 := ⟨_, rfl⟩
    rw [h1, h5] at hR
    have hR : b5 = R := by simpa using hR
    subst hR
    go_enter Tryz.func50, Tryz.ntmps50
    go_wp2_with fail
    go_ret
    exact ⟨rfl, hb⟩
theorem rweb_is (a b c d e f : ByteArray) (w : World) (hM : MaxAt w) (ha : a.size ≤ 40000) (hb : b.size ≤ 40000) (hc : c.size ≤ 40000) (hd : d.size ≤ 40000) (he : e.size ≤ 40000) (hf : f.size ≤ 40000) (R : Bool) (hR : (webB a && validB (a.data.toList, b.data.toList, c.data.toList, d.data.toList, e.data.toList, f.data.toList)) = R) :
    Calls Tryz.prog 55 #[.agg #[.string a, .string b, .string c, .string d, .string e, .string f]] w fun x w' => x = .returned (.bool R) ∧ Below w.heap.size w w' := by
  rw [web_valid] at hR
  have hb0 := (Below.refl _ w).alloc (Nat.le_refl _) (.cells [.string a, .string b, .string c, .string d, .string e, .string f].toArray 37)
  obtain ⟨B, hB⟩ : ∃ B, validB (a.data.toList, b.data.toList, c.data.toList, d.data.toList, e.data.toList, f.data.toList) = B := ⟨_, rfl⟩
  have CV := Lib.hid (rvalid_is4 a b c d e f _ ha hb hc hd he hf (hM.below hb0 (Nat.le_refl _)) B hB)
  rw [hB] at hR
  clear hB hM
  cases h1 : (a.toList == [97, 98, 111, 117, 116]) with
  | true =>
    have h2 : (a.toList != [97, 98, 111, 117, 116]) = false := by simp only [bne]; rw [h1]; rfl
    rw [h2] at hR
    have hR : false = R := by simpa using hR
    subst hR
    clear h2
    go_enter Tryz.func55, Tryz.ntmps55
    go_wp2_with fail
    go_ret
    exact ⟨rfl, hb0⟩
  | false =>
    have h2 : (a.toList != [97, 98, 111, 117, 116]) = true := by simp only [bne]; rw [h1]; rfl
    rw [h2] at hR
    have hR : B = R := by simpa using hR
    subst hR
    go_enter Tryz.func55, Tryz.ntmps55
    go_wp2_with (go_at_call 56; (with_reducible refine CV.out.mono ?_); rintro e w4 ⟨rfl, hb4⟩)
    go_ret
    exact ⟨rfl, hb0.trans (hb4.mono hb0.size)⟩
end Go.Proofs.YtjdhaacmlpegoaaGreatDoor
