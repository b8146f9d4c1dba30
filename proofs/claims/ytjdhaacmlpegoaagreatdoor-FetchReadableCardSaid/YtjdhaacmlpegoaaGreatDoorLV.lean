/- Valid (both packages): an address is its own parsed text. -/
import Derived.Test.YtjdhaacmlpegoaaGreatDoorLA
import Derived.Test.YtjdhaacmlpegoaaGreatDoorUS
import Derived.Test.YtjdhaacmlpegoaaGreatDoorLP
namespace Go.Proofs.YtjdhaacmlpegoaaGreatDoor
set_option linter.unusedVariables false
set_option linter.unusedSimpArgs false
open Go.RowKit

def eqU (u v : U6) : Bool := u.1 == v.1 && u.2.1 == v.2.1 && u.2.2.1 == v.2.2.1 && u.2.2.2.1 == v.2.2.2.1 && u.2.2.2.2.1 == v.2.2.2.2.1 && u.2.2.2.2.2 == v.2.2.2.2.2
theorem eqU_iff (u v : U6) : eqU u v = true ↔ u = v := by
  obtain ⟨a, b, c, d, e, f⟩ := u
  obtain ⟨a', b', c', d', e', f'⟩ := v
  simp only [eqU, Bool.and_eq_true, beq_iff_eq, Prod.mk.injEq]
  constructor
  · rintro ⟨⟨⟨⟨⟨h1, h2⟩, h3⟩, h4⟩, h5⟩, h6⟩; exact ⟨h1, h2, h3, h4, h5, h6⟩
  · rintro ⟨h1, h2, h3, h4, h5, h6⟩; exact ⟨⟨⟨⟨⟨h1, h2⟩, h3⟩, h4⟩, h5⟩, h6⟩
/-- parsed from its own text -/
def validB (u : U6) : Bool := match parseL (formatL u) with
  | none => false
  | some v => eqU v u
theorem validB_is (u : U6) : validB u = match parseL (formatL u) with
  | none => false
  | some v => eqU v u := rfl
theorem valid_iff (u : U6) : validB u = true ↔ parseL (formatL u) = some u := by
  unfold validB
  cases parseL (formatL u) with
  | none => simp
  | some v => simp [eqU_iff]
theorem format_len (a b c d e f : ByteArray) : (formatL (a.data.toList, b.data.toList, c.data.toList, d.data.toList, e.data.toList, f.data.toList)).length ≤ a.size + b.size + c.size + d.size + e.size + f.size + 20 := by
  have h := site_len a b c d e f
  have ht : ∀ (x : UInt8) (s : ByteArray), (tailL x s.data.toList).length ≤ s.size + 1 := fun x s => by unfold tailL; split <;> simp
  have h1 := ht 63 e
  have h2 := ht 35 f
  unfold formatL
  rw [List.length_append]
  split
  · next h0 =>
    have h0' : a.data.toList = aboutL := h0
    have : a.size = 5 := by rw [← size_len, h0']; rfl
    simp only [List.length_append, List.length_cons, List.length_nil, size_len]; omega
  · simp only [List.length_append, size_len]; omega
set_option maxRecDepth 20000 in
set_option maxHeartbeats 1000000 in
theorem valid_any (a b c d e f : ByteArray) (w : World) (ha : a.size ≤ 40000) (hb : b.size ≤ 40000) (hc : c.size ≤ 40000) (hd : d.size ≤ 40000) (he : e.size ≤ 40000) (hf : f.size ≤ 40000) (hM : MaxAt w) :
    Calls Tryz.prog 49 #[.agg #[.string a, .string b, .string c, .string d, .string e, .string f]] w fun e' w' => e' = .returned (.bool (validB (a.data.toList, b.data.toList, c.data.toList, d.data.toList, e.data.toList, f.data.toList))) ∧ Below w.heap.size w w' := by
  have cF := fun w => format_any a b c d e f w (by omega) (by omega) (by omega) (by omega) (by omega) (by omega)
  have hfl := format_len a b c d e f
  obtain ⟨FL, hFL⟩ : ∃ FL, formatL (a.data.toList, b.data.toList, c.data.toList, d.data.toList, e.data.toList, f.data.toList) = FL := ⟨_, rfl⟩
  have hv := validB_is (a.data.toList, b.data.toList, c.data.toList, d.data.toList, e.data.toList, f.data.toList)
  rw [hFL] at cF hfl hv
  have cP : ∀ t : ByteArray, t.data.toList = FL → ∀ w, MaxAt w → Calls Tryz.prog 28 #[.string t] w fun e' w' => e' = .returned (resV (parseL FL)) ∧ Below w.heap.size w w' := fun t ht w hM => by
    have := parse_any t w (by have := size_of ht; omega) hM
    rwa [ht] at this
  have hB0 : Below w.heap.size w (w.alloc (.cells #[.string a, .string b, .string c, .string d, .string e, .string f] 37)) := (Below.refl _ w).alloc (Nat.le_refl _) _
  cases hR : parseL FL with
  | none =>
    rw [hR] at hv cP
    rw [hv]
    have cP2 : ∀ t : ByteArray, t.data.toList = FL → ∀ w, MaxAt w → Calls Tryz.prog 28 #[.string t] w fun e' w' => e' = .returned (.tuple #[.agg #[.string ⟨#[]⟩, .string ⟨#[]⟩, .string ⟨#[]⟩, .string ⟨#[]⟩, .string ⟨#[]⟩, .string ⟨#[]⟩], .int .i64 4]) ∧ Below w.heap.size w w' := cP
    have CF := Lib.hid cF
    have CP := Lib.hid cP2
    clear cF cP cP2 hR hv hFL
    go_enter Tryz.func49, Tryz.ntmps49
    go_wp2_with (first
      | (go_at_call 104; with_reducible refine (CF.out _).mono ?_; rintro e' w1 ⟨t, rfl, ht, hb1⟩; have hB1 := hB0.trans (hb1.mono hB0.size); obtain ⟨hc1, hf1⟩ := bcell hb1; have hz1 : w.heap.size < w1.heap.size := (by have := hb1.size; simp at this; omega); have Ht := Lib.hid ht; clear ht)
      | (go_at_call 28; with_reducible refine (CP.out _ Ht.out _ (hM.below hB1 (Nat.le_refl _))).mono ?_; rintro e' w2 ⟨rfl, hb2⟩; have hB2 := hB1.trans (hb2.mono hB1.size); obtain ⟨hc2, hf2⟩ := bcell hb2; have hz2 : w.heap.size < w2.heap.size := (by have := hb2.size; omega)))
    go_ret
    exact ⟨rfl, hB2.alloc hB2.size _⟩
  | some v =>
    rw [hR] at hv cP
    obtain ⟨p1, p2, p3, p4, p5, p6⟩ := v
    have hv2 : validB (a.data.toList, b.data.toList, c.data.toList, d.data.toList, e.data.toList, f.data.toList) = eqU (p1, p2, p3, p4, p5, p6) (a.data.toList, b.data.toList, c.data.toList, d.data.toList, e.data.toList, f.data.toList) := hv
    rw [hv2]
    obtain ⟨r1, h1⟩ : ∃ r : ByteArray, ⟨p1.toArray⟩ = r := ⟨_, rfl⟩
    obtain ⟨r2, h2⟩ : ∃ r : ByteArray, ⟨p2.toArray⟩ = r := ⟨_, rfl⟩
    obtain ⟨r3, h3⟩ : ∃ r : ByteArray, ⟨p3.toArray⟩ = r := ⟨_, rfl⟩
    obtain ⟨r4, h4⟩ : ∃ r : ByteArray, ⟨p4.toArray⟩ = r := ⟨_, rfl⟩
    obtain ⟨r5, h5⟩ : ∃ r : ByteArray, ⟨p5.toArray⟩ = r := ⟨_, rfl⟩
    obtain ⟨r6, h6⟩ : ∃ r : ByteArray, ⟨p6.toArray⟩ = r := ⟨_, rfl⟩
    have cP2 : ∀ t : ByteArray, t.data.toList = FL → ∀ w, MaxAt w → Calls Tryz.prog 28 #[.string t] w fun e' w' => e' = .returned (.tuple #[.agg #[.string r1, .string r2, .string r3, .string r4, .string r5, .string r6], .int .i64 0]) ∧ Below w.heap.size w w' := by
      rw [← h1, ← h2, ← h3, ← h4, ← h5, ← h6]; exact cP
    have e1 : eqU (p1, p2, p3, p4, p5, p6) (a.data.toList, b.data.toList, c.data.toList, d.data.toList, e.data.toList, f.data.toList) = ((r1.toList == a.toList) && (r2.toList == b.toList) && (r3.toList == c.toList) && (r4.toList == d.toList) && (r5.toList == e.toList) && (r6.toList == f.toList)) := by
      rw [← h1, ← h2, ← h3, ← h4, ← h5, ← h6]
      simp only [ByteArray.toList_eq, eqU]
    obtain ⟨B, hB⟩ : ∃ B, eqU (p1, p2, p3, p4, p5, p6) (a.data.toList, b.data.toList, c.data.toList, d.data.toList, e.data.toList, f.data.toList) = B := ⟨_, rfl⟩
    rw [hB] at e1 ⊢
    have E1 := Lib.hid e1
    have CF := Lib.hid cF
    have CP := Lib.hid cP2
    clear cF cP cP2 hR hv hv2 hFL e1 h1 h2 h3 h4 h5 h6 hB
    go_enter Tryz.func49, Tryz.ntmps49
    go_wp2_with (first
      | (go_at_call 104; with_reducible refine (CF.out _).mono ?_; rintro e' w1 ⟨t, rfl, ht, hb1⟩; have hB1 := hB0.trans (hb1.mono hB0.size); obtain ⟨hc1, hf1⟩ := bcell hb1; have hz1 : w.heap.size < w1.heap.size := (by have := hb1.size; simp at this; omega); have Ht := Lib.hid ht; clear ht)
      | (go_at_call 28; with_reducible refine (CP.out _ Ht.out _ (hM.below hB1 (Nat.le_refl _))).mono ?_; rintro e' w2 ⟨rfl, hb2⟩; have hB2 := hB1.trans (hb2.mono hB1.size); obtain ⟨hc2, hf2⟩ := bcell hb2; have hz2 : w.heap.size < w2.heap.size := (by have := hb2.size; omega)))
    all_goals
      go_ret
      exact ⟨ret_bool (by rw [E1.out]; simp [*]), hB2.alloc hB2.size _⟩
end Go.Proofs.YtjdhaacmlpegoaaGreatDoor
