/- The reference's Valid. -/
import Derived.Test.YtjdhaacmlpegoaaGreatDoorLV
import Derived.Test.YtjdhaacmlpegoaaGreatDoorUZ
namespace Go.Proofs.YtjdhaacmlpegoaaGreatDoor
set_option linter.unusedVariables false
set_option linter.unusedSimpArgs false
open Go.RowKit

set_option maxRecDepth 20000 in
set_option maxHeartbeats 1000000 in
theorem rvalid_any (a b c d e f : ByteArray) (w : World) (ha : a.size ≤ 40000) (hb : b.size ≤ 40000) (hc : c.size ≤ 40000) (hd : d.size ≤ 40000) (he : e.size ≤ 40000) (hf : f.size ≤ 40000) (hM : MaxAt w) :
    Calls Tryz.prog 56 #[.agg #[.string a, .string b, .string c, .string d, .string e, .string f]] w fun e' w' => e' = .returned (.bool (validB (a.data.toList, b.data.toList, c.data.toList, d.data.toList, e.data.toList, f.data.toList))) ∧ Below w.heap.size w w' := by
  have cF := fun w => rformat_any a b c d e f w (by omega) (by omega) (by omega) (by omega) (by omega) (by omega)
  have hfl := format_len a b c d e f
  obtain ⟨FL, hFL⟩ : ∃ FL, formatL (a.data.toList, b.data.toList, c.data.toList, d.data.toList, e.data.toList, f.data.toList) = FL := ⟨_, rfl⟩
  have hv := validB_is (a.data.toList, b.data.toList, c.data.toList, d.data.toList, e.data.toList, f.data.toList)
  rw [hFL] at cF hfl hv
  have cP : ∀ t : ByteArray, t.data.toList = FL → ∀ w, MaxAt w → Calls Tryz.prog 91 #[.string t] w fun e' w' => e' = .returned (resB (parseL FL)) ∧ Below w.heap.size w w' := fun t ht w hM => by
    have := rparse_any t w (by have := size_of ht; omega) hM
    rwa [ht] at this
  have hB0 : Below w.heap.size w (w.alloc (.cells #[.string a, .string b, .string c, .string d, .string e, .string f] 37)) := (Below.refl _ w).alloc (Nat.le_refl _) _
  cases hR : parseL FL with
  | none =>
    rw [hR] at hv cP
    rw [hv]
    have cP2 : ∀ t : ByteArray, t.data.toList = FL → ∀ w, MaxAt w → Calls Tryz.prog 91 #[.string t] w fun e' w' => e' = .returned (.tuple #[.agg #[.string ⟨#[]⟩, .string ⟨#[]⟩, .string ⟨#[]⟩, .string ⟨#[]⟩, .string ⟨#[]⟩, .string ⟨#[]⟩], .bool false]) ∧ Below w.heap.size w w' := cP
    have CF := Lib.hid cF
    have CP := Lib.hid cP2
    clear cF cP cP2 hR hv hFL
    go_enter Tryz.func56, Tryz.ntmps56
    go_wp2_with (first
      | (go_at_call 105; with_reducible refine (CF.out _).mono ?_; rintro e' w1 ⟨t, rfl, ht, hb1⟩; have hB1 := hB0.trans (hb1.mono hB0.size); obtain ⟨hc1, hf1⟩ := bcell hb1; have hz1 : w.heap.size < w1.heap.size := (by have := hb1.size; simp at this; omega); have Ht := Lib.hid ht; clear ht)
      | (go_at_call 91; with_reducible refine (CP.out _ Ht.out _ (hM.below hB1 (Nat.le_refl _))).mono ?_; rintro e' w2 ⟨rfl, hb2⟩; have hB2 := hB1.trans (hb2.mono hB1.size); obtain ⟨hc2, hf2⟩ := bcell hb2; have hz2 : w.heap.size < w2.heap.size := (by have := hb2.size; omega)))
    go_ret
    exact ⟨rfl, hB2.alloc hB2.size _⟩
  | some v =>
    rw [hR] at hv cP
    obtain ⟨p1, p2, p3, p4, p5, p6⟩ := v
    have hv2 : validB (a.data.toList, b.data.toList, c.data.toList, d.data.toList, e.data.toList, f.data.toList) = eqU (p1, p2, p3, p4, p5, p6) (a.data.toList, b.data.toList, c.data.toList, d.data.toList, e.data.toList, f.data.toList) := hv
    rw [hv2]
    obtain ⟨r1, h1⟩ : ∃ r : ByteArray, ⟨p1.toArray⟩ = r := ⟨_, rfl⟩
    obtain ⟨r2, h2⟩ : ∃ r : ByteArray, ⟨p2.toArray⟩ = r := ⟨_, rfl⟩
    obtain ⟨r3, h3⟩ : ∃ r : ByteArray, ⟨p3.toArray⟩ = r := ⟨_, rfl⟩
    obtain ⟨r4, h4⟩ : ∃ r : ByteArray, ⟨p4.toArray⟩ = r := ⟨_, rfl⟩
    obtain ⟨r5, h5⟩ : ∃ r : ByteArray, ⟨p5.toArray⟩ = r := ⟨_, rfl⟩
    obtain ⟨r6, h6⟩ : ∃ r : ByteArray, ⟨p6.toArray⟩ = r := ⟨_, rfl⟩
    have cP2 : ∀ t : ByteArray, t.data.toList = FL → ∀ w, MaxAt w → Calls Tryz.prog 91 #[.string t] w fun e' w' => e' = .returned (.tuple #[.agg #[.string r1, .string r2, .string r3, .string r4, .string r5, .string r6], .bool true]) ∧ Below w.heap.size w w' := by
      rw [← h1, ← h2, ← h3, ← h4, ← h5, ← h6]; exact cP
    have e1 : eqU (p1, p2, p3, p4, p5, p6) (a.data.toList, b.data.toList, c.data.toList, d.data.toList, e.data.toList, f.data.toList) = ((r1.toList == a.toList) && (r2.toList == b.toList) && (r3.toList == c.toList) && (r4.toList == d.toList) && (r5.toList == e.toList) && (r6.toList == f.toList)) := by
      rw [← h1, ← h2, ← h3, ← h4, ← h5, ← h6]
      simp only [ByteArray.toList_eq, eqU]
    obtain ⟨B, hB⟩ : ∃ B, eqU (p1, p2, p3, p4, p5, p6) (a.data.toList, b.data.toList, c.data.toList, d.data.toList, e.data.toList, f.data.toList) = B := ⟨_, rfl⟩
    rw [hB] at e1 ⊢
    have E1 := Lib.hid e1
    have CF := Lib.hid cF
    have CP := Lib.hid cP2
    clear cF cP cP2 hR hv hv2 hFL e1 h1 h2 h3 h4 h5 h6 hB
    go_enter Tryz.func56, Tryz.ntmps56
    go_wp2_with (first
      | (go_at_call 105; with_reducible refine (CF.out _).mono ?_; rintro e' w1 ⟨t, rfl, ht, hb1⟩; have hB1 := hB0.trans (hb1.mono hB0.size); obtain ⟨hc1, hf1⟩ := bcell hb1; have hz1 : w.heap.size < w1.heap.size := (by have := hb1.size; simp at this; omega); have Ht := Lib.hid ht; clear ht)
      | (go_at_call 91; with_reducible refine (CP.out _ Ht.out _ (hM.below hB1 (Nat.le_refl _))).mono ?_; rintro e' w2 ⟨rfl, hb2⟩; have hB2 := hB1.trans (hb2.mono hB1.size); obtain ⟨hc2, hf2⟩ := bcell hb2; have hz2 : w.heap.size < w2.heap.size := (by have := hb2.size; omega)))
    all_goals
      go_ret
      exact ⟨ret_bool (by rw [E1.out]; simp [*]), hB2.alloc hB2.size _⟩
end Go.Proofs.YtjdhaacmlpegoaaGreatDoor
