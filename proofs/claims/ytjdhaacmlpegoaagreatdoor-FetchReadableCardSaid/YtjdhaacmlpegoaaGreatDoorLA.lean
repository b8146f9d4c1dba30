/- Format and site: the texts of an address (both packages). -/
import Derived.Test.YtjdhaacmlpegoaaGreatDoorUR
import Derived.Deep.RegionHeld3
namespace Go.Proofs.YtjdhaacmlpegoaaGreatDoor
set_option linter.unusedVariables false
set_option linter.unusedSimpArgs false
open Go.RowKit

/-- scheme, host and port -/
def placeL (u : U6) : List UInt8 := u.1 ++ 58 :: 47 :: 47 :: u.2.1 ++ (if u.2.2.1 = [] then [] else 58 :: u.2.2.1)
def tailL (c : UInt8) (l : List UInt8) : List UInt8 := if l = [] then [] else c :: l
def formatL (u : U6) : List UInt8 := (if u.1 = aboutL then aboutL ++ 58 :: u.2.2.2.1 else placeL u ++ u.2.2.2.1 ++ tailL 63 u.2.2.2.2.1) ++ tailL 35 u.2.2.2.2.2
theorem list_empty {s : ByteArray} (h : s.size = 0) : s.data.toList = [] := List.eq_nil_of_length_eq_zero (by rw [size_len]; exact h)
theorem list_ne {s : ByteArray} (h : ¬ s.size = 0) : s.data.toList ≠ [] := fun e => h (by rw [← size_len, e]; rfl)
theorem snext6 {w1 wX w3 : World} {b : Nat} {v0 v1 v2 v3 v4 v5 : Value} (hb : b < w1.heap.size) (h : wX.cell? ⟨b, 0, none⟩ = some v0 ∧ wX.cell? ⟨b, 1, none⟩ = some v1 ∧ wX.cell? ⟨b, 2, none⟩ = some v2 ∧ wX.cell? ⟨b, 3, none⟩ = some v3 ∧ wX.cell? ⟨b, 4, none⟩ = some v4 ∧ wX.cell? ⟨b, 5, none⟩ = some v5 ∧ Below w1.heap.size w1 wX) (h3 : Below wX.heap.size wX w3) :
    w3.cell? ⟨b, 0, none⟩ = some v0 ∧ w3.cell? ⟨b, 1, none⟩ = some v1 ∧ w3.cell? ⟨b, 2, none⟩ = some v2 ∧ w3.cell? ⟨b, 3, none⟩ = some v3 ∧ w3.cell? ⟨b, 4, none⟩ = some v4 ∧ w3.cell? ⟨b, 5, none⟩ = some v5 ∧ Below w1.heap.size w1 w3 := by
  obtain ⟨h0, h1, h2, h4, h5, h6, hw⟩ := h
  have hb' := Nat.lt_of_lt_of_le hb hw.size
  exact ⟨(h3.cell (p := ⟨b, 0, none⟩) hb').trans h0, (h3.cell (p := ⟨b, 1, none⟩) hb').trans h1, (h3.cell (p := ⟨b, 2, none⟩) hb').trans h2, (h3.cell (p := ⟨b, 3, none⟩) hb').trans h4, (h3.cell (p := ⟨b, 4, none⟩) hb').trans h5, (h3.cell (p := ⟨b, 5, none⟩) hb').trans h6, hw.trans (h3.mono hw.size)⟩
theorem new6 (w : World) (a b c d e f : Value) (T : TypeId) : let W := w.alloc (.cells #[a, b, c, d, e, f] T); W.cell? ⟨w.heap.size, 0, none⟩ = some a ∧ W.cell? ⟨w.heap.size, 1, none⟩ = some b ∧ W.cell? ⟨w.heap.size, 2, none⟩ = some c ∧ W.cell? ⟨w.heap.size, 3, none⟩ = some d ∧ W.cell? ⟨w.heap.size, 4, none⟩ = some e ∧ W.cell? ⟨w.heap.size, 5, none⟩ = some f := by simp
set_option maxRecDepth 20000 in
set_option maxHeartbeats 1000000 in
theorem site_any (a b c d e f : ByteArray) (w : World) (ha : a.size ≤ 1000000) (hb : b.size ≤ 1000000) (hc : c.size ≤ 1000000) :
    Calls Tryz.prog 68 #[.agg #[.string a, .string b, .string c, .string d, .string e, .string f]] w fun e' w' => ∃ t : ByteArray, e' = .returned (.string t) ∧ t.data.toList = placeL (a.data.toList, b.data.toList, c.data.toList, d.data.toList, e.data.toList, f.data.toList) ∧ Below w.heap.size w w' := by
  by_cases h0 : c.size = 0
  · have hE := empty_of c h0
    have hl := Lib.hid (list_empty h0)
    have hz : (c.size : Int) = 0 := by omega
    clear h0
    go_enter Tryz.func68, Tryz.ntmps68
    go_wp2_with fail
    go_ret
    exact ⟨_, rfl, by rw [placeL, if_pos hl.out]; simp, (Below.refl _ w).alloc (Nat.le_refl _) _⟩
  · have hE := nonempty_of c (by omega)
    have hl := Lib.hid (list_ne h0)
    clear h0
    go_enter Tryz.func68, Tryz.ntmps68
    go_wp2_with fail
    go_ret
    exact ⟨_, rfl, by rw [placeL, if_neg hl.out]; simp, (Below.refl _ w).alloc (Nat.le_refl _) _⟩
theorem site_len (a b c d e f : ByteArray) : (placeL (a.data.toList, b.data.toList, c.data.toList, d.data.toList, e.data.toList, f.data.toList)).length ≤ a.size + b.size + c.size + 4 := by
  unfold placeL
  simp only [List.length_append, List.length_cons, size_len]
  split <;> simp <;> omega
set_option maxRecDepth 20000 in
set_option maxHeartbeats 1000000 in
theorem format_any (a b c d e f : ByteArray) (w : World) (ha : a.size ≤ 1000000) (hb : b.size ≤ 1000000) (hc : c.size ≤ 1000000) (hd : d.size ≤ 1000000) (he : e.size ≤ 1000000) (hf : f.size ≤ 1000000) :
    Calls Tryz.prog 104 #[.agg #[.string a, .string b, .string c, .string d, .string e, .string f]] w fun e' w' => ∃ t : ByteArray, e' = .returned (.string t) ∧ t.data.toList = formatL (a.data.toList, b.data.toList, c.data.toList, d.data.toList, e.data.toList, f.data.toList) ∧ Below w.heap.size w w' := by
  obtain ⟨R, hR⟩ : ∃ R, formatL (a.data.toList, b.data.toList, c.data.toList, d.data.toList, e.data.toList, f.data.toList) = R := ⟨_, rfl⟩
  rw [hR]
  unfold formatL tailL at hR
  have hB0 : Below w.heap.size w (w.alloc (.cells #[.string a, .string b, .string c, .string d, .string e, .string f] 37)) := (Below.refl _ w).alloc (Nat.le_refl _) _
  have hpl := site_len a b c d e f
  by_cases h1 : a.data.toList = aboutL
  · have n1 : (a.toList == [97, 98, 111, 117, 116]) = true := by rw [str_beq]; exact decide_eq_true h1
    simp only [h1, if_true] at hR
    by_cases h0 : f.size = 0
    · have hE := empty_of f h0
      rw [if_pos (list_empty h0)] at hR
      have HR := Lib.hid hR
      have hz : (f.size : Int) = 0 := by omega
      clear hR h1 h0
      go_enter Tryz.func104, Tryz.ntmps104
      go_wp2_with fail
      go_ret
      exact ⟨_, rfl, by rw [← HR.out]; simp, hB0⟩
    · have hE := nonempty_of f (by omega)
      rw [if_neg (list_ne h0)] at hR
      have HR := Lib.hid hR
      clear hR h1 h0
      go_enter Tryz.func104, Tryz.ntmps104
      go_wp2_with fail
      go_ret
      exact ⟨_, rfl, by rw [← HR.out]; simp, hB0⟩
  · have n1 : (a.toList == [97, 98, 111, 117, 116]) = false := by rw [str_beq]; exact decide_eq_false h1
    simp only [h1, if_false] at hR
    have cS := fun w => site_any a b c d e f w ha hb hc
    obtain ⟨PP, hPP⟩ : ∃ PP, placeL (a.data.toList, b.data.toList, c.data.toList, d.data.toList, e.data.toList, f.data.toList) = PP := ⟨_, rfl⟩
    rw [hPP] at cS hpl hR
    obtain ⟨T, hT⟩ : ∃ T : ByteArray, ⟨PP.toArray⟩ = T := ⟨_, rfl⟩
    have hTl : T.data.toList = PP := by rw [← hT]
    have hTs := size_of hTl
    have cS2 : ∀ w, Calls Tryz.prog 68 #[.agg #[.string a, .string b, .string c, .string d, .string e, .string f]] w fun e' w' => e' = .returned (.string T) ∧ Below w.heap.size w w' := fun w => by
      refine (cS w).mono ?_
      rintro e' w' ⟨t, rfl, ht, hb⟩
      refine ⟨?_, hb⟩
      rw [strV_of ht, ← hT]; rfl
    rw [← hTs] at hpl
    have CS := Lib.hid cS2
    have HT := Lib.hid hTl
    clear cS cS2 hPP h1 hT hTl hTs
    by_cases h0 : f.size = 0
    · have hE := empty_of f h0
      rw [if_pos (list_empty h0)] at hR
      by_cases h2 : e.size = 0
      · have hE2 := empty_of e h2
        rw [if_pos (list_empty h2)] at hR
        have HR := Lib.hid hR
        clear hR h0 h2
        go_enter Tryz.func104, Tryz.ntmps104
        go_wp2_with fail
        obtain ⟨K, hK⟩ : ∃ K, w.heap.size = K := ⟨_, rfl⟩
        obtain ⟨wa, hwa⟩ : ∃ wa : World, w.alloc (.cells #[.string a, .string b, .string c, .string d, .string e, .string f] 37) = wa := ⟨_, rfl⟩
        obtain ⟨d0, d1, d2, d3, d4, d5⟩ := new6 w (.string a) (.string b) (.string c) (.string d) (.string e) (.string f) 37
        rw [hwa, hK] at d0 d1 d2 d3 d4 d5
        have hkl : K < wa.heap.size := by rw [← hwa, ← hK]; simp
        rw [hwa] at hB0
        rw [hwa, hK]
        clear hwa
        have hTd : ¬ 9223372036854775807 < T.size + d.size := by omega
        go_region_held3 (fun w' => w'.cell? ⟨K, 0, none⟩ = some (.string a) ∧ w'.cell? ⟨K, 1, none⟩ = some (.string b) ∧ w'.cell? ⟨K, 2, none⟩ = some (.string c) ∧ w'.cell? ⟨K, 3, none⟩ = some (.string d) ∧ w'.cell? ⟨K, 4, none⟩ = some (.string e) ∧ w'.cell? ⟨K, 5, none⟩ = some (.string f) ∧ Below wa.heap.size wa w') (first | exact ⟨d0, d1, d2, d3, d4, d5, (Below.refl _ wa).drew⟩ | (apply snext6 hkl; rotate_left; assumption; assumption) | go_keep) (first | (go_at_call 68; with_reducible refine (CS.out _).mono ?_; rintro e' w4 ⟨rfl, hb4⟩))
        obtain ⟨c0, c1, c2, c3, c4, c5, hb5⟩ : w4.cell? ⟨K, 0, none⟩ = some (.string a) ∧ w4.cell? ⟨K, 1, none⟩ = some (.string b) ∧ w4.cell? ⟨K, 2, none⟩ = some (.string c) ∧ w4.cell? ⟨K, 3, none⟩ = some (.string d) ∧ w4.cell? ⟨K, 4, none⟩ = some (.string e) ∧ w4.cell? ⟨K, 5, none⟩ = some (.string f) ∧ Below wa.heap.size wa w4 := by assumption
        clear d0 d1 d2 d3 d4 d5
        have hb6 := hB0.trans (hb5.mono hB0.size)
        go_wp2_with fail
        go_ret
        exact ⟨_, rfl, by rw [← HR.out, ← HT.out]; simp, hb6⟩
      · have hE2 := nonempty_of e (by omega)
        rw [if_neg (list_ne h2)] at hR
        have HR := Lib.hid hR
        clear hR h0 h2
        go_enter Tryz.func104, Tryz.ntmps104
        go_wp2_with fail
        obtain ⟨K, hK⟩ : ∃ K, w.heap.size = K := ⟨_, rfl⟩
        obtain ⟨wa, hwa⟩ : ∃ wa : World, w.alloc (.cells #[.string a, .string b, .string c, .string d, .string e, .string f] 37) = wa := ⟨_, rfl⟩
        obtain ⟨d0, d1, d2, d3, d4, d5⟩ := new6 w (.string a) (.string b) (.string c) (.string d) (.string e) (.string f) 37
        rw [hwa, hK] at d0 d1 d2 d3 d4 d5
        have hkl : K < wa.heap.size := by rw [← hwa, ← hK]; simp
        rw [hwa] at hB0
        rw [hwa, hK]
        clear hwa
        have hTd : ¬ 9223372036854775807 < T.size + d.size := by omega
        go_region_held3 (fun w' => w'.cell? ⟨K, 0, none⟩ = some (.string a) ∧ w'.cell? ⟨K, 1, none⟩ = some (.string b) ∧ w'.cell? ⟨K, 2, none⟩ = some (.string c) ∧ w'.cell? ⟨K, 3, none⟩ = some (.string d) ∧ w'.cell? ⟨K, 4, none⟩ = some (.string e) ∧ w'.cell? ⟨K, 5, none⟩ = some (.string f) ∧ Below wa.heap.size wa w') (first | exact ⟨d0, d1, d2, d3, d4, d5, (Below.refl _ wa).drew⟩ | (apply snext6 hkl; rotate_left; assumption; assumption) | go_keep) (first | (go_at_call 68; with_reducible refine (CS.out _).mono ?_; rintro e' w4 ⟨rfl, hb4⟩))
        obtain ⟨c0, c1, c2, c3, c4, c5, hb5⟩ : w4.cell? ⟨K, 0, none⟩ = some (.string a) ∧ w4.cell? ⟨K, 1, none⟩ = some (.string b) ∧ w4.cell? ⟨K, 2, none⟩ = some (.string c) ∧ w4.cell? ⟨K, 3, none⟩ = some (.string d) ∧ w4.cell? ⟨K, 4, none⟩ = some (.string e) ∧ w4.cell? ⟨K, 5, none⟩ = some (.string f) ∧ Below wa.heap.size wa w4 := by assumption
        clear d0 d1 d2 d3 d4 d5
        have hb6 := hB0.trans (hb5.mono hB0.size)
        go_wp2_with fail
        go_ret
        exact ⟨_, rfl, by rw [← HR.out, ← HT.out]; simp, hb6⟩
    · have hE := nonempty_of f (by omega)
      rw [if_neg (list_ne h0)] at hR
      by_cases h2 : e.size = 0
      · have hE2 := empty_of e h2
        rw [if_pos (list_empty h2)] at hR
        have HR := Lib.hid hR
        clear hR h0 h2
        go_enter Tryz.func104, Tryz.ntmps104
        go_wp2_with fail
        obtain ⟨K, hK⟩ : ∃ K, w.heap.size = K := ⟨_, rfl⟩
        obtain ⟨wa, hwa⟩ : ∃ wa : World, w.alloc (.cells #[.string a, .string b, .string c, .string d, .string e, .string f] 37) = wa := ⟨_, rfl⟩
        obtain ⟨d0, d1, d2, d3, d4, d5⟩ := new6 w (.string a) (.string b) (.string c) (.string d) (.string e) (.string f) 37
        rw [hwa, hK] at d0 d1 d2 d3 d4 d5
        have hkl : K < wa.heap.size := by rw [← hwa, ← hK]; simp
        rw [hwa] at hB0
        rw [hwa, hK]
        clear hwa
        have hTd : ¬ 9223372036854775807 < T.size + d.size := by omega
        go_region_held3 (fun w' => w'.cell? ⟨K, 0, none⟩ = some (.string a) ∧ w'.cell? ⟨K, 1, none⟩ = some (.string b) ∧ w'.cell? ⟨K, 2, none⟩ = some (.string c) ∧ w'.cell? ⟨K, 3, none⟩ = some (.string d) ∧ w'.cell? ⟨K, 4, none⟩ = some (.string e) ∧ w'.cell? ⟨K, 5, none⟩ = some (.string f) ∧ Below wa.heap.size wa w') (first | exact ⟨d0, d1, d2, d3, d4, d5, (Below.refl _ wa).drew⟩ | (apply snext6 hkl; rotate_left; assumption; assumption) | go_keep) (first | (go_at_call 68; with_reducible refine (CS.out _).mono ?_; rintro e' w4 ⟨rfl, hb4⟩))
        obtain ⟨c0, c1, c2, c3, c4, c5, hb5⟩ : w4.cell? ⟨K, 0, none⟩ = some (.string a) ∧ w4.cell? ⟨K, 1, none⟩ = some (.string b) ∧ w4.cell? ⟨K, 2, none⟩ = some (.string c) ∧ w4.cell? ⟨K, 3, none⟩ = some (.string d) ∧ w4.cell? ⟨K, 4, none⟩ = some (.string e) ∧ w4.cell? ⟨K, 5, none⟩ = some (.string f) ∧ Below wa.heap.size wa w4 := by assumption
        clear d0 d1 d2 d3 d4 d5
        have hb6 := hB0.trans (hb5.mono hB0.size)
        go_wp2_with fail
        go_ret
        exact ⟨_, rfl, by rw [← HR.out, ← HT.out]; simp, hb6⟩
      · have hE2 := nonempty_of e (by omega)
        rw [if_neg (list_ne h2)] at hR
        have HR := Lib.hid hR
        clear hR h0 h2
        go_enter Tryz.func104, Tryz.ntmps104
        go_wp2_with fail
        obtain ⟨K, hK⟩ : ∃ K, w.heap.size = K := ⟨_, rfl⟩
        obtain ⟨wa, hwa⟩ : ∃ wa : World, w.alloc (.cells #[.string a, .string b, .string c, .string d, .string e, .string f] 37) = wa := ⟨_, rfl⟩
        obtain ⟨d0, d1, d2, d3, d4, d5⟩ := new6 w (.string a) (.string b) (.string c) (.string d) (.string e) (.string f) 37
        rw [hwa, hK] at d0 d1 d2 d3 d4 d5
        have hkl : K < wa.heap.size := by rw [← hwa, ← hK]; simp
        rw [hwa] at hB0
        rw [hwa, hK]
        clear hwa
        have hTd : ¬ 9223372036854775807 < T.size + d.size := by omega
        go_region_held3 (fun w' => w'.cell? ⟨K, 0, none⟩ = some (.string a) ∧ w'.cell? ⟨K, 1, none⟩ = some (.string b) ∧ w'.cell? ⟨K, 2, none⟩ = some (.string c) ∧ w'.cell? ⟨K, 3, none⟩ = some (.string d) ∧ w'.cell? ⟨K, 4, none⟩ = some (.string e) ∧ w'.cell? ⟨K, 5, none⟩ = some (.string f) ∧ Below wa.heap.size wa w') (first | exact ⟨d0, d1, d2, d3, d4, d5, (Below.refl _ wa).drew⟩ | (apply snext6 hkl; rotate_left; assumption; assumption) | go_keep) (first | (go_at_call 68; with_reducible refine (CS.out _).mono ?_; rintro e' w4 ⟨rfl, hb4⟩))
        obtain ⟨c0, c1, c2, c3, c4, c5, hb5⟩ : w4.cell? ⟨K, 0, none⟩ = some (.string a) ∧ w4.cell? ⟨K, 1, none⟩ = some (.string b) ∧ w4.cell? ⟨K, 2, none⟩ = some (.string c) ∧ w4.cell? ⟨K, 3, none⟩ = some (.string d) ∧ w4.cell? ⟨K, 4, none⟩ = some (.string e) ∧ w4.cell? ⟨K, 5, none⟩ = some (.string f) ∧ Below wa.heap.size wa w4 := by assumption
        clear d0 d1 d2 d3 d4 d5
        have hb6 := hB0.trans (hb5.mono hB0.size)
        go_wp2_with fail
        go_ret
        exact ⟨_, rfl, by rw [← HR.out, ← HT.out]; simp, hb6⟩
set_option maxRecDepth 20000 in
set_option maxHeartbeats 1000000 in
theorem place_any (a b c d e f : ByteArray) (w : World) (ha : a.size ≤ 1000000) (hb : b.size ≤ 1000000) (hc : c.size ≤ 1000000) :
    Calls Tryz.prog 57 #[.agg #[.string a, .string b, .string c, .string d, .string e, .string f]] w fun e' w' => ∃ t : ByteArray, e' = .returned (.string t) ∧ t.data.toList = placeL (a.data.toList, b.data.toList, c.data.toList, d.data.toList, e.data.toList, f.data.toList) ∧ Below w.heap.size w w' := by
  by_cases h0 : c.size = 0
  · have hE := empty_of c h0
    have hl := Lib.hid (list_empty h0)
    have hz : (c.size : Int) = 0 := by omega
    clear h0
    go_enter Tryz.func57, Tryz.ntmps57
    go_wp2_with fail
    go_ret
    exact ⟨_, rfl, by rw [placeL, if_pos hl.out]; simp, (Below.refl _ w).alloc (Nat.le_refl _) _⟩
  · have hE := nonempty_of c (by omega)
    have hl := Lib.hid (list_ne h0)
    clear h0
    go_enter Tryz.func57, Tryz.ntmps57
    go_wp2_with fail
    go_ret
    exact ⟨_, rfl, by rw [placeL, if_neg hl.out]; simp, (Below.refl _ w).alloc (Nat.le_refl _) _⟩
theorem place_len (a b c d e f : ByteArray) : (placeL (a.data.toList, b.data.toList, c.data.toList, d.data.toList, e.data.toList, f.data.toList)).length ≤ a.size + b.size + c.size + 4 := by
  unfold placeL
  simp only [List.length_append, List.length_cons, size_len]
  split <;> simp <;> omega
set_option maxRecDepth 20000 in
set_option maxHeartbeats 1000000 in
theorem rformat_any (a b c d e f : ByteArray) (w : World) (ha : a.size ≤ 1000000) (hb : b.size ≤ 1000000) (hc : c.size ≤ 1000000) (hd : d.size ≤ 1000000) (he : e.size ≤ 1000000) (hf : f.size ≤ 1000000) :
    Calls Tryz.prog 105 #[.agg #[.string a, .string b, .string c, .string d, .string e, .string f]] w fun e' w' => ∃ t : ByteArray, e' = .returned (.string t) ∧ t.data.toList = formatL (a.data.toList, b.data.toList, c.data.toList, d.data.toList, e.data.toList, f.data.toList) ∧ Below w.heap.size w w' := by
  obtain ⟨R, hR⟩ : ∃ R, formatL (a.data.toList, b.data.toList, c.data.toList, d.data.toList, e.data.toList, f.data.toList) = R := ⟨_, rfl⟩
  rw [hR]
  unfold formatL tailL at hR
  have hB0 : Below w.heap.size w (w.alloc (.cells #[.string a, .string b, .string c, .string d, .string e, .string f] 37)) := (Below.refl _ w).alloc (Nat.le_refl _) _
  have hpl := place_len a b c d e f
  by_cases h1 : a.data.toList = aboutL
  · have n1 : (a.toList == [97, 98, 111, 117, 116]) = true := by rw [str_beq]; exact decide_eq_true h1
    simp only [h1, if_true] at hR
    by_cases h0 : f.size = 0
    · have hE := empty_of f h0
      rw [if_pos (list_empty h0)] at hR
      have HR := Lib.hid hR
      have hz : (f.size : Int) = 0 := by omega
      clear hR h1 h0
      go_enter Tryz.func105, Tryz.ntmps105
      go_wp2_with fail
      go_ret
      exact ⟨_, rfl, by rw [← HR.out]; simp, hB0⟩
    · have hE := nonempty_of f (by omega)
      rw [if_neg (list_ne h0)] at hR
      have HR := Lib.hid hR
      clear hR h1 h0
      go_enter Tryz.func105, Tryz.ntmps105
      go_wp2_with fail
      go_ret
      exact ⟨_, rfl, by rw [← HR.out]; simp, hB0⟩
  · have n1 : (a.toList == [97, 98, 111, 117, 116]) = false := by rw [str_beq]; exact decide_eq_false h1
    simp only [h1, if_false] at hR
    have cS := fun w => place_any a b c d e f w ha hb hc
    obtain ⟨PP, hPP⟩ : ∃ PP, placeL (a.data.toList, b.data.toList, c.data.toList, d.data.toList, e.data.toList, f.data.toList) = PP := ⟨_, rfl⟩
    rw [hPP] at cS hpl hR
    obtain ⟨T, hT⟩ : ∃ T : ByteArray, ⟨PP.toArray⟩ = T := ⟨_, rfl⟩
    have hTl : T.data.toList = PP := by rw [← hT]
    have hTs := size_of hTl
    have cS2 : ∀ w, Calls Tryz.prog 57 #[.agg #[.string a, .string b, .string c, .string d, .string e, .string f]] w fun e' w' => e' = .returned (.string T) ∧ Below w.heap.size w w' := fun w => by
      refine (cS w).mono ?_
      rintro e' w' ⟨t, rfl, ht, hb⟩
      refine ⟨?_, hb⟩
      rw [strV_of ht, ← hT]; rfl
    rw [← hTs] at hpl
    have CS := Lib.hid cS2
    have HT := Lib.hid hTl
    clear cS cS2 hPP h1 hT hTl hTs
    by_cases h0 : f.size = 0
    · have hE := empty_of f h0
      rw [if_pos (list_empty h0)] at hR
      by_cases h2 : e.size = 0
      · have hE2 := empty_of e h2
        rw [if_pos (list_empty h2)] at hR
        have HR := Lib.hid hR
        clear hR h0 h2
        go_enter Tryz.func105, Tryz.ntmps105
        go_wp2_with fail
        obtain ⟨K, hK⟩ : ∃ K, w.heap.size = K := ⟨_, rfl⟩
        obtain ⟨wa, hwa⟩ : ∃ wa : World, w.alloc (.cells #[.string a, .string b, .string c, .string d, .string e, .string f] 37) = wa := ⟨_, rfl⟩
        obtain ⟨d0, d1, d2, d3, d4, d5⟩ := new6 w (.string a) (.string b) (.string c) (.string d) (.string e) (.string f) 37
        rw [hwa, hK] at d0 d1 d2 d3 d4 d5
        have hkl : K < wa.heap.size := by rw [← hwa, ← hK]; simp
        rw [hwa] at hB0
        rw [hwa, hK]
        clear hwa
        have hTd : ¬ 9223372036854775807 < T.size + d.size := by omega
        go_region_held3 (fun w' => w'.cell? ⟨K, 0, none⟩ = some (.string a) ∧ w'.cell? ⟨K, 1, none⟩ = some (.string b) ∧ w'.cell? ⟨K, 2, none⟩ = some (.string c) ∧ w'.cell? ⟨K, 3, none⟩ = some (.string d) ∧ w'.cell? ⟨K, 4, none⟩ = some (.string e) ∧ w'.cell? ⟨K, 5, none⟩ = some (.string f) ∧ Below wa.heap.size wa w') (first | exact ⟨d0, d1, d2, d3, d4, d5, (Below.refl _ wa).drew⟩ | (apply snext6 hkl; rotate_left; assumption; assumption) | go_keep) (first | (go_at_call 57; with_reducible refine (CS.out _).mono ?_; rintro e' w4 ⟨rfl, hb4⟩))
        obtain ⟨c0, c1, c2, c3, c4, c5, hb5⟩ : w4.cell? ⟨K, 0, none⟩ = some (.string a) ∧ w4.cell? ⟨K, 1, none⟩ = some (.string b) ∧ w4.cell? ⟨K, 2, none⟩ = some (.string c) ∧ w4.cell? ⟨K, 3, none⟩ = some (.string d) ∧ w4.cell? ⟨K, 4, none⟩ = some (.string e) ∧ w4.cell? ⟨K, 5, none⟩ = some (.string f) ∧ Below wa.heap.size wa w4 := by assumption
        clear d0 d1 d2 d3 d4 d5
        have hb6 := hB0.trans (hb5.mono hB0.size)
        go_wp2_with fail
        go_ret
        exact ⟨_, rfl, by rw [← HR.out, ← HT.out]; simp, hb6⟩
      · have hE2 := nonempty_of e (by omega)
        rw [if_neg (list_ne h2)] at hR
        have HR := Lib.hid hR
        clear hR h0 h2
        go_enter Tryz.func105, Tryz.ntmps105
        go_wp2_with fail
        obtain ⟨K, hK⟩ : ∃ K, w.heap.size = K := ⟨_, rfl⟩
        obtain ⟨wa, hwa⟩ : ∃ wa : World, w.alloc (.cells #[.string a, .string b, .string c, .string d, .string e, .string f] 37) = wa := ⟨_, rfl⟩
        obtain ⟨d0, d1, d2, d3, d4, d5⟩ := new6 w (.string a) (.string b) (.string c) (.string d) (.string e) (.string f) 37
        rw [hwa, hK] at d0 d1 d2 d3 d4 d5
        have hkl : K < wa.heap.size := by rw [← hwa, ← hK]; simp
        rw [hwa] at hB0
        rw [hwa, hK]
        clear hwa
        have hTd : ¬ 9223372036854775807 < T.size + d.size := by omega
        go_region_held3 (fun w' => w'.cell? ⟨K, 0, none⟩ = some (.string a) ∧ w'.cell? ⟨K, 1, none⟩ = some (.string b) ∧ w'.cell? ⟨K, 2, none⟩ = some (.string c) ∧ w'.cell? ⟨K, 3, none⟩ = some (.string d) ∧ w'.cell? ⟨K, 4, none⟩ = some (.string e) ∧ w'.cell? ⟨K, 5, none⟩ = some (.string f) ∧ Below wa.heap.size wa w') (first | exact ⟨d0, d1, d2, d3, d4, d5, (Below.refl _ wa).drew⟩ | (apply snext6 hkl; rotate_left; assumption; assumption) | go_keep) (first | (go_at_call 57; with_reducible refine (CS.out _).mono ?_; rintro e' w4 ⟨rfl, hb4⟩))
        obtain ⟨c0, c1, c2, c3, c4, c5, hb5⟩ : w4.cell? ⟨K, 0, none⟩ = some (.string a) ∧ w4.cell? ⟨K, 1, none⟩ = some (.string b) ∧ w4.cell? ⟨K, 2, none⟩ = some (.string c) ∧ w4.cell? ⟨K, 3, none⟩ = some (.string d) ∧ w4.cell? ⟨K, 4, none⟩ = some (.string e) ∧ w4.cell? ⟨K, 5, none⟩ = some (.string f) ∧ Below wa.heap.size wa w4 := by assumption
        clear d0 d1 d2 d3 d4 d5
        have hb6 := hB0.trans (hb5.mono hB0.size)
        go_wp2_with fail
        go_ret
        exact ⟨_, rfl, by rw [← HR.out, ← HT.out]; simp, hb6⟩
    · have hE := nonempty_of f (by omega)
      rw [if_neg (list_ne h0)] at hR
      by_cases h2 : e.size = 0
      · have hE2 := empty_of e h2
        rw [if_pos (list_empty h2)] at hR
        have HR := Lib.hid hR
        clear hR h0 h2
        go_enter Tryz.func105, Tryz.ntmps105
        go_wp2_with fail
        obtain ⟨K, hK⟩ : ∃ K, w.heap.size = K := ⟨_, rfl⟩
        obtain ⟨wa, hwa⟩ : ∃ wa : World, w.alloc (.cells #[.string a, .string b, .string c, .string d, .string e, .string f] 37) = wa := ⟨_, rfl⟩
        obtain ⟨d0, d1, d2, d3, d4, d5⟩ := new6 w (.string a) (.string b) (.string c) (.string d) (.string e) (.string f) 37
        rw [hwa, hK] at d0 d1 d2 d3 d4 d5
        have hkl : K < wa.heap.size := by rw [← hwa, ← hK]; simp
        rw [hwa] at hB0
        rw [hwa, hK]
        clear hwa
        have hTd : ¬ 9223372036854775807 < T.size + d.size := by omega
        go_region_held3 (fun w' => w'.cell? ⟨K, 0, none⟩ = some (.string a) ∧ w'.cell? ⟨K, 1, none⟩ = some (.string b) ∧ w'.cell? ⟨K, 2, none⟩ = some (.string c) ∧ w'.cell? ⟨K, 3, none⟩ = some (.string d) ∧ w'.cell? ⟨K, 4, none⟩ = some (.string e) ∧ w'.cell? ⟨K, 5, none⟩ = some (.string f) ∧ Below wa.heap.size wa w') (first | exact ⟨d0, d1, d2, d3, d4, d5, (Below.refl _ wa).drew⟩ | (apply snext6 hkl; rotate_left; assumption; assumption) | go_keep) (first | (go_at_call 57; with_reducible refine (CS.out _).mono ?_; rintro e' w4 ⟨rfl, hb4⟩))
        obtain ⟨c0, c1, c2, c3, c4, c5, hb5⟩ : w4.cell? ⟨K, 0, none⟩ = some (.string a) ∧ w4.cell? ⟨K, 1, none⟩ = some (.string b) ∧ w4.cell? ⟨K, 2, none⟩ = some (.string c) ∧ w4.cell? ⟨K, 3, none⟩ = some (.string d) ∧ w4.cell? ⟨K, 4, none⟩ = some (.string e) ∧ w4.cell? ⟨K, 5, none⟩ = some (.string f) ∧ Below wa.heap.size wa w4 := by assumption
        clear d0 d1 d2 d3 d4 d5
        have hb6 := hB0.trans (hb5.mono hB0.size)
        go_wp2_with fail
        go_ret
        exact ⟨_, rfl, by rw [← HR.out, ← HT.out]; simp, hb6⟩
      · have hE2 := nonempty_of e (by omega)
        rw [if_neg (list_ne h2)] at hR
        have HR := Lib.hid hR
        clear hR h0 h2
        go_enter Tryz.func105, Tryz.ntmps105
        go_wp2_with fail
        obtain ⟨K, hK⟩ : ∃ K, w.heap.size = K := ⟨_, rfl⟩
        obtain ⟨wa, hwa⟩ : ∃ wa : World, w.alloc (.cells #[.string a, .string b, .string c, .string d, .string e, .string f] 37) = wa := ⟨_, rfl⟩
        obtain ⟨d0, d1, d2, d3, d4, d5⟩ := new6 w (.string a) (.string b) (.string c) (.string d) (.string e) (.string f) 37
        rw [hwa, hK] at d0 d1 d2 d3 d4 d5
        have hkl : K < wa.heap.size := by rw [← hwa, ← hK]; simp
        rw [hwa] at hB0
        rw [hwa, hK]
        clear hwa
        have hTd : ¬ 9223372036854775807 < T.size + d.size := by omega
        go_region_held3 (fun w' => w'.cell? ⟨K, 0, none⟩ = some (.string a) ∧ w'.cell? ⟨K, 1, none⟩ = some (.string b) ∧ w'.cell? ⟨K, 2, none⟩ = some (.string c) ∧ w'.cell? ⟨K, 3, none⟩ = some (.string d) ∧ w'.cell? ⟨K, 4, none⟩ = some (.string e) ∧ w'.cell? ⟨K, 5, none⟩ = some (.string f) ∧ Below wa.heap.size wa w') (first | exact ⟨d0, d1, d2, d3, d4, d5, (Below.refl _ wa).drew⟩ | (apply snext6 hkl; rotate_left; assumption; assumption) | go_keep) (first | (go_at_call 57; with_reducible refine (CS.out _).mono ?_; rintro e' w4 ⟨rfl, hb4⟩))
        obtain ⟨c0, c1, c2, c3, c4, c5, hb5⟩ : w4.cell? ⟨K, 0, none⟩ = some (.string a) ∧ w4.cell? ⟨K, 1, none⟩ = some (.string b) ∧ w4.cell? ⟨K, 2, none⟩ = some (.string c) ∧ w4.cell? ⟨K, 3, none⟩ = some (.string d) ∧ w4.cell? ⟨K, 4, none⟩ = some (.string e) ∧ w4.cell? ⟨K, 5, none⟩ = some (.string f) ∧ Below wa.heap.size wa w4 := by assumption
        clear d0 d1 d2 d3 d4 d5
        have hb6 := hB0.trans (hb5.mono hB0.size)
        go_wp2_with fail
        go_ret
        exact ⟨_, rfl, by rw [← HR.out, ← HT.out]; simp, hb6⟩
end Go.Proofs.YtjdhaacmlpegoaaGreatDoor
