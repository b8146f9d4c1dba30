/- UrlPrint: the law returns true for all texts and addresses. -/
import Derived.Test.YtgbinadjbikhhaaDoorLW
import Derived.Test.YtgbinadjbikhhaaDoorLV2
import Derived.Test.YtgbinadjbikhhaaDoorLC
import Derived.Test.YtgbinadjbikhhaaDoorLR
namespace Go.Proofs.YtgbinadjbikhhaaDoor
set_option linter.unusedVariables false
set_option linter.unusedSimpArgs false
open Go.RowKit

theorem format_is (a b c d e f t : ByteArray) (w : World) (ha : a.size ≤ 1000000) (hb : b.size ≤ 1000000) (hc : c.size ≤ 1000000) (hd : d.size ≤ 1000000) (he : e.size ≤ 1000000) (hf : f.size ≤ 1000000) (ht : t.data.toList = formatL (a.data.toList, b.data.toList, c.data.toList, d.data.toList, e.data.toList, f.data.toList)) :
    Calls Tryd.prog 19 #[.agg #[.string a, .string b, .string c, .string d, .string e, .string f]] w fun x w' => x = .returned (.string t) ∧ Below w.heap.size w w' := by
  refine (format_any a b c d e f w ha hb hc hd he hf).mono ?_
  rintro x w' ⟨u, rfl, hu, hb⟩
  exact ⟨by rw [byteArray_ext (hu.trans ht.symm)], hb⟩
theorem rformat_is (a b c d e f t : ByteArray) (w : World) (ha : a.size ≤ 1000000) (hb : b.size ≤ 1000000) (hc : c.size ≤ 1000000) (hd : d.size ≤ 1000000) (he : e.size ≤ 1000000) (hf : f.size ≤ 1000000) (ht : t.data.toList = formatL (a.data.toList, b.data.toList, c.data.toList, d.data.toList, e.data.toList, f.data.toList)) :
    Calls Tryd.prog 21 #[.agg #[.string a, .string b, .string c, .string d, .string e, .string f]] w fun x w' => x = .returned (.string t) ∧ Below w.heap.size w w' := by
  refine (rformat_any a b c d e f w ha hb hc hd he hf).mono ?_
  rintro x w' ⟨u, rfl, hu, hb⟩
  exact ⟨by rw [byteArray_ext (hu.trans ht.symm)], hb⟩
theorem parse_none (t : ByteArray) (w : World) (hs : t.size ≤ 300000) (hM : MaxAt w) (h : parseL t.data.toList = none) :
    Calls Tryd.prog 13 #[.string t] w fun x w' => x = .returned (.tuple #[.agg #[.string ⟨#[]⟩, .string ⟨#[]⟩, .string ⟨#[]⟩, .string ⟨#[]⟩, .string ⟨#[]⟩, .string ⟨#[]⟩], .int .i64 4]) ∧ Below w.heap.size w w' := by
  have := parse_any t w hs hM
  rw [h] at this
  exact this
theorem parse_some (t : ByteArray) (w : World) (hs : t.size ≤ 300000) (hM : MaxAt w) (a b c d e f : ByteArray) (h : parseL t.data.toList = some (a.data.toList, b.data.toList, c.data.toList, d.data.toList, e.data.toList, f.data.toList)) :
    Calls Tryd.prog 13 #[.string t] w fun x w' => x = .returned (.tuple #[.agg #[.string a, .string b, .string c, .string d, .string e, .string f], .int .i64 0]) ∧ Below w.heap.size w w' := by
  have := parse_any t w hs hM
  rw [h] at this
  exact this
theorem some_bytes {o : Option U6} {u : U6} (h : o = some u) : ∃ a b c d e f : ByteArray, o = some (a.data.toList, b.data.toList, c.data.toList, d.data.toList, e.data.toList, f.data.toList) := by
  subst h
  obtain ⟨a, b, c, d, e, f⟩ := u
  exact ⟨⟨a.toArray⟩, ⟨b.toArray⟩, ⟨c.toArray⟩, ⟨d.toArray⟩, ⟨e.toArray⟩, ⟨f.toArray⟩, rfl⟩
theorem list_bytes (l : List UInt8) : ∃ t : ByteArray, t.data.toList = l := ⟨⟨l.toArray⟩, rfl⟩
theorem valid_is (a b c d e f : ByteArray) (w : World) (ha : a.size ≤ 40000) (hb : b.size ≤ 40000) (hc : c.size ≤ 40000) (hd : d.size ≤ 40000) (he : e.size ≤ 40000) (hf : f.size ≤ 40000) (hM : MaxAt w) (B : Bool) (hB : validB (a.data.toList, b.data.toList, c.data.toList, d.data.toList, e.data.toList, f.data.toList) = B) :
    Calls Tryd.prog 20 #[.agg #[.string a, .string b, .string c, .string d, .string e, .string f]] w fun x w' => x = .returned (.bool B) ∧ Below w.heap.size w w' := by
  rw [← hB]; exact valid_any a b c d e f w ha hb hc hd he hf hM
theorem brule {B : Nat} {w0 w1 : World} (hb : Below B w0 w1) : ∀ b o, b < B → w1.cell? ⟨b, o, none⟩ = w0.cell? ⟨b, o, none⟩ := fun b o h => hb.cell (p := ⟨b, o, none⟩) h
theorem size_fits {n : Nat} {a b c d e f : ByteArray} (h : Fits n (a.data.toList, b.data.toList, c.data.toList, d.data.toList, e.data.toList, f.data.toList)) : a.size ≤ n ∧ b.size ≤ n ∧ c.size ≤ n ∧ d.size ≤ n ∧ e.size ≤ n ∧ f.size ≤ n := by
  obtain ⟨h1, h2, h3, h4, h5, h6⟩ := h
  simp only [size_len] at h1 h2 h3 h4 h5 h6
  exact ⟨h1, h2, h3, h4, h5, h6⟩
/-- an address that is not the one that its text denotes -/
theorem eqU_bytes (a b c d e f a' b' c' d' e' f' : ByteArray) : eqU (a.data.toList, b.data.toList, c.data.toList, d.data.toList, e.data.toList, f.data.toList) (a'.data.toList, b'.data.toList, c'.data.toList, d'.data.toList, e'.data.toList, f'.data.toList) = ((a.toList == a'.toList) && (b.toList == b'.toList) && (c.toList == c'.toList) && (d.toList == d'.toList) && (e.toList == e'.toList) && (f.toList == f'.toList)) := by
  simp only [ByteArray.toList_eq, eqU]
theorem cmp_cases (p1 p2 p3 p4 p5 p6 a b c d e f : ByteArray) : (eqU (p1.data.toList, p2.data.toList, p3.data.toList, p4.data.toList, p5.data.toList, p6.data.toList) (a.data.toList, b.data.toList, c.data.toList, d.data.toList, e.data.toList, f.data.toList) = true ∧ p1.toList = a.toList ∧ p2.toList = b.toList ∧ p3.toList = c.toList ∧ p4.toList = d.toList ∧ p5.toList = e.toList ∧ p6.toList = f.toList) ∨ (eqU (p1.data.toList, p2.data.toList, p3.data.toList, p4.data.toList, p5.data.toList, p6.data.toList) (a.data.toList, b.data.toList, c.data.toList, d.data.toList, e.data.toList, f.data.toList) = false ∧ (p1.toList == a.toList) = false ∧ ¬ p1.toList = a.toList) ∨ (eqU (p1.data.toList, p2.data.toList, p3.data.toList, p4.data.toList, p5.data.toList, p6.data.toList) (a.data.toList, b.data.toList, c.data.toList, d.data.toList, e.data.toList, f.data.toList) = false ∧ p1.toList = a.toList ∧ (p2.toList == b.toList) = false ∧ ¬ p2.toList = b.toList) ∨ (eqU (p1.data.toList, p2.data.toList, p3.data.toList, p4.data.toList, p5.data.toList, p6.data.toList) (a.data.toList, b.data.toList, c.data.toList, d.data.toList, e.data.toList, f.data.toList) = false ∧ p1.toList = a.toList ∧ p2.toList = b.toList ∧ (p3.toList == c.toList) = false ∧ ¬ p3.toList = c.toList) ∨ (eqU (p1.data.toList, p2.data.toList, p3.data.toList, p4.data.toList, p5.data.toList, p6.data.toList) (a.data.toList, b.data.toList, c.data.toList, d.data.toList, e.data.toList, f.data.toList) = false ∧ p1.toList = a.toList ∧ p2.toList = b.toList ∧ p3.toList = c.toList ∧ (p4.toList == d.toList) = false ∧ ¬ p4.toList = d.toList) ∨ (eqU (p1.data.toList, p2.data.toList, p3.data.toList, p4.data.toList, p5.data.toList, p6.data.toList) (a.data.toList, b.data.toList, c.data.toList, d.data.toList, e.data.toList, f.data.toList) = false ∧ p1.toList = a.toList ∧ p2.toList = b.toList ∧ p3.toList = c.toList ∧ p4.toList = d.toList ∧ (p5.toList == e.toList) = false ∧ ¬ p5.toList = e.toList) ∨ (eqU (p1.data.toList, p2.data.toList, p3.data.toList, p4.data.toList, p5.data.toList, p6.data.toList) (a.data.toList, b.data.toList, c.data.toList, d.data.toList, e.data.toList, f.data.toList) = false ∧ p1.toList = a.toList ∧ p2.toList = b.toList ∧ p3.toList = c.toList ∧ p4.toList = d.toList ∧ p5.toList = e.toList ∧ (p6.toList == f.toList) = false ∧ ¬ p6.toList = f.toList) := by
  rw [eqU_bytes]
  by_cases h1 : p1.toList = a.toList
  · by_cases h2 : p2.toList = b.toList
    · by_cases h3 : p3.toList = c.toList
      · by_cases h4 : p4.toList = d.toList
        · by_cases h5 : p5.toList = e.toList
          · by_cases h6 : p6.toList = f.toList
            · exact .inl ⟨by simp [h1, h2, h3, h4, h5, h6], h1, h2, h3, h4, h5, h6⟩
            · exact .inr (.inr (.inr (.inr (.inr (.inr (⟨by simp [h1, h2, h3, h4, h5, h6], h1, h2, h3, h4, h5, beq_eq_false_iff_ne.2 h6, h6⟩))))))
          · exact .inr (.inr (.inr (.inr (.inr (.inl ⟨by simp [h1, h2, h3, h4, h5], h1, h2, h3, h4, beq_eq_false_iff_ne.2 h5, h5⟩)))))
        · exact .inr (.inr (.inr (.inr (.inl ⟨by simp [h1, h2, h3, h4], h1, h2, h3, beq_eq_false_iff_ne.2 h4, h4⟩))))
      · exact .inr (.inr (.inr (.inl ⟨by simp [h1, h2, h3], h1, h2, beq_eq_false_iff_ne.2 h3, h3⟩)))
    · exact .inr (.inr (.inl ⟨by simp [h1, h2], h1, beq_eq_false_iff_ne.2 h2, h2⟩))
  · exact .inr (.inl ⟨by simp [h1], beq_eq_false_iff_ne.2 h1, h1⟩)
set_option maxRecDepth 20000 in
set_option maxHeartbeats 8000000 in
theorem printnone (s a b c d e f : ByteArray) (w : World) (hM : MaxAt w) (hs : s.size ≤ 400) (ha : a.size ≤ 400) (hb : b.size ≤ 400) (hc : c.size ≤ 400) (hd : d.size ≤ 400) (he : e.size ≤ 400) (hf : f.size ≤ 400) (hP : parseL s.data.toList = none) (CW : Hid (∀ b w, w.cell? ⟨b, 0, none⟩ = some (.string s) → Calls Tryd.prog 12 #[.slice (some ⟨b, 0, none⟩) 1 1] w fun e w' => e = .returned (.bool true) ∧ w = w')) (CSh : Hid (∀ w, Calls Tryd.prog 18 #[.agg #[.string a, .string b, .string c, .string d, .string e, .string f]] w fun x w' => x = .returned (.bool true) ∧ Below w.heap.size w w')) :
    Calls Tryd.prog 5 #[.string s, .agg #[.string a, .string b, .string c, .string d, .string e, .string f]] w fun x w' => x = .returned (.bool true) ∧ Below w.heap.size w w' := by
  obtain ⟨FV, hFV⟩ := list_bytes (formatL (a.data.toList, b.data.toList, c.data.toList, d.data.toList, e.data.toList, f.data.toList))
  have hFs : FV.size ≤ 3000 := by have := format_len a b c d e f; rw [size_of hFV]; omega
  have CFv := Lib.hid (fun w => format_is a b c d e f FV w (by omega) (by omega) (by omega) (by omega) (by omega) (by omega) hFV)
  have CRv := Lib.hid (fun w => rformat_is a b c d e f FV w (by omega) (by omega) (by omega) (by omega) (by omega) (by omega) hFV)
  have CPs := Lib.hid (fun w hM => parse_none s w (by omega) hM hP)
  have hv := validB_is (a.data.toList, b.data.toList, c.data.toList, d.data.toList, e.data.toList, f.data.toList)
  have CVv := fun B hB w hM => valid_is a b c d e f w (by omega) (by omega) (by omega) (by omega) (by omega) (by omega) hM B hB
  rw [← hFV] at hv
  clear hP hFV
  cases hR : parseL FV.data.toList with
  | none =>
    rw [hR] at hv
    have CPv := Lib.hid (fun w hM => parse_none FV w (by omega) hM hR)
    replace CVv := Lib.hid (CVv false hv)
    clear hR hv
    go_enter Tryd.func5, Tryd.ntmps5
    go_wp2_with fail
    have S0 := new6 w (.string a) (.string b) (.string c) (.string d) (.string e) (.string f) 25
    have hB0 : Below w.heap.size w (w.alloc (.cells #[.string a, .string b, .string c, .string d, .string e, .string f] 25)) := (Below.refl _ w).alloc (Nat.le_refl _) _
    have hk0 : w.heap.size < (w.alloc (.cells #[.string a, .string b, .string c, .string d, .string e, .string f] 25)).heap.size := (by simp)
    have hM0 := hM.below hB0 (Nat.le_refl _)
    obtain ⟨w0, hw0⟩ : ∃ w0 : World, w.alloc (.cells #[.string a, .string b, .string c, .string d, .string e, .string f] 25) = w0 := ⟨_, rfl⟩
    obtain ⟨K, hK⟩ : ∃ K, w.heap.size = K := ⟨_, rfl⟩
    rw [hw0] at S0 hB0 hk0 hM0
    rw [hK] at S0 hk0 hB0
    rw [hw0, hK]
    clear hw0
    obtain ⟨c0, c1, c2, c3, c4, c5⟩ := S0
    have CF := Lib.hid (fit_any w0 hM0)
    have HK := Lib.hid hK
    clear hK
    go_wp2_with (first
      | (go_at_call 11; with_reducible refine CF.out.mono ?_; rintro x w1 ⟨rfl, hb1⟩; have hr1 := brule hb1; have hk1 := Nat.lt_of_lt_of_le hk0 hb1.size)
      | (go_at_call 12; with_reducible refine (CW.out _ _ (by simp)).mono ?_; rintro x w2 ⟨rfl, rfl⟩; have hB2 := hb1.alloc hb1.size (.cells #[.string s] 9))
      | (go_at_call 18; with_reducible refine (CSh.out _).mono ?_; rintro x w2 ⟨rfl, hb2⟩; have hBl2 := hB2.trans (hb2.mono hB2.size); have hr2 := brule hBl2)
      | (go_at_call 13; with_reducible refine (CPs.out _ (hM0.below hBl2 (Nat.le_refl _))).mono ?_; rintro x w3 ⟨rfl, hb3⟩; have hBl3 := hBl2.trans (hb3.mono hBl2.size); have hr3 := brule hBl3; have hk3 := Nat.lt_of_lt_of_le hk0 hBl3.size; have hB4 := hBl3.alloc hBl3.size (.cells #[.string ⟨#[]⟩, .string ⟨#[]⟩, .string ⟨#[]⟩, .string ⟨#[]⟩, .string ⟨#[]⟩, .string ⟨#[]⟩] 25))
      | (go_at_call 19; with_reducible refine (CFv.out _).mono ?_; rintro x w7 ⟨rfl, hb7⟩; have hBl7 := hB4.trans (hb7.mono hB4.size); have hr7 := brule hBl7)
      | (go_at_call 13; with_reducible refine (CPv.out _ (hM0.below hBl7 (Nat.le_refl _))).mono ?_; rintro x w8 ⟨rfl, hb8⟩; have hBl8 := hBl7.trans (hb8.mono hBl7.size); have hr8 := brule hBl8))
    have hM8 := hM0.below hBl8 (Nat.le_refl _)
    have hk8 := Nat.lt_of_lt_of_le hk0 hBl8.size
    have S8 := And.intro ((hr8 K 0 hk0).trans c0) (And.intro ((hr8 K 1 hk0).trans c1) (And.intro ((hr8 K 2 hk0).trans c2) (And.intro ((hr8 K 3 hk0).trans c3) (And.intro ((hr8 K 4 hk0).trans c4) ((hr8 K 5 hk0).trans c5)))))
    obtain ⟨wa, hwa⟩ : ∃ wa : World, w8.alloc (.cells #[.string ⟨#[]⟩, .string ⟨#[]⟩, .string ⟨#[]⟩, .string ⟨#[]⟩, .string ⟨#[]⟩, .string ⟨#[]⟩] 25) = wa := ⟨_, rfl⟩
    obtain ⟨M, hm⟩ : ∃ M, w8.heap.size = M := ⟨_, rfl⟩
    have S1 := start12 (M := M) hM8 hk8 S8 hwa hm
    have hB9 := hBl8.alloc hBl8.size (.cells #[.string ⟨#[]⟩, .string ⟨#[]⟩, .string ⟨#[]⟩, .string ⟨#[]⟩, .string ⟨#[]⟩, .string ⟨#[]⟩] 25)
    have hkl : K < wa.heap.size := (by rw [← hwa]; simp; omega)
    have hml : M < wa.heap.size := (by rw [← hwa, ← hm]; simp)
    rw [hwa] at hB9
    rw [hwa, hm]
    clear hwa hm S8 hr8
    obtain ⟨a0, a1, a2, a3, a4, a5, -, -, -, -, -, -, hMa, -⟩ := S1
    go_region_with (first
      | (go_at_call 19; with_reducible refine (CFv.out _).mono ?_; rintro x wb ⟨rfl, hbb'⟩; have hbb := drew_below hbb'; clear hbb'; have hMb := hMa.below hbb (Nat.le_refl _); have hcb := brule hbb; have hBb := hB9.trans (hbb.mono hB9.size))
      | (go_at_call 21; with_reducible refine (CRv.out _).mono ?_; rintro x wc ⟨rfl, hbc⟩; have hMc := hMb.below hbc (Nat.le_refl _); have hcc := brule hbc; have hkb := Nat.lt_of_lt_of_le hkl hbb.size; have hBc := hBb.trans (hbc.mono hBb.size))
      | (go_at_call 20; with_reducible refine (CVv.out _ hMc).mono ?_; rintro x wd ⟨rfl, hbd⟩; have hBd := hBc.trans (hbd.mono hBc.size)))
    all_goals
      go_wp2_with fail
      go_ret
      rw [HK.out]
      exact ⟨rfl, hB0.trans (hBd.mono (Nat.le_of_lt hk0))⟩
  | some v =>
    obtain ⟨p1, p2, p3, p4, p5, p6, hp⟩ := some_bytes hR
    rw [hp] at hv
    have CPv := Lib.hid (fun w hM => parse_some FV w (by omega) hM p1 p2 p3 p4 p5 p6 hp)
    rcases cmp_cases p1 p2 p3 p4 p5 p6 a b c d e f with ⟨hq, g1, g2, g3, g4, g5, g6⟩ | ⟨hq, g1, g2⟩ | ⟨hq, g1, g2, g3⟩ | ⟨hq, g1, g2, g3, g4⟩ | ⟨hq, g1, g2, g3, g4, g5⟩ | ⟨hq, g1, g2, g3, g4, g5, g6⟩ | ⟨hq, g1, g2, g3, g4, g5, g6, g7⟩
    all_goals
      replace CVv := Lib.hid (CVv _ (hv.trans hq))
      clear hR hv hp hq
      go_enter Tryd.func5, Tryd.ntmps5
      go_wp2_with fail
      have S0 := new6 w (.string a) (.string b) (.string c) (.string d) (.string e) (.string f) 25
      have hB0 : Below w.heap.size w (w.alloc (.cells #[.string a, .string b, .string c, .string d, .string e, .string f] 25)) := (Below.refl _ w).alloc (Nat.le_refl _) _
      have hk0 : w.heap.size < (w.alloc (.cells #[.string a, .string b, .string c, .string d, .string e, .string f] 25)).heap.size := (by simp)
      have hM0 := hM.below hB0 (Nat.le_refl _)
      obtain ⟨w0, hw0⟩ : ∃ w0 : World, w.alloc (.cells #[.string a, .string b, .string c, .string d, .string e, .string f] 25) = w0 := ⟨_, rfl⟩
      obtain ⟨K, hK⟩ : ∃ K, w.heap.size = K := ⟨_, rfl⟩
      rw [hw0] at S0 hB0 hk0 hM0
      rw [hK] at S0 hk0 hB0
      rw [hw0, hK]
      clear hw0
      obtain ⟨c0, c1, c2, c3, c4, c5⟩ := S0
      have CF := Lib.hid (fit_any w0 hM0)
      have HK := Lib.hid hK
      clear hK
      go_wp2_with (first
        | (go_at_call 11; with_reducible refine CF.out.mono ?_; rintro x w1 ⟨rfl, hb1⟩; have hr1 := brule hb1; have hk1 := Nat.lt_of_lt_of_le hk0 hb1.size)
        | (go_at_call 12; with_reducible refine (CW.out _ _ (by simp)).mono ?_; rintro x w2 ⟨rfl, rfl⟩; have hB2 := hb1.alloc hb1.size (.cells #[.string s] 9))
        | (go_at_call 18; with_reducible refine (CSh.out _).mono ?_; rintro x w2 ⟨rfl, hb2⟩; have hBl2 := hB2.trans (hb2.mono hB2.size); have hr2 := brule hBl2)
        | (go_at_call 13; with_reducible refine (CPs.out _ (hM0.below hBl2 (Nat.le_refl _))).mono ?_; rintro x w3 ⟨rfl, hb3⟩; have hBl3 := hBl2.trans (hb3.mono hBl2.size); have hr3 := brule hBl3; have hk3 := Nat.lt_of_lt_of_le hk0 hBl3.size; have hB4 := hBl3.alloc hBl3.size (.cells #[.string ⟨#[]⟩, .string ⟨#[]⟩, .string ⟨#[]⟩, .string ⟨#[]⟩, .string ⟨#[]⟩, .string ⟨#[]⟩] 25))
        | (go_at_call 19; with_reducible refine (CFv.out _).mono ?_; rintro x w7 ⟨rfl, hb7⟩; have hBl7 := hB4.trans (hb7.mono hB4.size); have hr7 := brule hBl7)
        | (go_at_call 13; with_reducible refine (CPv.out _ (hM0.below hBl7 (Nat.le_refl _))).mono ?_; rintro x w8 ⟨rfl, hb8⟩; have hBl8 := hBl7.trans (hb8.mono hBl7.size); have hr8 := brule hBl8))
      have hM8 := hM0.below hBl8 (Nat.le_refl _)
      have hk8 := Nat.lt_of_lt_of_le hk0 hBl8.size
      have S8 := And.intro ((hr8 K 0 hk0).trans c0) (And.intro ((hr8 K 1 hk0).trans c1) (And.intro ((hr8 K 2 hk0).trans c2) (And.intro ((hr8 K 3 hk0).trans c3) (And.intro ((hr8 K 4 hk0).trans c4) ((hr8 K 5 hk0).trans c5)))))
      obtain ⟨wa, hwa⟩ : ∃ wa : World, w8.alloc (.cells #[.string p1, .string p2, .string p3, .string p4, .string p5, .string p6] 25) = wa := ⟨_, rfl⟩
      obtain ⟨M, hm⟩ : ∃ M, w8.heap.size = M := ⟨_, rfl⟩
      have S1 := start12 (M := M) hM8 hk8 S8 hwa hm
      have hB9 := hBl8.alloc hBl8.size (.cells #[.string p1, .string p2, .string p3, .string p4, .string p5, .string p6] 25)
      have hkl : K < wa.heap.size := (by rw [← hwa]; simp; omega)
      have hml : M < wa.heap.size := (by rw [← hwa, ← hm]; simp)
      rw [hwa] at hB9
      rw [hwa, hm]
      clear hwa hm S8 hr8
      go_region_held3 (fun w' => w'.cell? ⟨K, 0, none⟩ = some (.string a) ∧ w'.cell? ⟨K, 1, none⟩ = some (.string b) ∧ w'.cell? ⟨K, 2, none⟩ = some (.string c) ∧ w'.cell? ⟨K, 3, none⟩ = some (.string d) ∧ w'.cell? ⟨K, 4, none⟩ = some (.string e) ∧ w'.cell? ⟨K, 5, none⟩ = some (.string f) ∧ w'.cell? ⟨M, 0, none⟩ = some (.string p1) ∧ w'.cell? ⟨M, 1, none⟩ = some (.string p2) ∧ w'.cell? ⟨M, 2, none⟩ = some (.string p3) ∧ w'.cell? ⟨M, 3, none⟩ = some (.string p4) ∧ w'.cell? ⟨M, 4, none⟩ = some (.string p5) ∧ w'.cell? ⟨M, 5, none⟩ = some (.string p6) ∧ MaxAt w' ∧ Below wa.heap.size wa w') (first | exact drew12 hkl hml S1 | (apply snext12 hkl hml; rotate_left; assumption; assumption) | go_keep) (first | (go_at_call 19; with_reducible refine (CFv.out _).mono ?_; rintro x w4 ⟨rfl, hb4⟩) | (go_at_call 21; with_reducible refine (CRv.out _).mono ?_; rintro x w5 ⟨rfl, hb5⟩) | (go_at_call 20; with_reducible refine (CVv.out _ (max12 (by assumption))).mono ?_; rintro x w6 ⟨rfl, hb6⟩))
      go_wp2_with fail
      go_ret
      rw [HK.out]
      exact ⟨rfl, hB0.trans ((hB9.trans ((bel12 (by assumption)).mono hB9.size)).mono (Nat.le_of_lt hk0))⟩
set_option maxRecDepth 20000 in
set_option maxHeartbeats 8000000 in
theorem printsome (s a b c d e f : ByteArray) (w : World) (hM : MaxAt w) (hs : s.size ≤ 400) (ha : a.size ≤ 400) (hb : b.size ≤ 400) (hc : c.size ≤ 400) (hd : d.size ≤ 400) (he : e.size ≤ 400) (hf : f.size ≤ 400) (r1 r2 r3 r4 r5 r6 : ByteArray) (hP : parseL s.data.toList = some (r1.data.toList, r2.data.toList, r3.data.toList, r4.data.toList, r5.data.toList, r6.data.toList)) (CW : Hid (∀ b w, w.cell? ⟨b, 0, none⟩ = some (.string s) → Calls Tryd.prog 12 #[.slice (some ⟨b, 0, none⟩) 1 1] w fun e w' => e = .returned (.bool true) ∧ w = w')) (CSh : Hid (∀ w, Calls Tryd.prog 18 #[.agg #[.string a, .string b, .string c, .string d, .string e, .string f]] w fun x w' => x = .returned (.bool true) ∧ Below w.heap.size w w')) :
    Calls Tryd.prog 5 #[.string s, .agg #[.string a, .string b, .string c, .string d, .string e, .string f]] w fun x w' => x = .returned (.bool true) ∧ Below w.heap.size w w' := by
  obtain ⟨FV, hFV⟩ := list_bytes (formatL (a.data.toList, b.data.toList, c.data.toList, d.data.toList, e.data.toList, f.data.toList))
  have hFs : FV.size ≤ 3000 := by have := format_len a b c d e f; rw [size_of hFV]; omega
  have CFv := Lib.hid (fun w => format_is a b c d e f FV w (by omega) (by omega) (by omega) (by omega) (by omega) (by omega) hFV)
  have CRv := Lib.hid (fun w => rformat_is a b c d e f FV w (by omega) (by omega) (by omega) (by omega) (by omega) (by omega) hFV)
  have CPs := Lib.hid (fun w hM => parse_some s w (by omega) hM r1 r2 r3 r4 r5 r6 hP)
  obtain ⟨FU, hFU⟩ := list_bytes (formatL (r1.data.toList, r2.data.toList, r3.data.toList, r4.data.toList, r5.data.toList, r6.data.toList))
  have hrs := size_fits (parse_len _ _ hP)
  rw [size_len] at hrs
  obtain ⟨hr1, hr2, hr3, hr4, hr5, hr6⟩ := hrs
  have hFus : FU.size ≤ 9000 := by have := format_len r1 r2 r3 r4 r5 r6; rw [size_of hFU]; omega
  have CFu := Lib.hid (fun w => format_is r1 r2 r3 r4 r5 r6 FU w (by omega) (by omega) (by omega) (by omega) (by omega) (by omega) hFU)
  have hPu := parse_format hP
  have CPu := Lib.hid (fun w hM => parse_some FU w (by omega) hM r1 r2 r3 r4 r5 r6 (by rw [hFU]; exact hPu))
  have CVu := Lib.hid (fun w hM => valid_is r1 r2 r3 r4 r5 r6 w (by omega) (by omega) (by omega) (by omega) (by omega) (by omega) hM true ((valid_iff _).2 hPu))
  clear hPu hFU hr1 hr2 hr3 hr4 hr5 hr6
  have hv := validB_is (a.data.toList, b.data.toList, c.data.toList, d.data.toList, e.data.toList, f.data.toList)
  have CVv := fun B hB w hM => valid_is a b c d e f w (by omega) (by omega) (by omega) (by omega) (by omega) (by omega) hM B hB
  rw [← hFV] at hv
  clear hP hFV
  cases hR : parseL FV.data.toList with
  | none =>
    rw [hR] at hv
    have CPv := Lib.hid (fun w hM => parse_none FV w (by omega) hM hR)
    replace CVv := Lib.hid (CVv false hv)
    clear hR hv
    go_enter Tryd.func5, Tryd.ntmps5
    go_wp2_with fail
    have S0 := new6 w (.string a) (.string b) (.string c) (.string d) (.string e) (.string f) 25
    have hB0 : Below w.heap.size w (w.alloc (.cells #[.string a, .string b, .string c, .string d, .string e, .string f] 25)) := (Below.refl _ w).alloc (Nat.le_refl _) _
    have hk0 : w.heap.size < (w.alloc (.cells #[.string a, .string b, .string c, .string d, .string e, .string f] 25)).heap.size := (by simp)
    have hM0 := hM.below hB0 (Nat.le_refl _)
    obtain ⟨w0, hw0⟩ : ∃ w0 : World, w.alloc (.cells #[.string a, .string b, .string c, .string d, .string e, .string f] 25) = w0 := ⟨_, rfl⟩
    obtain ⟨K, hK⟩ : ∃ K, w.heap.size = K := ⟨_, rfl⟩
    rw [hw0] at S0 hB0 hk0 hM0
    rw [hK] at S0 hk0 hB0
    rw [hw0, hK]
    clear hw0
    obtain ⟨c0, c1, c2, c3, c4, c5⟩ := S0
    have CF := Lib.hid (fit_any w0 hM0)
    have HK := Lib.hid hK
    clear hK
    go_wp2_with (first
      | (go_at_call 11; with_reducible refine CF.out.mono ?_; rintro x w1 ⟨rfl, hb1⟩; have hr1 := brule hb1; have hk1 := Nat.lt_of_lt_of_le hk0 hb1.size)
      | (go_at_call 12; with_reducible refine (CW.out _ _ (by simp)).mono ?_; rintro x w2 ⟨rfl, rfl⟩; have hB2 := hb1.alloc hb1.size (.cells #[.string s] 9))
      | (go_at_call 18; with_reducible refine (CSh.out _).mono ?_; rintro x w2 ⟨rfl, hb2⟩; have hBl2 := hB2.trans (hb2.mono hB2.size); have hr2 := brule hBl2)
      | (go_at_call 13; with_reducible refine (CPs.out _ (hM0.below hBl2 (Nat.le_refl _))).mono ?_; rintro x w3 ⟨rfl, hb3⟩; have hBl3 := hBl2.trans (hb3.mono hBl2.size); have hr3 := brule hBl3; have hk3 := Nat.lt_of_lt_of_le hk0 hBl3.size; have hB4 := hBl3.alloc hBl3.size (.cells #[.string r1, .string r2, .string r3, .string r4, .string r5, .string r6] 25))
      | (go_at_call 19; with_reducible refine (CFu.out _).mono ?_; rintro x w4 ⟨rfl, hb4⟩; have hBl4 := hB4.trans (hb4.mono hB4.size); have hr4 := brule hBl4; have hk4 := Nat.lt_of_lt_of_le hk0 hBl4.size; have hc4 := brule hb4; have hz4 : w3.heap.size < w4.heap.size := (by have := hb4.size; simp at this; omega))
      | (go_at_call 13; with_reducible refine (CPu.out _ (hM0.below hBl4 (Nat.le_refl _))).mono ?_; rintro x w5 ⟨rfl, hb5⟩; have hBl5 := hBl4.trans (hb5.mono hBl4.size); have hr5 := brule hBl5; have hk5 := Nat.lt_of_lt_of_le hk0 hBl5.size; have hc5 := brule hb5; have hz5 : w3.heap.size < w5.heap.size := (by have := hb5.size; omega); have hB6 := hBl5.alloc hBl5.size (.cells #[.string r1, .string r2, .string r3, .string r4, .string r5, .string r6] 25))
      | (go_at_call 20; with_reducible refine (CVu.out _ (hM0.below hB6 (Nat.le_refl _))).mono ?_; rintro x w6 ⟨rfl, hb6⟩; have hBl6 := hB6.trans (hb6.mono hB6.size); have hr6 := brule hBl6)
      | (go_at_call 19; with_reducible refine (CFv.out _).mono ?_; rintro x w7 ⟨rfl, hb7⟩; have hBl7 := hBl6.trans (hb7.mono hBl6.size); have hr7 := brule hBl7)
      | (go_at_call 13; with_reducible refine (CPv.out _ (hM0.below hBl7 (Nat.le_refl _))).mono ?_; rintro x w8 ⟨rfl, hb8⟩; have hBl8 := hBl7.trans (hb8.mono hBl7.size); have hr8 := brule hBl8))
    have hM8 := hM0.below hBl8 (Nat.le_refl _)
    have hk8 := Nat.lt_of_lt_of_le hk0 hBl8.size
    have S8 := And.intro ((hr8 K 0 hk0).trans c0) (And.intro ((hr8 K 1 hk0).trans c1) (And.intro ((hr8 K 2 hk0).trans c2) (And.intro ((hr8 K 3 hk0).trans c3) (And.intro ((hr8 K 4 hk0).trans c4) ((hr8 K 5 hk0).trans c5)))))
    obtain ⟨wa, hwa⟩ : ∃ wa : World, w8.alloc (.cells #[.string ⟨#[]⟩, .string ⟨#[]⟩, .string ⟨#[]⟩, .string ⟨#[]⟩, .string ⟨#[]⟩, .string ⟨#[]⟩] 25) = wa := ⟨_, rfl⟩
    obtain ⟨M, hm⟩ : ∃ M, w8.heap.size = M := ⟨_, rfl⟩
    have S1 := start12 (M := M) hM8 hk8 S8 hwa hm
    have hB9 := hBl8.alloc hBl8.size (.cells #[.string ⟨#[]⟩, .string ⟨#[]⟩, .string ⟨#[]⟩, .string ⟨#[]⟩, .string ⟨#[]⟩, .string ⟨#[]⟩] 25)
    have hkl : K < wa.heap.size := (by rw [← hwa]; simp; omega)
    have hml : M < wa.heap.size := (by rw [← hwa, ← hm]; simp)
    rw [hwa] at hB9
    rw [hwa, hm]
    clear hwa hm S8 hr8
    obtain ⟨a0, a1, a2, a3, a4, a5, -, -, -, -, -, -, hMa, -⟩ := S1
    go_region_with (first
      | (go_at_call 19; with_reducible refine (CFv.out _).mono ?_; rintro x wb ⟨rfl, hbb'⟩; have hbb := drew_below hbb'; clear hbb'; have hMb := hMa.below hbb (Nat.le_refl _); have hcb := brule hbb; have hBb := hB9.trans (hbb.mono hB9.size))
      | (go_at_call 21; with_reducible refine (CRv.out _).mono ?_; rintro x wc ⟨rfl, hbc⟩; have hMc := hMb.below hbc (Nat.le_refl _); have hcc := brule hbc; have hkb := Nat.lt_of_lt_of_le hkl hbb.size; have hBc := hBb.trans (hbc.mono hBb.size))
      | (go_at_call 20; with_reducible refine (CVv.out _ hMc).mono ?_; rintro x wd ⟨rfl, hbd⟩; have hBd := hBc.trans (hbd.mono hBc.size)))
    all_goals
      go_wp2_with fail
      go_ret
      rw [HK.out]
      exact ⟨rfl, hB0.trans (hBd.mono (Nat.le_of_lt hk0))⟩
  | some v =>
    obtain ⟨p1, p2, p3, p4, p5, p6, hp⟩ := some_bytes hR
    rw [hp] at hv
    have CPv := Lib.hid (fun w hM => parse_some FV w (by omega) hM p1 p2 p3 p4 p5 p6 hp)
    rcases cmp_cases p1 p2 p3 p4 p5 p6 a b c d e f with ⟨hq, g1, g2, g3, g4, g5, g6⟩ | ⟨hq, g1, g2⟩ | ⟨hq, g1, g2, g3⟩ | ⟨hq, g1, g2, g3, g4⟩ | ⟨hq, g1, g2, g3, g4, g5⟩ | ⟨hq, g1, g2, g3, g4, g5, g6⟩ | ⟨hq, g1, g2, g3, g4, g5, g6, g7⟩
    all_goals
      replace CVv := Lib.hid (CVv _ (hv.trans hq))
      clear hR hv hp hq
      go_enter Tryd.func5, Tryd.ntmps5
      go_wp2_with fail
      have S0 := new6 w (.string a) (.string b) (.string c) (.string d) (.string e) (.string f) 25
      have hB0 : Below w.heap.size w (w.alloc (.cells #[.string a, .string b, .string c, .string d, .string e, .string f] 25)) := (Below.refl _ w).alloc (Nat.le_refl _) _
      have hk0 : w.heap.size < (w.alloc (.cells #[.string a, .string b, .string c, .string d, .string e, .string f] 25)).heap.size := (by simp)
      have hM0 := hM.below hB0 (Nat.le_refl _)
      obtain ⟨w0, hw0⟩ : ∃ w0 : World, w.alloc (.cells #[.string a, .string b, .string c, .string d, .string e, .string f] 25) = w0 := ⟨_, rfl⟩
      obtain ⟨K, hK⟩ : ∃ K, w.heap.size = K := ⟨_, rfl⟩
      rw [hw0] at S0 hB0 hk0 hM0
      rw [hK] at S0 hk0 hB0
      rw [hw0, hK]
      clear hw0
      obtain ⟨c0, c1, c2, c3, c4, c5⟩ := S0
      have CF := Lib.hid (fit_any w0 hM0)
      have HK := Lib.hid hK
      clear hK
      go_wp2_with (first
        | (go_at_call 11; with_reducible refine CF.out.mono ?_; rintro x w1 ⟨rfl, hb1⟩; have hr1 := brule hb1; have hk1 := Nat.lt_of_lt_of_le hk0 hb1.size)
        | (go_at_call 12; with_reducible refine (CW.out _ _ (by simp)).mono ?_; rintro x w2 ⟨rfl, rfl⟩; have hB2 := hb1.alloc hb1.size (.cells #[.string s] 9))
        | (go_at_call 18; with_reducible refine (CSh.out _).mono ?_; rintro x w2 ⟨rfl, hb2⟩; have hBl2 := hB2.trans (hb2.mono hB2.size); have hr2 := brule hBl2)
        | (go_at_call 13; with_reducible refine (CPs.out _ (hM0.below hBl2 (Nat.le_refl _))).mono ?_; rintro x w3 ⟨rfl, hb3⟩; have hBl3 := hBl2.trans (hb3.mono hBl2.size); have hr3 := brule hBl3; have hk3 := Nat.lt_of_lt_of_le hk0 hBl3.size; have hB4 := hBl3.alloc hBl3.size (.cells #[.string r1, .string r2, .string r3, .string r4, .string r5, .string r6] 25))
        | (go_at_call 19; with_reducible refine (CFu.out _).mono ?_; rintro x w4 ⟨rfl, hb4⟩; have hBl4 := hB4.trans (hb4.mono hB4.size); have hr4 := brule hBl4; have hk4 := Nat.lt_of_lt_of_le hk0 hBl4.size; have hc4 := brule hb4; have hz4 : w3.heap.size < w4.heap.size := (by have := hb4.size; simp at this; omega))
        | (go_at_call 13; with_reducible refine (CPu.out _ (hM0.below hBl4 (Nat.le_refl _))).mono ?_; rintro x w5 ⟨rfl, hb5⟩; have hBl5 := hBl4.trans (hb5.mono hBl4.size); have hr5 := brule hBl5; have hk5 := Nat.lt_of_lt_of_le hk0 hBl5.size; have hc5 := brule hb5; have hz5 : w3.heap.size < w5.heap.size := (by have := hb5.size; omega); have hB6 := hBl5.alloc hBl5.size (.cells #[.string r1, .string r2, .string r3, .string r4, .string r5, .string r6] 25))
        | (go_at_call 20; with_reducible refine (CVu.out _ (hM0.below hB6 (Nat.le_refl _))).mono ?_; rintro x w6 ⟨rfl, hb6⟩; have hBl6 := hB6.trans (hb6.mono hB6.size); have hr6 := brule hBl6)
        | (go_at_call 19; with_reducible refine (CFv.out _).mono ?_; rintro x w7 ⟨rfl, hb7⟩; have hBl7 := hBl6.trans (hb7.mono hBl6.size); have hr7 := brule hBl7)
        | (go_at_call 13; with_reducible refine (CPv.out _ (hM0.below hBl7 (Nat.le_refl _))).mono ?_; rintro x w8 ⟨rfl, hb8⟩; have hBl8 := hBl7.trans (hb8.mono hBl7.size); have hr8 := brule hBl8))
      have hM8 := hM0.below hBl8 (Nat.le_refl _)
      have hk8 := Nat.lt_of_lt_of_le hk0 hBl8.size
      have S8 := And.intro ((hr8 K 0 hk0).trans c0) (And.intro ((hr8 K 1 hk0).trans c1) (And.intro ((hr8 K 2 hk0).trans c2) (And.intro ((hr8 K 3 hk0).trans c3) (And.intro ((hr8 K 4 hk0).trans c4) ((hr8 K 5 hk0).trans c5)))))
      obtain ⟨wa, hwa⟩ : ∃ wa : World, w8.alloc (.cells #[.string p1, .string p2, .string p3, .string p4, .string p5, .string p6] 25) = wa := ⟨_, rfl⟩
      obtain ⟨M, hm⟩ : ∃ M, w8.heap.size = M := ⟨_, rfl⟩
      have S1 := start12 (M := M) hM8 hk8 S8 hwa hm
      have hB9 := hBl8.alloc hBl8.size (.cells #[.string p1, .string p2, .string p3, .string p4, .string p5, .string p6] 25)
      have hkl : K < wa.heap.size := (by rw [← hwa]; simp; omega)
      have hml : M < wa.heap.size := (by rw [← hwa, ← hm]; simp)
      rw [hwa] at hB9
      rw [hwa, hm]
      clear hwa hm S8 hr8
      go_region_held3 (fun w' => w'.cell? ⟨K, 0, none⟩ = some (.string a) ∧ w'.cell? ⟨K, 1, none⟩ = some (.string b) ∧ w'.cell? ⟨K, 2, none⟩ = some (.string c) ∧ w'.cell? ⟨K, 3, none⟩ = some (.string d) ∧ w'.cell? ⟨K, 4, none⟩ = some (.string e) ∧ w'.cell? ⟨K, 5, none⟩ = some (.string f) ∧ w'.cell? ⟨M, 0, none⟩ = some (.string p1) ∧ w'.cell? ⟨M, 1, none⟩ = some (.string p2) ∧ w'.cell? ⟨M, 2, none⟩ = some (.string p3) ∧ w'.cell? ⟨M, 3, none⟩ = some (.string p4) ∧ w'.cell? ⟨M, 4, none⟩ = some (.string p5) ∧ w'.cell? ⟨M, 5, none⟩ = some (.string p6) ∧ MaxAt w' ∧ Below wa.heap.size wa w') (first | exact drew12 hkl hml S1 | (apply snext12 hkl hml; rotate_left; assumption; assumption) | go_keep) (first | (go_at_call 19; with_reducible refine (CFv.out _).mono ?_; rintro x w4 ⟨rfl, hb4⟩) | (go_at_call 21; with_reducible refine (CRv.out _).mono ?_; rintro x w5 ⟨rfl, hb5⟩) | (go_at_call 20; with_reducible refine (CVv.out _ (max12 (by assumption))).mono ?_; rintro x w6 ⟨rfl, hb6⟩))
      go_wp2_with fail
      go_ret
      rw [HK.out]
      exact ⟨rfl, hB0.trans ((hB9.trans ((bel12 (by assumption)).mono hB9.size)).mono (Nat.le_of_lt hk0))⟩
end Go.Proofs.YtgbinadjbikhhaaDoor
