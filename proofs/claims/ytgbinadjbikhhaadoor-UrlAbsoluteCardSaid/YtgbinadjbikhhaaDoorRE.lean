/- The reference's Resolve: the ways that parse a made text. -/
import Derived.Test.YtgbinadjbikhhaaDoorRD
import Derived.IntWalk
namespace Go.Proofs.YtgbinadjbikhhaaDoor
set_option linter.unusedVariables false
set_option linter.unusedSimpArgs false
open Go.RowKit

set_option maxRecDepth 20000 in
set_option maxHeartbeats 8000000 in
theorem rresolve6 (a b c d e f s T : ByteArray) (w : World) (hM : MaxAt w) (h : Pre a b c d e f s T) (h1 : schemeOk T.data.toList = false) (h2 : validB (a.data.toList, b.data.toList, c.data.toList, d.data.toList, e.data.toList, f.data.toList) = true) (h3 : 0 < T.size) (h4 : T.data.toList.head? ≠ some 35) (h5 : a.data.toList ≠ aboutL) (h6 : T.data.toList.take 2 = [47, 47]) (R : Option U6) (hR : (parseL (a.data.toList ++ 58 :: T.data.toList)) = R) :
    ResB a b c d e f s w R := by
  have hTs := h.size
  have CT := Lib.hid (fun w => rtrim_is s T w (by have := h.hs; omega) h.hT)
  have CS := Lib.hid (fun w => rscheme_no T w (by omega) h1)
  have CV := Lib.hid (fun w hM => rvalid_is a b c d e f w h.ha h.hb h.hc h.hd h.he h.hf hM true h2)
  obtain ⟨ha, hb, hc, hd, he, hf, hs, -⟩ := h
  have hE := nonempty_of T h3
  have hTi : (0 : Int) < (T.size : Int) := by omega
  have n35 : ((T[0].toNat : Int) == 35) = false := by rw [first_eq T 35 h3 35 rfl]; exact decide_eq_false h4
  have nab : (a.toList == [97, 98, 111, 117, 116]) = false := by rw [str_beq]; exact decide_eq_false h5
  have hT2 : 1 < T.size := by
    have := congrArg List.length h6
    rw [List.length_take, size_len] at this; simp at this; omega
  have hx : (a ++ ⟨#[58]⟩ ++ T).data.toList = a.data.toList ++ 58 :: T.data.toList := by rw [app_list, app_list, List.append_assoc]; rfl
  obtain ⟨r1, r2, r3, r4, r5, r6, Y, -, e1, -, cP⟩ := parse_known (a ++ ⟨#[58]⟩ ++ T) (by rw [size_of hx, List.length_append, List.length_cons, size_len, size_len]; omega)
  rw [hx, hR] at e1
  have hres := Lib.hid e1
  have CP := Lib.hid cP
  unfold ResB
  have hTj : (1 : Int) < (T.size : Int) := by omega
  have n2 : ((T.extract 0 2).toList == [47, 47]) = true := by rw [str_beq, ext_from]; exact decide_eq_true h6
  clear h1 h2 h4 h5 h6 e1 cP hx hR
  go_enter Tryd.func33, Tryd.ntmps33
  go_wp2_with fail
  have A0 := At6.new w (.string a) (.string b) (.string c) (.string d) (.string e) (.string f) 25
  have hB0 : Below w.heap.size w (w.alloc (.cells #[.string a, .string b, .string c, .string d, .string e, .string f] 25)) := (Below.refl _ w).alloc (Nat.le_refl _) _
  have A1 := A0.alloc (.cells #[.string ⟨#[]⟩, .string ⟨#[]⟩, .string ⟨#[]⟩, .string ⟨#[]⟩, .string ⟨#[]⟩, .string ⟨#[]⟩] 25)
  have A2 := At6.new (w.alloc (.cells #[.string a, .string b, .string c, .string d, .string e, .string f] 25)) (.string ⟨#[]⟩) (.string ⟨#[]⟩) (.string ⟨#[]⟩) (.string ⟨#[]⟩) (.string ⟨#[]⟩) (.string ⟨#[]⟩) 25
  have hB1 := hB0.alloc hB0.size (.cells #[.string ⟨#[]⟩, .string ⟨#[]⟩, .string ⟨#[]⟩, .string ⟨#[]⟩, .string ⟨#[]⟩, .string ⟨#[]⟩] 25)
  have hM1 := hM.below hB1 (Nat.le_refl _)
  rw [show (w.alloc (.cells #[.string a, .string b, .string c, .string d, .string e, .string f] 25)).heap.size = w.heap.size + 1 by simp] at A2
  obtain ⟨wa, hwa⟩ : ∃ wa : World, (w.alloc (.cells #[.string a, .string b, .string c, .string d, .string e, .string f] 25)).alloc (.cells #[.string ⟨#[]⟩, .string ⟨#[]⟩, .string ⟨#[]⟩, .string ⟨#[]⟩, .string ⟨#[]⟩, .string ⟨#[]⟩] 25) = wa := ⟨_, rfl⟩
  obtain ⟨K, hK⟩ : ∃ K, w.heap.size = K := ⟨_, rfl⟩
  obtain ⟨M, hm⟩ : ∃ M, w.heap.size + 1 = M := ⟨_, rfl⟩
  have hKM : K ≤ M := (by omega)
  have hne : ¬ K = M := (by omega)
  rw [hwa] at A1 A2 hB1 hM1
  rw [hm] at A2
  rw [hK] at A1 hB1
  rw [hwa, hm, hK]
  clear hwa hm A0 hB0
  have HK := Lib.hid hK
  have hBl := A2.blank
  clear hK
  have AK0 := A1
  have AM0 := A2
  obtain ⟨hkl, a0, a1, a2, a3, a4, a5, f0, f1, f2, f3, f4, f5⟩ := A1
  obtain ⟨hml, m0, m1, m2, m3, m4, m5, g0, g1, g2, g3, g4, g5⟩ := A2
  have hKa : K ≤ wa.heap.size := Nat.le_of_lt hkl
  go_wp2_with (first
    | (go_at_call 49; with_reducible refine (CT.out _).mono ?_; rintro x w' ⟨rfl, rfl⟩)
    | (go_at_call 50; with_reducible refine (CS.out _).mono ?_; rintro x w' ⟨rfl, rfl⟩)
    | (go_at_call 64; with_reducible refine (CV.out _ hM1).mono ?_; rintro x w2 ⟨rfl, hB2⟩; have hr2 := brule hB2; have hg2 := frule hB2; have hM3 := hM1.below hB2 (Nat.le_refl _))
    | (go_at_call 14; with_reducible refine (CP.out _ hM3).mono ?_; rintro x w3 ⟨rfl, hb3⟩; have hB3 := hB2.trans (hb3.mono hB2.size); have hr3 := brule hB3; have hg3 := frule hB3)
    )
  refine bodyPost_ret (url_at Tryd.results33 _ _ M (hBl.below hB3 hml) _ _ _ _ _ _ _ rfl rfl) rfl ⟨(congrArg Ending.returned hres.out).symm, ?_⟩
  rw [HK.out]
  exact below_set6 (hB1.trans (hB3.mono hKa)) hKM _ _ _ _ _ _
set_option maxRecDepth 20000 in
set_option maxHeartbeats 8000000 in
theorem rresolve7 (a b c d e f s T : ByteArray) (w : World) (hM : MaxAt w) (h : Pre a b c d e f s T) (h1 : schemeOk T.data.toList = false) (h2 : validB (a.data.toList, b.data.toList, c.data.toList, d.data.toList, e.data.toList, f.data.toList) = true) (h3 : 0 < T.size) (h4 : T.data.toList.head? ≠ some 35) (h5 : a.data.toList ≠ aboutL) (h6 : ¬ T.data.toList.take 2 = [47, 47]) (h7 : T.data.toList.head? = some 47) (R : Option U6) (hR : (parseL (placeL (a.data.toList, b.data.toList, c.data.toList, d.data.toList, e.data.toList, f.data.toList) ++ T.data.toList)) = R) :
    ResB a b c d e f s w R := by
  have hTs := h.size
  have CT := Lib.hid (fun w => rtrim_is s T w (by have := h.hs; omega) h.hT)
  have CS := Lib.hid (fun w => rscheme_no T w (by omega) h1)
  have CV := Lib.hid (fun w hM => rvalid_is a b c d e f w h.ha h.hb h.hc h.hd h.he h.hf hM true h2)
  obtain ⟨ha, hb, hc, hd, he, hf, hs, -⟩ := h
  have hE := nonempty_of T h3
  have hTi : (0 : Int) < (T.size : Int) := by omega
  have n35 : ((T[0].toNat : Int) == 35) = false := by rw [first_eq T 35 h3 35 rfl]; exact decide_eq_false h4
  have nab : (a.toList == [97, 98, 111, 117, 116]) = false := by rw [str_beq]; exact decide_eq_false h5
  have n47 : ((T[0].toNat : Int) == 47) = true := by rw [first_eq T 47 h3 47 rfl]; exact decide_eq_true h7
  obtain ⟨PL, hPL⟩ := list_bytes (placeL (a.data.toList, b.data.toList, c.data.toList, d.data.toList, e.data.toList, f.data.toList))
  have hPs := site_len a b c d e f
  rw [← hPL, size_len] at hPs
  have CSi := Lib.hid (fun w => place_is a b c d e f PL w (by omega) (by omega) (by omega) hPL)
  have hx : (PL ++ T).data.toList = placeL (a.data.toList, b.data.toList, c.data.toList, d.data.toList, e.data.toList, f.data.toList) ++ T.data.toList := by rw [app_list, hPL]
  obtain ⟨r1, r2, r3, r4, r5, r6, Y, -, e1, -, cP⟩ := parse_known (PL ++ T) (by simp; omega)
  rw [hx, hR] at e1
  have hres := Lib.hid e1
  have CP := Lib.hid cP
  unfold ResB
  by_cases h9 : 1 < T.size
  · have hTj : (1 : Int) < (T.size : Int) := by omega
    have n2 : ((T.extract 0 2).toList == [47, 47]) = false := by rw [str_beq, ext_from]; exact decide_eq_false h6
    clear h1 h2 h4 h5 h6 h7 e1 cP hx hR hPL
    go_enter Tryd.func33, Tryd.ntmps33
    go_wp2_with fail
    have A0 := At6.new w (.string a) (.string b) (.string c) (.string d) (.string e) (.string f) 25
    have hB0 : Below w.heap.size w (w.alloc (.cells #[.string a, .string b, .string c, .string d, .string e, .string f] 25)) := (Below.refl _ w).alloc (Nat.le_refl _) _
    have A1 := A0.alloc (.cells #[.string ⟨#[]⟩, .string ⟨#[]⟩, .string ⟨#[]⟩, .string ⟨#[]⟩, .string ⟨#[]⟩, .string ⟨#[]⟩] 25)
    have A2 := At6.new (w.alloc (.cells #[.string a, .string b, .string c, .string d, .string e, .string f] 25)) (.string ⟨#[]⟩) (.string ⟨#[]⟩) (.string ⟨#[]⟩) (.string ⟨#[]⟩) (.string ⟨#[]⟩) (.string ⟨#[]⟩) 25
    have hB1 := hB0.alloc hB0.size (.cells #[.string ⟨#[]⟩, .string ⟨#[]⟩, .string ⟨#[]⟩, .string ⟨#[]⟩, .string ⟨#[]⟩, .string ⟨#[]⟩] 25)
    have hM1 := hM.below hB1 (Nat.le_refl _)
    rw [show (w.alloc (.cells #[.string a, .string b, .string c, .string d, .string e, .string f] 25)).heap.size = w.heap.size + 1 by simp] at A2
    obtain ⟨wa, hwa⟩ : ∃ wa : World, (w.alloc (.cells #[.string a, .string b, .string c, .string d, .string e, .string f] 25)).alloc (.cells #[.string ⟨#[]⟩, .string ⟨#[]⟩, .string ⟨#[]⟩, .string ⟨#[]⟩, .string ⟨#[]⟩, .string ⟨#[]⟩] 25) = wa := ⟨_, rfl⟩
    obtain ⟨K, hK⟩ : ∃ K, w.heap.size = K := ⟨_, rfl⟩
    obtain ⟨M, hm⟩ : ∃ M, w.heap.size + 1 = M := ⟨_, rfl⟩
    have hKM : K ≤ M := (by omega)
    have hne : ¬ K = M := (by omega)
    rw [hwa] at A1 A2 hB1 hM1
    rw [hm] at A2
    rw [hK] at A1 hB1
    rw [hwa, hm, hK]
    clear hwa hm A0 hB0
    have HK := Lib.hid hK
    have hBl := A2.blank
    clear hK
    have AK0 := A1
    have AM0 := A2
    obtain ⟨hkl, a0, a1, a2, a3, a4, a5, f0, f1, f2, f3, f4, f5⟩ := A1
    obtain ⟨hml, m0, m1, m2, m3, m4, m5, g0, g1, g2, g3, g4, g5⟩ := A2
    have hKa : K ≤ wa.heap.size := Nat.le_of_lt hkl
    go_wp2_with (first
      | (go_at_call 49; with_reducible refine (CT.out _).mono ?_; rintro x w' ⟨rfl, rfl⟩)
      | (go_at_call 50; with_reducible refine (CS.out _).mono ?_; rintro x w' ⟨rfl, rfl⟩)
      | (go_at_call 64; with_reducible refine (CV.out _ hM1).mono ?_; rintro x w2 ⟨rfl, hB2⟩; have hr2 := brule hB2; have hg2 := frule hB2; have hM3 := hM1.below hB2 (Nat.le_refl _))
      | (go_at_call 57; with_reducible refine (CSi.out _).mono ?_; rintro x w3 ⟨rfl, hb3⟩; have hB3 := hB2.trans (hb3.mono hB2.size); have hr3 := brule hB3; have hg3 := frule hB3; have hM4 := hM1.below hB3 (Nat.le_refl _))
      | (go_at_call 14; with_reducible refine (CP.out _ hM4).mono ?_; rintro x w4 ⟨rfl, hb4⟩; have hB4 := hB3.trans (hb4.mono hB3.size); have hr4 := brule hB4; have hg4 := frule hB4)
      )
    refine bodyPost_ret (url_at Tryd.results33 _ _ M (hBl.below hB4 hml) _ _ _ _ _ _ _ rfl rfl) rfl ⟨(congrArg Ending.returned hres.out).symm, ?_⟩
    rw [HK.out]
    exact below_set6 (hB1.trans (hB4.mono hKa)) hKM _ _ _ _ _ _
  · have hTj : ¬ (1 : Int) < (T.size : Int) := by omega
    clear h1 h2 h4 h5 h6 h7 e1 cP hx hR hPL
    go_enter Tryd.func33, Tryd.ntmps33
    go_wp2_with fail
    have A0 := At6.new w (.string a) (.string b) (.string c) (.string d) (.string e) (.string f) 25
    have hB0 : Below w.heap.size w (w.alloc (.cells #[.string a, .string b, .string c, .string d, .string e, .string f] 25)) := (Below.refl _ w).alloc (Nat.le_refl _) _
    have A1 := A0.alloc (.cells #[.string ⟨#[]⟩, .string ⟨#[]⟩, .string ⟨#[]⟩, .string ⟨#[]⟩, .string ⟨#[]⟩, .string ⟨#[]⟩] 25)
    have A2 := At6.new (w.alloc (.cells #[.string a, .string b, .string c, .string d, .string e, .string f] 25)) (.string ⟨#[]⟩) (.string ⟨#[]⟩) (.string ⟨#[]⟩) (.string ⟨#[]⟩) (.string ⟨#[]⟩) (.string ⟨#[]⟩) 25
    have hB1 := hB0.alloc hB0.size (.cells #[.string ⟨#[]⟩, .string ⟨#[]⟩, .string ⟨#[]⟩, .string ⟨#[]⟩, .string ⟨#[]⟩, .string ⟨#[]⟩] 25)
    have hM1 := hM.below hB1 (Nat.le_refl _)
    rw [show (w.alloc (.cells #[.string a, .string b, .string c, .string d, .string e, .string f] 25)).heap.size = w.heap.size + 1 by simp] at A2
    obtain ⟨wa, hwa⟩ : ∃ wa : World, (w.alloc (.cells #[.string a, .string b, .string c, .string d, .string e, .string f] 25)).alloc (.cells #[.string ⟨#[]⟩, .string ⟨#[]⟩, .string ⟨#[]⟩, .string ⟨#[]⟩, .string ⟨#[]⟩, .string ⟨#[]⟩] 25) = wa := ⟨_, rfl⟩
    obtain ⟨K, hK⟩ : ∃ K, w.heap.size = K := ⟨_, rfl⟩
    obtain ⟨M, hm⟩ : ∃ M, w.heap.size + 1 = M := ⟨_, rfl⟩
    have hKM : K ≤ M := (by omega)
    have hne : ¬ K = M := (by omega)
    rw [hwa] at A1 A2 hB1 hM1
    rw [hm] at A2
    rw [hK] at A1 hB1
    rw [hwa, hm, hK]
    clear hwa hm A0 hB0
    have HK := Lib.hid hK
    have hBl := A2.blank
    clear hK
    have AK0 := A1
    have AM0 := A2
    obtain ⟨hkl, a0, a1, a2, a3, a4, a5, f0, f1, f2, f3, f4, f5⟩ := A1
    obtain ⟨hml, m0, m1, m2, m3, m4, m5, g0, g1, g2, g3, g4, g5⟩ := A2
    have hKa : K ≤ wa.heap.size := Nat.le_of_lt hkl
    go_wp2_with (first
      | (go_at_call 49; with_reducible refine (CT.out _).mono ?_; rintro x w' ⟨rfl, rfl⟩)
      | (go_at_call 50; with_reducible refine (CS.out _).mono ?_; rintro x w' ⟨rfl, rfl⟩)
      | (go_at_call 64; with_reducible refine (CV.out _ hM1).mono ?_; rintro x w2 ⟨rfl, hB2⟩; have hr2 := brule hB2; have hg2 := frule hB2; have hM3 := hM1.below hB2 (Nat.le_refl _))
      | (go_at_call 57; with_reducible refine (CSi.out _).mono ?_; rintro x w3 ⟨rfl, hb3⟩; have hB3 := hB2.trans (hb3.mono hB2.size); have hr3 := brule hB3; have hg3 := frule hB3; have hM4 := hM1.below hB3 (Nat.le_refl _))
      | (go_at_call 14; with_reducible refine (CP.out _ hM4).mono ?_; rintro x w4 ⟨rfl, hb4⟩; have hB4 := hB3.trans (hb4.mono hB3.size); have hr4 := brule hB4; have hg4 := frule hB4)
      )
    refine bodyPost_ret (url_at Tryd.results33 _ _ M (hBl.below hB4 hml) _ _ _ _ _ _ _ rfl rfl) rfl ⟨(congrArg Ending.returned hres.out).symm, ?_⟩
    rw [HK.out]
    exact below_set6 (hB1.trans (hB4.mono hKa)) hKM _ _ _ _ _ _
set_option maxRecDepth 20000 in
set_option maxHeartbeats 8000000 in
theorem rresolve8 (a b c d e f s T : ByteArray) (w : World) (hM : MaxAt w) (h : Pre a b c d e f s T) (h1 : schemeOk T.data.toList = false) (h2 : validB (a.data.toList, b.data.toList, c.data.toList, d.data.toList, e.data.toList, f.data.toList) = true) (h3 : 0 < T.size) (h4 : T.data.toList.head? ≠ some 35) (h5 : a.data.toList ≠ aboutL) (h6 : ¬ T.data.toList.take 2 = [47, 47]) (h7 : T.data.toList.head? ≠ some 47) (h8 : T.data.toList.head? = some 63) (R : Option U6) (hR : (parseL (placeL (a.data.toList, b.data.toList, c.data.toList, d.data.toList, e.data.toList, f.data.toList) ++ d.data.toList ++ T.data.toList)) = R) :
    ResB a b c d e f s w R := by
  have hTs := h.size
  have CT := Lib.hid (fun w => rtrim_is s T w (by have := h.hs; omega) h.hT)
  have CS := Lib.hid (fun w => rscheme_no T w (by omega) h1)
  have CV := Lib.hid (fun w hM => rvalid_is a b c d e f w h.ha h.hb h.hc h.hd h.he h.hf hM true h2)
  obtain ⟨ha, hb, hc, hd, he, hf, hs, -⟩ := h
  have hE := nonempty_of T h3
  have hTi : (0 : Int) < (T.size : Int) := by omega
  have n35 : ((T[0].toNat : Int) == 35) = false := by rw [first_eq T 35 h3 35 rfl]; exact decide_eq_false h4
  have nab : (a.toList == [97, 98, 111, 117, 116]) = false := by rw [str_beq]; exact decide_eq_false h5
  have n47 : ((T[0].toNat : Int) == 47) = false := by rw [first_eq T 47 h3 47 rfl]; exact decide_eq_false h7
  have n63 : ((T[0].toNat : Int) == 63) = true := by rw [first_eq T 63 h3 63 rfl]; exact decide_eq_true h8
  obtain ⟨PL, hPL⟩ := list_bytes (placeL (a.data.toList, b.data.toList, c.data.toList, d.data.toList, e.data.toList, f.data.toList))
  have hPs := site_len a b c d e f
  rw [← hPL, size_len] at hPs
  have CSi := Lib.hid (fun w => place_is a b c d e f PL w (by omega) (by omega) (by omega) hPL)
  have hx : (PL ++ d ++ T).data.toList = placeL (a.data.toList, b.data.toList, c.data.toList, d.data.toList, e.data.toList, f.data.toList) ++ d.data.toList ++ T.data.toList := by rw [app_list, app_list, hPL]
  obtain ⟨r1, r2, r3, r4, r5, r6, Y, -, e1, -, cP⟩ := parse_known (PL ++ d ++ T) (by rw [size_of hx, List.length_append, List.length_append, size_len, ← hPL, size_len, size_len]; omega)
  rw [hx, hR] at e1
  have hres := Lib.hid e1
  have CP := Lib.hid cP
  have o1 : ¬ 9223372036854775807 < PL.size + d.size := by omega
  have o2 : ¬ 9223372036854775807 < PL.size + d.size + T.size := by omega
  unfold ResB
  by_cases h9 : 1 < T.size
  · have hTj : (1 : Int) < (T.size : Int) := by omega
    have n2 : ((T.extract 0 2).toList == [47, 47]) = false := by rw [str_beq, ext_from]; exact decide_eq_false h6
    clear h1 h2 h4 h5 h6 h7 h8 e1 cP hx hR hPL
    go_enter Tryd.func33, Tryd.ntmps33
    go_wp2_with fail
    have A0 := At6.new w (.string a) (.string b) (.string c) (.string d) (.string e) (.string f) 25
    have hB0 : Below w.heap.size w (w.alloc (.cells #[.string a, .string b, .string c, .string d, .string e, .string f] 25)) := (Below.refl _ w).alloc (Nat.le_refl _) _
    have A1 := A0.alloc (.cells #[.string ⟨#[]⟩, .string ⟨#[]⟩, .string ⟨#[]⟩, .string ⟨#[]⟩, .string ⟨#[]⟩, .string ⟨#[]⟩] 25)
    have A2 := At6.new (w.alloc (.cells #[.string a, .string b, .string c, .string d, .string e, .string f] 25)) (.string ⟨#[]⟩) (.string ⟨#[]⟩) (.string ⟨#[]⟩) (.string ⟨#[]⟩) (.string ⟨#[]⟩) (.string ⟨#[]⟩) 25
    have hB1 := hB0.alloc hB0.size (.cells #[.string ⟨#[]⟩, .string ⟨#[]⟩, .string ⟨#[]⟩, .string ⟨#[]⟩, .string ⟨#[]⟩, .string ⟨#[]⟩] 25)
    have hM1 := hM.below hB1 (Nat.le_refl _)
    rw [show (w.alloc (.cells #[.string a, .string b, .string c, .string d, .string e, .string f] 25)).heap.size = w.heap.size + 1 by simp] at A2
    obtain ⟨wa, hwa⟩ : ∃ wa : World, (w.alloc (.cells #[.string a, .string b, .string c, .string d, .string e, .string f] 25)).alloc (.cells #[.string ⟨#[]⟩, .string ⟨#[]⟩, .string ⟨#[]⟩, .string ⟨#[]⟩, .string ⟨#[]⟩, .string ⟨#[]⟩] 25) = wa := ⟨_, rfl⟩
    obtain ⟨K, hK⟩ : ∃ K, w.heap.size = K := ⟨_, rfl⟩
    obtain ⟨M, hm⟩ : ∃ M, w.heap.size + 1 = M := ⟨_, rfl⟩
    have hKM : K ≤ M := (by omega)
    have hne : ¬ K = M := (by omega)
    rw [hwa] at A1 A2 hB1 hM1
    rw [hm] at A2
    rw [hK] at A1 hB1
    rw [hwa, hm, hK]
    clear hwa hm A0 hB0
    have HK := Lib.hid hK
    have hBl := A2.blank
    clear hK
    have AK0 := A1
    have AM0 := A2
    obtain ⟨hkl, a0, a1, a2, a3, a4, a5, f0, f1, f2, f3, f4, f5⟩ := A1
    obtain ⟨hml, m0, m1, m2, m3, m4, m5, g0, g1, g2, g3, g4, g5⟩ := A2
    have hKa : K ≤ wa.heap.size := Nat.le_of_lt hkl
    go_wp2_with (first
      | (go_at_call 49; with_reducible refine (CT.out _).mono ?_; rintro x w' ⟨rfl, rfl⟩)
      | (go_at_call 50; with_reducible refine (CS.out _).mono ?_; rintro x w' ⟨rfl, rfl⟩)
      | (go_at_call 64; with_reducible refine (CV.out _ hM1).mono ?_; rintro x w2 ⟨rfl, hB2⟩; have hr2 := brule hB2; have hg2 := frule hB2; have hM3 := hM1.below hB2 (Nat.le_refl _))
      )
    go_region_with (first
      | (go_at_call 57; with_reducible refine (CSi.out _).mono ?_; rintro x w3 ⟨rfl, hb3'⟩; have hb3 := drew_below hb3'; clear hb3'; have hB3 := hB2.trans (hb3.mono hB2.size); have hr3 := brule hB3; have hg3 := frule hB3; have hM4 := hM1.below hB3 (Nat.le_refl _))
      | (go_at_call 14; with_reducible refine (CP.out _ hM4).mono ?_; rintro x w4 ⟨rfl, hb4⟩; have hB4 := hB3.trans (hb4.mono hB3.size); have hr4 := brule hB4; have hg4 := frule hB4)
      )
    all_goals
      go_wp2_with fail
      refine bodyPost_ret (url_at Tryd.results33 _ _ M (hBl.below hB4 hml) _ _ _ _ _ _ _ rfl rfl) rfl ⟨(congrArg Ending.returned hres.out).symm, ?_⟩
      rw [HK.out]
      exact below_set6 (hB1.trans (hB4.mono hKa)) hKM _ _ _ _ _ _
  · have hTj : ¬ (1 : Int) < (T.size : Int) := by omega
    clear h1 h2 h4 h5 h6 h7 h8 e1 cP hx hR hPL
    go_enter Tryd.func33, Tryd.ntmps33
    go_wp2_with fail
    have A0 := At6.new w (.string a) (.string b) (.string c) (.string d) (.string e) (.string f) 25
    have hB0 : Below w.heap.size w (w.alloc (.cells #[.string a, .string b, .string c, .string d, .string e, .string f] 25)) := (Below.refl _ w).alloc (Nat.le_refl _) _
    have A1 := A0.alloc (.cells #[.string ⟨#[]⟩, .string ⟨#[]⟩, .string ⟨#[]⟩, .string ⟨#[]⟩, .string ⟨#[]⟩, .string ⟨#[]⟩] 25)
    have A2 := At6.new (w.alloc (.cells #[.string a, .string b, .string c, .string d, .string e, .string f] 25)) (.string ⟨#[]⟩) (.string ⟨#[]⟩) (.string ⟨#[]⟩) (.string ⟨#[]⟩) (.string ⟨#[]⟩) (.string ⟨#[]⟩) 25
    have hB1 := hB0.alloc hB0.size (.cells #[.string ⟨#[]⟩, .string ⟨#[]⟩, .string ⟨#[]⟩, .string ⟨#[]⟩, .string ⟨#[]⟩, .string ⟨#[]⟩] 25)
    have hM1 := hM.below hB1 (Nat.le_refl _)
    rw [show (w.alloc (.cells #[.string a, .string b, .string c, .string d, .string e, .string f] 25)).heap.size = w.heap.size + 1 by simp] at A2
    obtain ⟨wa, hwa⟩ : ∃ wa : World, (w.alloc (.cells #[.string a, .string b, .string c, .string d, .string e, .string f] 25)).alloc (.cells #[.string ⟨#[]⟩, .string ⟨#[]⟩, .string ⟨#[]⟩, .string ⟨#[]⟩, .string ⟨#[]⟩, .string ⟨#[]⟩] 25) = wa := ⟨_, rfl⟩
    obtain ⟨K, hK⟩ : ∃ K, w.heap.size = K := ⟨_, rfl⟩
    obtain ⟨M, hm⟩ : ∃ M, w.heap.size + 1 = M := ⟨_, rfl⟩
    have hKM : K ≤ M := (by omega)
    have hne : ¬ K = M := (by omega)
    rw [hwa] at A1 A2 hB1 hM1
    rw [hm] at A2
    rw [hK] at A1 hB1
    rw [hwa, hm, hK]
    clear hwa hm A0 hB0
    have HK := Lib.hid hK
    have hBl := A2.blank
    clear hK
    have AK0 := A1
    have AM0 := A2
    obtain ⟨hkl, a0, a1, a2, a3, a4, a5, f0, f1, f2, f3, f4, f5⟩ := A1
    obtain ⟨hml, m0, m1, m2, m3, m4, m5, g0, g1, g2, g3, g4, g5⟩ := A2
    have hKa : K ≤ wa.heap.size := Nat.le_of_lt hkl
    go_wp2_with (first
      | (go_at_call 49; with_reducible refine (CT.out _).mono ?_; rintro x w' ⟨rfl, rfl⟩)
      | (go_at_call 50; with_reducible refine (CS.out _).mono ?_; rintro x w' ⟨rfl, rfl⟩)
      | (go_at_call 64; with_reducible refine (CV.out _ hM1).mono ?_; rintro x w2 ⟨rfl, hB2⟩; have hr2 := brule hB2; have hg2 := frule hB2; have hM3 := hM1.below hB2 (Nat.le_refl _))
      )
    go_region_with (first
      | (go_at_call 57; with_reducible refine (CSi.out _).mono ?_; rintro x w3 ⟨rfl, hb3'⟩; have hb3 := drew_below hb3'; clear hb3'; have hB3 := hB2.trans (hb3.mono hB2.size); have hr3 := brule hB3; have hg3 := frule hB3; have hM4 := hM1.below hB3 (Nat.le_refl _))
      | (go_at_call 14; with_reducible refine (CP.out _ hM4).mono ?_; rintro x w4 ⟨rfl, hb4⟩; have hB4 := hB3.trans (hb4.mono hB3.size); have hr4 := brule hB4; have hg4 := frule hB4)
      )
    all_goals
      go_wp2_with fail
      refine bodyPost_ret (url_at Tryd.results33 _ _ M (hBl.below hB4 hml) _ _ _ _ _ _ _ rfl rfl) rfl ⟨(congrArg Ending.returned hres.out).symm, ?_⟩
      rw [HK.out]
      exact below_set6 (hB1.trans (hB4.mono hKa)) hKM _ _ _ _ _ _
end Go.Proofs.YtgbinadjbikhhaaDoor
