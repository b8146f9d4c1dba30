/- The reference's Resolve: the first ways. -/
import Derived.Test.YtgbinadjbikhhaaDoorRB
import Derived.Test.YtgbinadjbikhhaaDoorLV2
namespace Go.Proofs.YtgbinadjbikhhaaDoor
set_option linter.unusedVariables false
set_option linter.unusedSimpArgs false
open Go.RowKit

theorem kcell {w2 w3 : World} {K : Nat} {v f : Value} (hb3 : Below (w2.setCell ⟨K, 5, none⟩ v).heap.size (w2.setCell ⟨K, 5, none⟩ v) w3) (hk2 : K < w2.heap.size) (h : w2.cell? ⟨K, 5, none⟩ = some f) : w3.cell? ⟨K, 5, none⟩ = some v :=
  (hb3.cell (p := ⟨K, 5, none⟩) (by rw [World.size_setCell]; exact hk2)).trans (World.cell?_setCell_same' w2 _ v (by rw [h]; rfl))
theorem rvalid_is (a b c d e f : ByteArray) (w : World) (ha : a.size ≤ 40000) (hb : b.size ≤ 40000) (hc : c.size ≤ 40000) (hd : d.size ≤ 40000) (he : e.size ≤ 40000) (hf : f.size ≤ 40000) (hM : MaxAt w) (B : Bool) (hB : validB (a.data.toList, b.data.toList, c.data.toList, d.data.toList, e.data.toList, f.data.toList) = B) :
    Calls Tryd.prog 64 #[.agg #[.string a, .string b, .string c, .string d, .string e, .string f]] w fun x w' => x = .returned (.bool B) ∧ Below w.heap.size w w' := by
  rw [← hB]; exact rvalid_any a b c d e f w ha hb hc hd he hf hM
theorem rscheme_no (T : ByteArray) (w : World) (hs : T.size ≤ 1000000) (h : schemeOk T.data.toList = false) : Calls Tryd.prog 50 #[.string T] w fun x w' => x = .returned (.int .i64 (-1)) ∧ w = w' := by
  have := rscheme_any T w hs
  rwa [show schemeN T.data.toList = -1 by rw [schemeN, h]; rfl] at this
theorem rscheme_yes (T : ByteArray) (w : World) (hs : T.size ≤ 1000000) (h : schemeOk T.data.toList = true) : Calls Tryd.prog 50 #[.string T] w fun x w' => x = .returned (.int .i64 ((pre 58 T.data.toList).length : Nat)) ∧ w = w' := by
  have := rscheme_any T w hs
  rwa [show schemeN T.data.toList = ((pre 58 T.data.toList).length : Nat) by rw [schemeN, if_pos h]] at this
abbrev ResB (a b c d e f s : ByteArray) (w : World) (o : Option U6) : Prop := Calls Tryd.prog 33 #[.agg #[.string a, .string b, .string c, .string d, .string e, .string f], .string s] w fun x w' => x = .returned (resB o) ∧ Below w.heap.size w w'
set_option maxRecDepth 20000 in
set_option maxHeartbeats 8000000 in
theorem rresolve1 (a b c d e f s T : ByteArray) (w : World) (hM : MaxAt w) (h : Pre a b c d e f s T) (h1 : schemeOk T.data.toList = true)   (R : Option U6) (hR : (parseL T.data.toList) = R) :
    ResB a b c d e f s w R := by
  have hTs := h.size
  have CT := Lib.hid (fun w => rtrim_is s T w (by have := h.hs; omega) h.hT)
  have CS0 := fun w => rscheme_yes T w (by omega) h1
  obtain ⟨LL, hLL⟩ : ∃ LL, (pre 58 T.data.toList).length = LL := ⟨_, rfl⟩
  rw [hLL] at CS0
  have CS := Lib.hid CS0
  clear CS0 hLL
  obtain ⟨ha, hb, hc, hd, he, hf, hs, -⟩ := h
  obtain ⟨r1, r2, r3, r4, r5, r6, Y, -, e1, -, cP⟩ := parse_known (T) (by omega)
  rw [hR] at e1
  have hres := Lib.hid e1
  have CP := Lib.hid cP
  unfold ResB
  clear h1 e1 cP hR
  go_enter Tryd.func33, Tryd.ntmps33
  go_wp2_with fail
  have A0 := At6.new w (.string a) (.string b) (.string c) (.string d) (.string e) (.string f) 25
  have hB0 : Below w.heap.size w (w.alloc (.cells #[.string a, .string b, .string c, .string d, .string e, .string f] 25)) := (Below.refl _ w).alloc (Nat.le_refl _) _
  have A1 := A0.alloc (.cells #[.string ⟨#[]⟩, .string ⟨#[]⟩, .string ⟨#[]⟩, .string ⟨#[]⟩, .string ⟨#[]⟩, .string ⟨#[]⟩] 25)
  have A2 := At6.new (w.alloc (.cells #[.string a, .string b, .string c, .string d, .string e, .string f] 25)) (.string ⟨#[]⟩) (.string ⟨#[]⟩) (.string ⟨#[]⟩) (.string ⟨#[]⟩) (.string ⟨#[]⟩) (.string ⟨#[]⟩) 25
  have hB1 := hB0.alloc hB0.size (.cells #[.string ⟨#[]⟩, .string ⟨#[]⟩, .string ⟨#[]⟩, .string ⟨#[]⟩, .string ⟨#[]⟩, .string ⟨#[]⟩] 25)
  have hM1 := hM.below hB1 (Nat.le_refl _)
  rw [show (w.alloc (.cells #[.string a, .string b, .string c, .string d, .string e, .string f] 25)).heap.size = w.heap.size + 1 by simp] at A2
  obtain ⟨wa, hwa⟩ : ∃ wa : World, (w.alloc (.cells #[.string a, .string b, .string c, .string d, .string e, .string f] 25)).alloc (.cells #[.string ⟨#[]⟩, .string ⟨#[]⟩, .string ⟨#[]⟩, .string ⟨#[]⟩, .string ⟨#[]⟩, .string ⟨#[]⟩] 25) = wa := ⟨_, rfl⟩
  obtain ⟨K, hK⟩ : ∃ K, w.heap.size = K := ⟨_, rfl⟩
  obtain ⟨M, hm⟩ : ∃ M, w.heap.size + 1 = M := ⟨_, rfl⟩
  have hKM : K ≤ M := (by omega)
  have hne : ¬ K = M := (by omega)
  rw [hwa] at A1 A2 hB1 hM1
  rw [hm] at A2
  rw [hK] at A1 hB1
  rw [hwa, hm, hK]
  clear hwa hm A0 hB0
  have HK := Lib.hid hK
  have hBl := A2.blank
  clear hK
  have AK0 := A1
  have AM0 := A2
  obtain ⟨hkl, a0, a1, a2, a3, a4, a5, f0, f1, f2, f3, f4, f5⟩ := A1
  obtain ⟨hml, m0, m1, m2, m3, m4, m5, g0, g1, g2, g3, g4, g5⟩ := A2
  have hKa : K ≤ wa.heap.size := Nat.le_of_lt hkl
  go_wp2_with (first
    | (go_at_call 49; with_reducible refine (CT.out _).mono ?_; rintro x w' ⟨rfl, rfl⟩)
    | (go_at_call 50; with_reducible refine (CS.out _).mono ?_; rintro x w' ⟨rfl, rfl⟩)
    | (go_at_call 14; with_reducible refine (CP.out _ hM1).mono ?_; rintro x w2 ⟨rfl, hB2⟩; have hr2 := brule hB2; have hg2 := frule hB2)
    )
  refine bodyPost_ret (url_at Tryd.results33 _ _ M (hBl.below hB2 hml) _ _ _ _ _ _ _ rfl rfl) rfl ⟨(congrArg Ending.returned hres.out).symm, ?_⟩
  rw [HK.out]
  exact below_set6 (hB1.trans (hB2.mono hKa)) hKM _ _ _ _ _ _
set_option maxRecDepth 20000 in
set_option maxHeartbeats 8000000 in
theorem rresolve2 (a b c d e f s T : ByteArray) (w : World) (hM : MaxAt w) (h : Pre a b c d e f s T) (h1 : schemeOk T.data.toList = false) (h2 : validB (a.data.toList, b.data.toList, c.data.toList, d.data.toList, e.data.toList, f.data.toList) = false)  (R : Option U6) (hR : none = R) :
    ResB a b c d e f s w R := by
  have hTs := h.size
  have CT := Lib.hid (fun w => rtrim_is s T w (by have := h.hs; omega) h.hT)
  have CS := Lib.hid (fun w => rscheme_no T w (by omega) h1)
  have CV := Lib.hid (fun w hM => rvalid_is a b c d e f w h.ha h.hb h.hc h.hd h.he h.hf hM false h2)
  obtain ⟨ha, hb, hc, hd, he, hf, hs, -⟩ := h
  have hres : resB R = .tuple #[.agg #[.string ⟨#[]⟩, .string ⟨#[]⟩, .string ⟨#[]⟩, .string ⟨#[]⟩, .string ⟨#[]⟩, .string ⟨#[]⟩], .bool false] := by rw [← hR]; rfl
  replace hres := Lib.hid hres
  unfold ResB
  clear h1 h2 hR
  go_enter Tryd.func33, Tryd.ntmps33
  go_wp2_with fail
  have A0 := At6.new w (.string a) (.string b) (.string c) (.string d) (.string e) (.string f) 25
  have hB0 : Below w.heap.size w (w.alloc (.cells #[.string a, .string b, .string c, .string d, .string e, .string f] 25)) := (Below.refl _ w).alloc (Nat.le_refl _) _
  have A1 := A0.alloc (.cells #[.string ⟨#[]⟩, .string ⟨#[]⟩, .string ⟨#[]⟩, .string ⟨#[]⟩, .string ⟨#[]⟩, .string ⟨#[]⟩] 25)
  have A2 := At6.new (w.alloc (.cells #[.string a, .string b, .string c, .string d, .string e, .string f] 25)) (.string ⟨#[]⟩) (.string ⟨#[]⟩) (.string ⟨#[]⟩) (.string ⟨#[]⟩) (.string ⟨#[]⟩) (.string ⟨#[]⟩) 25
  have hB1 := hB0.alloc hB0.size (.cells #[.string ⟨#[]⟩, .string ⟨#[]⟩, .string ⟨#[]⟩, .string ⟨#[]⟩, .string ⟨#[]⟩, .string ⟨#[]⟩] 25)
  have hM1 := hM.below hB1 (Nat.le_refl _)
  rw [show (w.alloc (.cells #[.string a, .string b, .string c, .string d, .string e, .string f] 25)).heap.size = w.heap.size + 1 by simp] at A2
  obtain ⟨wa, hwa⟩ : ∃ wa : World, (w.alloc (.cells #[.string a, .string b, .string c, .string d, .string e, .string f] 25)).alloc (.cells #[.string ⟨#[]⟩, .string ⟨#[]⟩, .string ⟨#[]⟩, .string ⟨#[]⟩, .string ⟨#[]⟩, .string ⟨#[]⟩] 25) = wa := ⟨_, rfl⟩
  obtain ⟨K, hK⟩ : ∃ K, w.heap.size = K := ⟨_, rfl⟩
  obtain ⟨M, hm⟩ : ∃ M, w.heap.size + 1 = M := ⟨_, rfl⟩
  have hKM : K ≤ M := (by omega)
  have hne : ¬ K = M := (by omega)
  rw [hwa] at A1 A2 hB1 hM1
  rw [hm] at A2
  rw [hK] at A1 hB1
  rw [hwa, hm, hK]
  clear hwa hm A0 hB0
  have HK := Lib.hid hK
  have hBl := A2.blank
  clear hK
  have AK0 := A1
  have AM0 := A2
  obtain ⟨hkl, a0, a1, a2, a3, a4, a5, f0, f1, f2, f3, f4, f5⟩ := A1
  obtain ⟨hml, m0, m1, m2, m3, m4, m5, g0, g1, g2, g3, g4, g5⟩ := A2
  have hKa : K ≤ wa.heap.size := Nat.le_of_lt hkl
  go_wp2_with (first
    | (go_at_call 49; with_reducible refine (CT.out _).mono ?_; rintro x w' ⟨rfl, rfl⟩)
    | (go_at_call 50; with_reducible refine (CS.out _).mono ?_; rintro x w' ⟨rfl, rfl⟩)
    | (go_at_call 64; with_reducible refine (CV.out _ hM1).mono ?_; rintro x w2 ⟨rfl, hB2⟩; have hr2 := brule hB2; have hg2 := frule hB2; have hM3 := hM1.below hB2 (Nat.le_refl _))
    )
  refine bodyPost_ret (url_at Tryd.results33 _ _ M (hBl.below hB2 hml) _ _ _ _ _ _ _ rfl rfl) rfl ⟨(congrArg Ending.returned hres.out).symm, ?_⟩
  rw [HK.out]
  exact below_set6 (hB1.trans (hB2.mono hKa)) hKM _ _ _ _ _ _
set_option maxRecDepth 20000 in
set_option maxHeartbeats 8000000 in
theorem rresolve3 (a b c d e f s T : ByteArray) (w : World) (hM : MaxAt w) (h : Pre a b c d e f s T) (h1 : schemeOk T.data.toList = false) (h2 : validB (a.data.toList, b.data.toList, c.data.toList, d.data.toList, e.data.toList, f.data.toList) = true) (h3 : T.size = 0) (R : Option U6) (hR : (some (a.data.toList, b.data.toList, c.data.toList, d.data.toList, e.data.toList, [])) = R) :
    ResB a b c d e f s w R := by
  have hTs := h.size
  have CT := Lib.hid (fun w => rtrim_is s T w (by have := h.hs; omega) h.hT)
  have CS := Lib.hid (fun w => rscheme_no T w (by omega) h1)
  have CV := Lib.hid (fun w hM => rvalid_is a b c d e f w h.ha h.hb h.hc h.hd h.he h.hf hM true h2)
  obtain ⟨ha, hb, hc, hd, he, hf, hs, -⟩ := h
  have hE := empty_of T h3
  have hTi : (T.size : Int) = 0 := by omega
  have hres : resB R = .tuple #[.agg #[.string a, .string b, .string c, .string d, .string e, .string ⟨#[]⟩], .bool true] := by rw [← hR]; rfl
  replace hres := Lib.hid hres
  unfold ResB
  clear h1 h2 h3 hR
  go_enter Tryd.func33, Tryd.ntmps33
  go_wp2_with fail
  have A0 := At6.new w (.string a) (.string b) (.string c) (.string d) (.string e) (.string f) 25
  have hB0 : Below w.heap.size w (w.alloc (.cells #[.string a, .string b, .string c, .string d, .string e, .string f] 25)) := (Below.refl _ w).alloc (Nat.le_refl _) _
  have A1 := A0.alloc (.cells #[.string ⟨#[]⟩, .string ⟨#[]⟩, .string ⟨#[]⟩, .string ⟨#[]⟩, .string ⟨#[]⟩, .string ⟨#[]⟩] 25)
  have A2 := At6.new (w.alloc (.cells #[.string a, .string b, .string c, .string d, .string e, .string f] 25)) (.string ⟨#[]⟩) (.string ⟨#[]⟩) (.string ⟨#[]⟩) (.string ⟨#[]⟩) (.string ⟨#[]⟩) (.string ⟨#[]⟩) 25
  have hB1 := hB0.alloc hB0.size (.cells #[.string ⟨#[]⟩, .string ⟨#[]⟩, .string ⟨#[]⟩, .string ⟨#[]⟩, .string ⟨#[]⟩, .string ⟨#[]⟩] 25)
  have hM1 := hM.below hB1 (Nat.le_refl _)
  rw [show (w.alloc (.cells #[.string a, .string b, .string c, .string d, .string e, .string f] 25)).heap.size = w.heap.size + 1 by simp] at A2
  obtain ⟨wa, hwa⟩ : ∃ wa : World, (w.alloc (.cells #[.string a, .string b, .string c, .string d, .string e, .string f] 25)).alloc (.cells #[.string ⟨#[]⟩, .string ⟨#[]⟩, .string ⟨#[]⟩, .string ⟨#[]⟩, .string ⟨#[]⟩, .string ⟨#[]⟩] 25) = wa := ⟨_, rfl⟩
  obtain ⟨K, hK⟩ : ∃ K, w.heap.size = K := ⟨_, rfl⟩
  obtain ⟨M, hm⟩ : ∃ M, w.heap.size + 1 = M := ⟨_, rfl⟩
  have hKM : K ≤ M := (by omega)
  have hne : ¬ K = M := (by omega)
  rw [hwa] at A1 A2 hB1 hM1
  rw [hm] at A2
  rw [hK] at A1 hB1
  rw [hwa, hm, hK]
  clear hwa hm A0 hB0
  have HK := Lib.hid hK
  have hBl := A2.blank
  clear hK
  have AK0 := A1
  have AM0 := A2
  obtain ⟨hkl, a0, a1, a2, a3, a4, a5, f0, f1, f2, f3, f4, f5⟩ := A1
  obtain ⟨hml, m0, m1, m2, m3, m4, m5, g0, g1, g2, g3, g4, g5⟩ := A2
  have hKa : K ≤ wa.heap.size := Nat.le_of_lt hkl
  go_wp2_with (first
    | (go_at_call 49; with_reducible refine (CT.out _).mono ?_; rintro x w' ⟨rfl, rfl⟩)
    | (go_at_call 50; with_reducible refine (CS.out _).mono ?_; rintro x w' ⟨rfl, rfl⟩)
    | (go_at_call 64; with_reducible refine (CV.out _ hM1).mono ?_; rintro x w2 ⟨rfl, hB2⟩; have hr2 := brule hB2; have hg2 := frule hB2; have hM3 := hM1.below hB2 (Nat.le_refl _))
    )
  refine bodyPost_ret (v := .tuple #[.agg #[.string a, .string b, .string c, .string d, .string e, .string ⟨#[]⟩], .bool true]) (url_at Tryd.results33 _ _ M ((hBl.below hB2 hml).set _ _) _ _ _ _ _ _ _ rfl rfl) rfl ⟨(congrArg Ending.returned hres.out).symm, ?_⟩
  rw [HK.out]
  exact below_set6 ((hB1.trans (hB2.mono hKa)).setCell (Nat.le_refl _) _) hKM _ _ _ _ _ _
set_option maxRecDepth 20000 in
set_option maxHeartbeats 8000000 in
theorem rresolve4a (a b c d e f s T : ByteArray) (w : World) (hM : MaxAt w) (h : Pre a b c d e f s T) (h1 : schemeOk T.data.toList = false) (h2 : validB (a.data.toList, b.data.toList, c.data.toList, d.data.toList, e.data.toList, f.data.toList) = true) (h3 : 0 < T.size) (h4 : T.data.toList.head? = some 35) (h9 : T.size = 1) (R : Option U6) (hR : (some (a.data.toList, b.data.toList, c.data.toList, d.data.toList, e.data.toList, [])) = R) :
    ResB a b c d e f s w R := by
  have hTs := h.size
  have CT := Lib.hid (fun w => rtrim_is s T w (by have := h.hs; omega) h.hT)
  have CS := Lib.hid (fun w => rscheme_no T w (by omega) h1)
  have CV := Lib.hid (fun w hM => rvalid_is a b c d e f w h.ha h.hb h.hc h.hd h.he h.hf hM true h2)
  obtain ⟨ha, hb, hc, hd, he, hf, hs, -⟩ := h
  have hE := nonempty_of T h3
  have hTi : (T.size : Int) = 1 := by omega
  have n35 : ((T[0].toNat : Int) == 35) = true := by rw [first_eq T 35 h3 35 rfl]; exact decide_eq_true h4
  have hres : resB R = .tuple #[.agg #[.string a, .string b, .string c, .string d, .string e, .string ⟨#[]⟩], .bool true] := by rw [← hR]; rfl
  replace hres := Lib.hid hres
  unfold ResB
  clear h1 h2 h4 hR h9
  go_enter Tryd.func33, Tryd.ntmps33
  go_wp2_with fail
  have A0 := At6.new w (.string a) (.string b) (.string c) (.string d) (.string e) (.string f) 25
  have hB0 : Below w.heap.size w (w.alloc (.cells #[.string a, .string b, .string c, .string d, .string e, .string f] 25)) := (Below.refl _ w).alloc (Nat.le_refl _) _
  have A1 := A0.alloc (.cells #[.string ⟨#[]⟩, .string ⟨#[]⟩, .string ⟨#[]⟩, .string ⟨#[]⟩, .string ⟨#[]⟩, .string ⟨#[]⟩] 25)
  have A2 := At6.new (w.alloc (.cells #[.string a, .string b, .string c, .string d, .string e, .string f] 25)) (.string ⟨#[]⟩) (.string ⟨#[]⟩) (.string ⟨#[]⟩) (.string ⟨#[]⟩) (.string ⟨#[]⟩) (.string ⟨#[]⟩) 25
  have hB1 := hB0.alloc hB0.size (.cells #[.string ⟨#[]⟩, .string ⟨#[]⟩, .string ⟨#[]⟩, .string ⟨#[]⟩, .string ⟨#[]⟩, .string ⟨#[]⟩] 25)
  have hM1 := hM.below hB1 (Nat.le_refl _)
  rw [show (w.alloc (.cells #[.string a, .string b, .string c, .string d, .string e, .string f] 25)).heap.size = w.heap.size + 1 by simp] at A2
  obtain ⟨wa, hwa⟩ : ∃ wa : World, (w.alloc (.cells #[.string a, .string b, .string c, .string d, .string e, .string f] 25)).alloc (.cells #[.string ⟨#[]⟩, .string ⟨#[]⟩, .string ⟨#[]⟩, .string ⟨#[]⟩, .string ⟨#[]⟩, .string ⟨#[]⟩] 25) = wa := ⟨_, rfl⟩
  obtain ⟨K, hK⟩ : ∃ K, w.heap.size = K := ⟨_, rfl⟩
  obtain ⟨M, hm⟩ : ∃ M, w.heap.size + 1 = M := ⟨_, rfl⟩
  have hKM : K ≤ M := (by omega)
  have hne : ¬ K = M := (by omega)
  rw [hwa] at A1 A2 hB1 hM1
  rw [hm] at A2
  rw [hK] at A1 hB1
  rw [hwa, hm, hK]
  clear hwa hm A0 hB0
  have HK := Lib.hid hK
  have hBl := A2.blank
  clear hK
  have AK0 := A1
  have AM0 := A2
  obtain ⟨hkl, a0, a1, a2, a3, a4, a5, f0, f1, f2, f3, f4, f5⟩ := A1
  obtain ⟨hml, m0, m1, m2, m3, m4, m5, g0, g1, g2, g3, g4, g5⟩ := A2
  have hKa : K ≤ wa.heap.size := Nat.le_of_lt hkl
  go_wp2_with (first
    | (go_at_call 49; with_reducible refine (CT.out _).mono ?_; rintro x w' ⟨rfl, rfl⟩)
    | (go_at_call 50; with_reducible refine (CS.out _).mono ?_; rintro x w' ⟨rfl, rfl⟩)
    | (go_at_call 64; with_reducible refine (CV.out _ hM1).mono ?_; rintro x w2 ⟨rfl, hB2⟩; have hr2 := brule hB2; have hg2 := frule hB2; have hM3 := hM1.below hB2 (Nat.le_refl _))
    )
  refine bodyPost_ret (v := .tuple #[.agg #[.string a, .string b, .string c, .string d, .string e, .string ⟨#[]⟩], .bool true]) (url_at Tryd.results33 _ _ M ((hBl.below hB2 hml).set _ _) _ _ _ _ _ _ _ rfl rfl) rfl ⟨(congrArg Ending.returned hres.out).symm, ?_⟩
  rw [HK.out]
  exact below_set6 ((hB1.trans (hB2.mono hKa)).setCell (Nat.le_refl _) _) hKM _ _ _ _ _ _
set_option maxRecDepth 20000 in
set_option maxHeartbeats 8000000 in
theorem rresolve4b (a b c d e f s T : ByteArray) (w : World) (hM : MaxAt w) (h : Pre a b c d e f s T) (h1 : schemeOk T.data.toList = false) (h2 : validB (a.data.toList, b.data.toList, c.data.toList, d.data.toList, e.data.toList, f.data.toList) = true) (h3 : 0 < T.size) (h4 : T.data.toList.head? = some 35) (h9 : 1 < T.size) (R : Option U6) (hR : (some (a.data.toList, b.data.toList, c.data.toList, d.data.toList, e.data.toList, conv (innerL ++ [63]) true T.data.toList.tail)) = R) :
    ResB a b c d e f s w R := by
  have hTs := h.size
  have CT := Lib.hid (fun w => rtrim_is s T w (by have := h.hs; omega) h.hT)
  have CS := Lib.hid (fun w => rscheme_no T w (by omega) h1)
  have CV := Lib.hid (fun w hM => rvalid_is a b c d e f w h.ha h.hb h.hc h.hd h.he h.hf hM true h2)
  obtain ⟨ha, hb, hc, hd, he, hf, hs, -⟩ := h
  have hE := nonempty_of T h3
  have hTi : (1 : Int) < (T.size : Int) := by omega
  have n35 : ((T[0].toNat : Int) == 35) = true := by rw [first_eq T 35 h3 35 rfl]; exact decide_eq_true h4
  obtain ⟨F, hF⟩ := list_bytes (conv (innerL ++ [63]) true T.data.toList.tail)
  have hres : resB R = .tuple #[.agg #[.string a, .string b, .string c, .string d, .string e, .string F], .bool true] := by rw [← hR, ← hF]; rfl
  replace hres := Lib.hid hres
  have CC : Hid (∀ w, Calls Tryd.prog 52 #[.string (T.extract 1 T.size), .string ⟨#[63]⟩] w fun x w' => x = .returned (.string F) ∧ Below w.heap.size w w') := Lib.hid fun w => by
    refine (rconvert_any (T.extract 1 T.size) ⟨#[63]⟩ w (by simp; omega) (by decide)).mono ?_
    rintro x w' ⟨u, rfl, hu, hb⟩
    have hx : u = F := byteArray_ext (hu.trans (by rw [hF, ext_to, ← List.drop_one]))
    exact ⟨by rw [hx], hb⟩
  unfold ResB
  clear h1 h2 h4 hF hR h9
  go_enter Tryd.func33, Tryd.ntmps33
  go_wp2_with fail
  have A0 := At6.new w (.string a) (.string b) (.string c) (.string d) (.string e) (.string f) 25
  have hB0 : Below w.heap.size w (w.alloc (.cells #[.string a, .string b, .string c, .string d, .string e, .string f] 25)) := (Below.refl _ w).alloc (Nat.le_refl _) _
  have A1 := A0.alloc (.cells #[.string ⟨#[]⟩, .string ⟨#[]⟩, .string ⟨#[]⟩, .string ⟨#[]⟩, .string ⟨#[]⟩, .string ⟨#[]⟩] 25)
  have A2 := At6.new (w.alloc (.cells #[.string a, .string b, .string c, .string d, .string e, .string f] 25)) (.string ⟨#[]⟩) (.string ⟨#[]⟩) (.string ⟨#[]⟩) (.string ⟨#[]⟩) (.string ⟨#[]⟩) (.string ⟨#[]⟩) 25
  have hB1 := hB0.alloc hB0.size (.cells #[.string ⟨#[]⟩, .string ⟨#[]⟩, .string ⟨#[]⟩, .string ⟨#[]⟩, .string ⟨#[]⟩, .string ⟨#[]⟩] 25)
  have hM1 := hM.below hB1 (Nat.le_refl _)
  rw [show (w.alloc (.cells #[.string a, .string b, .string c, .string d, .string e, .string f] 25)).heap.size = w.heap.size + 1 by simp] at A2
  obtain ⟨wa, hwa⟩ : ∃ wa : World, (w.alloc (.cells #[.string a, .string b, .string c, .string d, .string e, .string f] 25)).alloc (.cells #[.string ⟨#[]⟩, .string ⟨#[]⟩, .string ⟨#[]⟩, .string ⟨#[]⟩, .string ⟨#[]⟩, .string ⟨#[]⟩] 25) = wa := ⟨_, rfl⟩
  obtain ⟨K, hK⟩ : ∃ K, w.heap.size = K := ⟨_, rfl⟩
  obtain ⟨M, hm⟩ : ∃ M, w.heap.size + 1 = M := ⟨_, rfl⟩
  have hKM : K ≤ M := (by omega)
  have hne : ¬ K = M := (by omega)
  rw [hwa] at A1 A2 hB1 hM1
  rw [hm] at A2
  rw [hK] at A1 hB1
  rw [hwa, hm, hK]
  clear hwa hm A0 hB0
  have HK := Lib.hid hK
  have hBl := A2.blank
  clear hK
  have AK0 := A1
  have AM0 := A2
  obtain ⟨hkl, a0, a1, a2, a3, a4, a5, f0, f1, f2, f3, f4, f5⟩ := A1
  obtain ⟨hml, m0, m1, m2, m3, m4, m5, g0, g1, g2, g3, g4, g5⟩ := A2
  have hKa : K ≤ wa.heap.size := Nat.le_of_lt hkl
  go_wp2_with (first
    | (go_at_call 49; with_reducible refine (CT.out _).mono ?_; rintro x w' ⟨rfl, rfl⟩)
    | (go_at_call 50; with_reducible refine (CS.out _).mono ?_; rintro x w' ⟨rfl, rfl⟩)
    | (go_at_call 64; with_reducible refine (CV.out _ hM1).mono ?_; rintro x w2 ⟨rfl, hB2⟩; have hr2 := brule hB2; have hg2 := frule hB2; have hM3 := hM1.below hB2 (Nat.le_refl _))
    | (go_at_call 52; with_reducible refine (CC.out _).mono ?_; rintro x w3 ⟨rfl, hb3⟩; have hk2 := Nat.lt_of_lt_of_le hkl hB2.size; have hm2 := Nat.lt_of_lt_of_le hml hB2.size; obtain ⟨-, x0, x1, x2, x3, x4, x5, y0, y1, y2, y3, y4, y5⟩ := (((AK0.below hB2 hkl).set5 (.string ⟨#[]⟩)).below hb3 (by rw [World.size_setCell]; exact hk2)).out; obtain ⟨-, p0, p1, p2, p3, p4, p5, q0, q1, q2, q3, q4, q5⟩ := (((AM0.below hB2 hml).set ⟨K, 5, none⟩ (.string ⟨#[]⟩) hne).below hb3 (by rw [World.size_setCell]; exact hm2)).out)
    )
  refine bodyPost_ret (v := .tuple #[.agg #[.string a, .string b, .string c, .string d, .string e, .string F], .bool true]) (url_at Tryd.results33 _ _ M ((((hBl.below hB2 hml).set _ _).below hb3 (by simpa using hm2)).set _ _) _ _ _ _ _ _ _ rfl rfl) rfl ⟨(congrArg Ending.returned hres.out).symm, ?_⟩
  rw [HK.out]
  exact below_set6 ((((hB1.trans (hB2.mono hKa)).setCell (Nat.le_refl _) _).trans (hb3.mono (by rw [World.size_setCell]; omega))).setCell (Nat.le_refl _) _) hKM _ _ _ _ _ _
set_option maxRecDepth 20000 in
set_option maxHeartbeats 8000000 in
theorem rresolve5 (a b c d e f s T : ByteArray) (w : World) (hM : MaxAt w) (h : Pre a b c d e f s T) (h1 : schemeOk T.data.toList = false) (h2 : validB (a.data.toList, b.data.toList, c.data.toList, d.data.toList, e.data.toList, f.data.toList) = true) (h3 : 0 < T.size) (h4 : T.data.toList.head? ≠ some 35) (h5 : a.data.toList = aboutL) (R : Option U6) (hR : none = R) :
    ResB a b c d e f s w R := by
  have hTs := h.size
  have CT := Lib.hid (fun w => rtrim_is s T w (by have := h.hs; omega) h.hT)
  have CS := Lib.hid (fun w => rscheme_no T w (by omega) h1)
  have CV := Lib.hid (fun w hM => rvalid_is a b c d e f w h.ha h.hb h.hc h.hd h.he h.hf hM true h2)
  obtain ⟨ha, hb, hc, hd, he, hf, hs, -⟩ := h
  have hE := nonempty_of T h3
  have hTi : (0 : Int) < (T.size : Int) := by omega
  have n35 : ((T[0].toNat : Int) == 35) = false := by rw [first_eq T 35 h3 35 rfl]; exact decide_eq_false h4
  have nab : (a.toList == [97, 98, 111, 117, 116]) = true := by rw [str_beq]; exact decide_eq_true h5
  have hres : resB R = .tuple #[.agg #[.string ⟨#[]⟩, .string ⟨#[]⟩, .string ⟨#[]⟩, .string ⟨#[]⟩, .string ⟨#[]⟩, .string ⟨#[]⟩], .bool false] := by rw [← hR]; rfl
  replace hres := Lib.hid hres
  unfold ResB
  clear h1 h2 h4 h5 hR
  go_enter Tryd.func33, Tryd.ntmps33
  go_wp2_with fail
  have A0 := At6.new w (.string a) (.string b) (.string c) (.string d) (.string e) (.string f) 25
  have hB0 : Below w.heap.size w (w.alloc (.cells #[.string a, .string b, .string c, .string d, .string e, .string f] 25)) := (Below.refl _ w).alloc (Nat.le_refl _) _
  have A1 := A0.alloc (.cells #[.string ⟨#[]⟩, .string ⟨#[]⟩, .string ⟨#[]⟩, .string ⟨#[]⟩, .string ⟨#[]⟩, .string ⟨#[]⟩] 25)
  have A2 := At6.new (w.alloc (.cells #[.string a, .string b, .string c, .string d, .string e, .string f] 25)) (.string ⟨#[]⟩) (.string ⟨#[]⟩) (.string ⟨#[]⟩) (.string ⟨#[]⟩) (.string ⟨#[]⟩) (.string ⟨#[]⟩) 25
  have hB1 := hB0.alloc hB0.size (.cells #[.string ⟨#[]⟩, .string ⟨#[]⟩, .string ⟨#[]⟩, .string ⟨#[]⟩, .string ⟨#[]⟩, .string ⟨#[]⟩] 25)
  have hM1 := hM.below hB1 (Nat.le_refl _)
  rw [show (w.alloc (.cells #[.string a, .string b, .string c, .string d, .string e, .string f] 25)).heap.size = w.heap.size + 1 by simp] at A2
  obtain ⟨wa, hwa⟩ : ∃ wa : World, (w.alloc (.cells #[.string a, .string b, .string c, .string d, .string e, .string f] 25)).alloc (.cells #[.string ⟨#[]⟩, .string ⟨#[]⟩, .string ⟨#[]⟩, .string ⟨#[]⟩, .string ⟨#[]⟩, .string ⟨#[]⟩] 25) = wa := ⟨_, rfl⟩
  obtain ⟨K, hK⟩ : ∃ K, w.heap.size = K := ⟨_, rfl⟩
  obtain ⟨M, hm⟩ : ∃ M, w.heap.size + 1 = M := ⟨_, rfl⟩
  have hKM : K ≤ M := (by omega)
  have hne : ¬ K = M := (by omega)
  rw [hwa] at A1 A2 hB1 hM1
  rw [hm] at A2
  rw [hK] at A1 hB1
  rw [hwa, hm, hK]
  clear hwa hm A0 hB0
  have HK := Lib.hid hK
  have hBl := A2.blank
  clear hK
  have AK0 := A1
  have AM0 := A2
  obtain ⟨hkl, a0, a1, a2, a3, a4, a5, f0, f1, f2, f3, f4, f5⟩ := A1
  obtain ⟨hml, m0, m1, m2, m3, m4, m5, g0, g1, g2, g3, g4, g5⟩ := A2
  have hKa : K ≤ wa.heap.size := Nat.le_of_lt hkl
  go_wp2_with (first
    | (go_at_call 49; with_reducible refine (CT.out _).mono ?_; rintro x w' ⟨rfl, rfl⟩)
    | (go_at_call 50; with_reducible refine (CS.out _).mono ?_; rintro x w' ⟨rfl, rfl⟩)
    | (go_at_call 64; with_reducible refine (CV.out _ hM1).mono ?_; rintro x w2 ⟨rfl, hB2⟩; have hr2 := brule hB2; have hg2 := frule hB2; have hM3 := hM1.below hB2 (Nat.le_refl _))
    )
  refine bodyPost_ret (url_at Tryd.results33 _ _ M (hBl.below hB2 hml) _ _ _ _ _ _ _ rfl rfl) rfl ⟨(congrArg Ending.returned hres.out).symm, ?_⟩
  rw [HK.out]
  exact below_set6 (hB1.trans (hB2.mono hKa)) hKM _ _ _ _ _ _
end Go.Proofs.YtgbinadjbikhhaaDoor
