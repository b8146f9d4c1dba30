/- url.Resolve computes resolveL. -/
import Derived.Test.YtgbinadjbikhhaaDoorLS
namespace Go.Proofs.YtgbinadjbikhhaaDoor
set_option linter.unusedVariables false
set_option linter.unusedSimpArgs false
open Go.RowKit

/-- what holds ahead of each way -/
structure Pre (a b c d e f s T : ByteArray) : Prop where
  ha : a.size ≤ 40000
  hb : b.size ≤ 40000
  hc : c.size ≤ 40000
  hd : d.size ≤ 40000
  he : e.size ≤ 40000
  hf : f.size ≤ 40000
  hs : s.size ≤ 40000
  hT : T.data.toList = trimL s.data.toList
theorem Pre.size {a b c d e f s T : ByteArray} (h : Pre a b c d e f s T) : T.size ≤ 40000 := by
  have := trimL_len s.data.toList
  rw [size_of h.hT]; rw [size_len] at this; have := h.hs; omega
theorem scheme_is (T : ByteArray) (B : Bool) (w : World) (hs : T.size ≤ 1000000) (hM : MaxAt w) (h : schemeOk T.data.toList = B) : Calls Tryd.prog 40 #[.string T] w fun x w' => ∃ a b : ByteArray, x = .returned (.tuple #[.string a, .string b, .bool B]) ∧ Below w.heap.size w w' := by
  refine (scheme_any T w hs hM).mono ?_
  rintro x w' ⟨p, q, rfl, -, hb⟩
  exact ⟨p, q, by rw [h], hb⟩
abbrev ResV (a b c d e f s : ByteArray) (w : World) (o : Option U6) : Prop := Calls Tryd.prog 32 #[.agg #[.string a, .string b, .string c, .string d, .string e, .string f], .string s] w fun x w' => x = .returned (resV o) ∧ Below w.heap.size w w'
set_option maxRecDepth 20000 in
set_option maxHeartbeats 4000000 in
theorem resolve1 (a b c d e f s T : ByteArray) (w : World) (hM : MaxAt w) (h : Pre a b c d e f s T) (h1 : schemeOk T.data.toList = true) :
    ResV a b c d e f s w (parseL T.data.toList) := by
  have hTs := h.size
  have CT := Lib.hid (fun w => trim_is s T w (by have := h.hs; omega) h.hT)
  have CS := Lib.hid (fun w hM => scheme_is T true w (by omega) hM h1)
  obtain ⟨r1, r2, r3, r4, r5, r6, X, e1, -, cP, -⟩ := parse_known T (by omega)
  unfold ResV
  rw [e1]
  have CP := Lib.hid cP
  clear e1 cP h h1
  cases X
  all_goals
    go_enter Tryd.func32, Tryd.ntmps32
    go_wp2_with fail
    have A0 := At6.new w (.string a) (.string b) (.string c) (.string d) (.string e) (.string f) 25
    have hB0 : Below w.heap.size w (w.alloc (.cells #[.string a, .string b, .string c, .string d, .string e, .string f] 25)) := (Below.refl _ w).alloc (Nat.le_refl _) _
    have A1 := A0.alloc (.cells #[.string ⟨#[]⟩, .string ⟨#[]⟩, .string ⟨#[]⟩, .string ⟨#[]⟩, .string ⟨#[]⟩, .string ⟨#[]⟩] 25)
    have A2 := At6.new (w.alloc (.cells #[.string a, .string b, .string c, .string d, .string e, .string f] 25)) (.string ⟨#[]⟩) (.string ⟨#[]⟩) (.string ⟨#[]⟩) (.string ⟨#[]⟩) (.string ⟨#[]⟩) (.string ⟨#[]⟩) 25
    have hB1 := hB0.alloc hB0.size (.cells #[.string ⟨#[]⟩, .string ⟨#[]⟩, .string ⟨#[]⟩, .string ⟨#[]⟩, .string ⟨#[]⟩, .string ⟨#[]⟩] 25)
    have hM1 := hM.below hB1 (Nat.le_refl _)
    rw [show (w.alloc (.cells #[.string a, .string b, .string c, .string d, .string e, .string f] 25)).heap.size = w.heap.size + 1 by simp] at A2
    obtain ⟨wa, hwa⟩ : ∃ wa : World, (w.alloc (.cells #[.string a, .string b, .string c, .string d, .string e, .string f] 25)).alloc (.cells #[.string ⟨#[]⟩, .string ⟨#[]⟩, .string ⟨#[]⟩, .string ⟨#[]⟩, .string ⟨#[]⟩, .string ⟨#[]⟩] 25) = wa := ⟨_, rfl⟩
    obtain ⟨K, hK⟩ : ∃ K, w.heap.size = K := ⟨_, rfl⟩
    obtain ⟨M, hm⟩ : ∃ M, w.heap.size + 1 = M := ⟨_, rfl⟩
    have hKM : K ≤ M := (by omega)
    have hne : ¬ K = M := (by omega)
    rw [hwa] at A1 A2 hB1 hM1
    rw [hm] at A2
    rw [hK] at A1 hB1
    rw [hwa, hm, hK]
    clear hwa hm A0 hB0
    have HK := Lib.hid hK
    have hBl := A2.blank
    clear hK
    obtain ⟨hkl, a0, a1, a2, a3, a4, a5, f0, f1, f2, f3, f4, f5⟩ := A1
    obtain ⟨hml, m0, m1, m2, m3, m4, m5, g0, g1, g2, g3, g4, g5⟩ := A2
    have hKa : K ≤ wa.heap.size := Nat.le_of_lt hkl
    go_wp2_with (first
      | (go_at_call 41; with_reducible refine (CT.out _).mono ?_; rintro x w' ⟨rfl, rfl⟩)
      | (go_at_call 40; with_reducible refine (CS.out _ hM1).mono ?_; rintro x w1 ⟨p, q, rfl, hb1⟩; have hr1 := brule hb1; have hg1 := frule hb1; have hM2 := hM1.below hb1 (Nat.le_refl _))
      | (go_at_call 13; with_reducible refine (CP.out _ hM2).mono ?_; rintro x w2 ⟨rfl, hb2⟩; have hB2 := hb1.trans (hb2.mono hb1.size); have hr2 := brule hB2; have hg2 := frule hB2))
    refine bodyPost_ret (url_at Tryd.results32 _ _ M (hBl.below hB2 hml) _ _ _ _ _ _ _ rfl rfl) rfl ⟨rfl, ?_⟩
    rw [HK.out]
    exact below_set6 (hB1.trans (hB2.mono hKa)) hKM _ _ _ _ _ _
set_option maxRecDepth 20000 in
set_option maxHeartbeats 4000000 in
theorem resolve2 (a b c d e f s T : ByteArray) (w : World) (hM : MaxAt w) (h : Pre a b c d e f s T) (h1 : schemeOk T.data.toList = false) (h2 : validB (a.data.toList, b.data.toList, c.data.toList, d.data.toList, e.data.toList, f.data.toList) = false) :
    ResV a b c d e f s w none := by
  have hTs := h.size
  have CT := Lib.hid (fun w => trim_is s T w (by have := h.hs; omega) h.hT)
  have CS := Lib.hid (fun w hM => scheme_is T false w (by omega) hM h1)
  have CV := Lib.hid (fun w hM => valid_is a b c d e f w h.ha h.hb h.hc h.hd h.he h.hf hM false h2)
  unfold ResV
  clear h h1 h2
  go_enter Tryd.func32, Tryd.ntmps32
  go_wp2_with fail
  have A0 := At6.new w (.string a) (.string b) (.string c) (.string d) (.string e) (.string f) 25
  have hB0 : Below w.heap.size w (w.alloc (.cells #[.string a, .string b, .string c, .string d, .string e, .string f] 25)) := (Below.refl _ w).alloc (Nat.le_refl _) _
  have A1 := A0.alloc (.cells #[.string ⟨#[]⟩, .string ⟨#[]⟩, .string ⟨#[]⟩, .string ⟨#[]⟩, .string ⟨#[]⟩, .string ⟨#[]⟩] 25)
  have A2 := At6.new (w.alloc (.cells #[.string a, .string b, .string c, .string d, .string e, .string f] 25)) (.string ⟨#[]⟩) (.string ⟨#[]⟩) (.string ⟨#[]⟩) (.string ⟨#[]⟩) (.string ⟨#[]⟩) (.string ⟨#[]⟩) 25
  have hB1 := hB0.alloc hB0.size (.cells #[.string ⟨#[]⟩, .string ⟨#[]⟩, .string ⟨#[]⟩, .string ⟨#[]⟩, .string ⟨#[]⟩, .string ⟨#[]⟩] 25)
  have hM1 := hM.below hB1 (Nat.le_refl _)
  rw [show (w.alloc (.cells #[.string a, .string b, .string c, .string d, .string e, .string f] 25)).heap.size = w.heap.size + 1 by simp] at A2
  obtain ⟨wa, hwa⟩ : ∃ wa : World, (w.alloc (.cells #[.string a, .string b, .string c, .string d, .string e, .string f] 25)).alloc (.cells #[.string ⟨#[]⟩, .string ⟨#[]⟩, .string ⟨#[]⟩, .string ⟨#[]⟩, .string ⟨#[]⟩, .string ⟨#[]⟩] 25) = wa := ⟨_, rfl⟩
  obtain ⟨K, hK⟩ : ∃ K, w.heap.size = K := ⟨_, rfl⟩
  obtain ⟨M, hm⟩ : ∃ M, w.heap.size + 1 = M := ⟨_, rfl⟩
  have hKM : K ≤ M := (by omega)
  have hne : ¬ K = M := (by omega)
  rw [hwa] at A1 A2 hB1 hM1
  rw [hm] at A2
  rw [hK] at A1 hB1
  rw [hwa, hm, hK]
  clear hwa hm A0 hB0
  have HK := Lib.hid hK
  have hBl := A2.blank
  clear hK
  obtain ⟨hkl, a0, a1, a2, a3, a4, a5, f0, f1, f2, f3, f4, f5⟩ := A1
  obtain ⟨hml, m0, m1, m2, m3, m4, m5, g0, g1, g2, g3, g4, g5⟩ := A2
  have hKa : K ≤ wa.heap.size := Nat.le_of_lt hkl
  go_wp2_with (first
    | (go_at_call 41; with_reducible refine (CT.out _).mono ?_; rintro x w' ⟨rfl, rfl⟩)
    | (go_at_call 40; with_reducible refine (CS.out _ hM1).mono ?_; rintro x w1 ⟨p, q, rfl, hb1⟩; have hr1 := brule hb1; have hg1 := frule hb1; have hM2 := hM1.below hb1 (Nat.le_refl _))
    | (go_at_call 20; with_reducible refine (CV.out _ hM2).mono ?_; rintro x w2 ⟨rfl, hb2⟩; have hB2 := hb1.trans (hb2.mono hb1.size); have hr2 := brule hB2; have hg2 := frule hB2; have hM3 := hM1.below hB2 (Nat.le_refl _))
  )
  refine bodyPost_ret (url_at Tryd.results32 _ _ M (hBl.below hB2 hml) _ _ _ _ _ _ _ rfl rfl) rfl ⟨rfl, ?_⟩
  rw [HK.out]
  exact below_set6 (hB1.trans (hB2.mono hKa)) hKM _ _ _ _ _ _
end Go.Proofs.YtgbinadjbikhhaaDoor
