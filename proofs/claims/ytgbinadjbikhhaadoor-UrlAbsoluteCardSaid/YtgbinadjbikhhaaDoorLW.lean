/- Short, Without, SameOrigin; both Parses and Valid at an address whose text is known. -/
import Derived.Test.YtgbinadjbikhhaaDoorLO
namespace Go.Proofs.YtgbinadjbikhhaaDoor
set_option linter.unusedVariables false
set_option linter.unusedSimpArgs false
open Go.RowKit

abbrev aggU (a b c d e f : ByteArray) : Value := .agg #[.string a, .string b, .string c, .string d, .string e, .string f]
def shortB (a b c d e f : ByteArray) : Bool := [a, b, c, d, e, f].all fun s => decide (s.size ≤ 400)
theorem shortB_iff {a b c d e f : ByteArray} (h : shortB a b c d e f = true) : a.size ≤ 400 ∧ b.size ≤ 400 ∧ c.size ≤ 400 ∧ d.size ≤ 400 ∧ e.size ≤ 400 ∧ f.size ≤ 400 := by
  simpa [shortB] using h
set_option maxRecDepth 20000 in
theorem short_any (a b c d e f : ByteArray) (w : World) :
    Calls Tryd.prog 18 #[.agg #[.string a, .string b, .string c, .string d, .string e, .string f]] w fun x w' => x = .returned (.bool (shortB a b c d e f)) ∧ Below w.heap.size w w' := by
  obtain ⟨B, hB⟩ : ∃ B, shortB a b c d e f = B := ⟨_, rfl⟩
  have cW : ∀ (bk : Nat) (w : World), (∀ j (h : j < [a, b, c, d, e, f].length), w.cell? ⟨bk, j, none⟩ = some (.string [a, b, c, d, e, f][j])) → Calls Tryd.prog 12 #[.slice (some ⟨bk, 0, none⟩) 6 6] w fun e w' => e = .returned (.bool B) ∧ w = w' := fun bk w hc => by
    rw [← hB]; exact few_any [a, b, c, d, e, f] bk 6 w hc (by simp)
  rw [hB]
  have CW := Lib.hid cW
  clear cW hB
  go_enter Tryd.func18, Tryd.ntmps18
  go_wp2_with (go_at_call 12; with_reducible refine (CW.out _ _ ?_).mono ?_)
  · intro j hj
    match j, hj with
    | 0, _ => simp
    | 1, _ => simp
    | 2, _ => simp
    | 3, _ => simp
    | 4, _ => simp
    | 5, _ => simp
  · rintro x w' ⟨rfl, rfl⟩
    go_wp2_with fail
    go_ret
    exact ⟨rfl, ((Below.refl _ w).alloc (Nat.le_refl _) _).alloc (by simp) _⟩
theorem without_any (a b c d e f : ByteArray) (w : World) :
    Calls Tryd.prog 31 #[.agg #[.string a, .string b, .string c, .string d, .string e, .string f]] w fun x w' => x = .returned (.agg #[.string a, .string b, .string c, .string d, .string e, .string ⟨#[]⟩]) ∧ Below w.heap.size w w' := by
  go_enter Tryd.func31, Tryd.ntmps31
  go_wp2_with fail
  refine bodyPost_ret (v := aggU a b c d e ⟨#[]⟩) (by simp [results, Tryd.results31, go_sem]) rfl ⟨rfl, ?_⟩
  exact ((Below.refl _ w).alloc (Nat.le_refl _) _).alloc (by simp) _
theorem snext12 {wa wX w3 : World} {K M : Nat} {v0 v1 v2 v3 v4 v5 u0 u1 u2 u3 u4 u5 : Value} (hk : K < wa.heap.size) (hm : M < wa.heap.size) (h : wX.cell? ⟨K, 0, none⟩ = some v0 ∧ wX.cell? ⟨K, 1, none⟩ = some v1 ∧ wX.cell? ⟨K, 2, none⟩ = some v2 ∧ wX.cell? ⟨K, 3, none⟩ = some v3 ∧ wX.cell? ⟨K, 4, none⟩ = some v4 ∧ wX.cell? ⟨K, 5, none⟩ = some v5 ∧ wX.cell? ⟨M, 0, none⟩ = some u0 ∧ wX.cell? ⟨M, 1, none⟩ = some u1 ∧ wX.cell? ⟨M, 2, none⟩ = some u2 ∧ wX.cell? ⟨M, 3, none⟩ = some u3 ∧ wX.cell? ⟨M, 4, none⟩ = some u4 ∧ wX.cell? ⟨M, 5, none⟩ = some u5 ∧ MaxAt wX ∧ Below wa.heap.size wa wX) (h3 : Below wX.heap.size wX w3) :
    w3.cell? ⟨K, 0, none⟩ = some v0 ∧ w3.cell? ⟨K, 1, none⟩ = some v1 ∧ w3.cell? ⟨K, 2, none⟩ = some v2 ∧ w3.cell? ⟨K, 3, none⟩ = some v3 ∧ w3.cell? ⟨K, 4, none⟩ = some v4 ∧ w3.cell? ⟨K, 5, none⟩ = some v5 ∧ w3.cell? ⟨M, 0, none⟩ = some u0 ∧ w3.cell? ⟨M, 1, none⟩ = some u1 ∧ w3.cell? ⟨M, 2, none⟩ = some u2 ∧ w3.cell? ⟨M, 3, none⟩ = some u3 ∧ w3.cell? ⟨M, 4, none⟩ = some u4 ∧ w3.cell? ⟨M, 5, none⟩ = some u5 ∧ MaxAt w3 ∧ Below wa.heap.size wa w3 := by
  obtain ⟨a0, a1, a2, a3, a4, a5, b0, b1, b2, b3, b4, b5, hM, hw⟩ := h
  have hk' := Nat.lt_of_lt_of_le hk hw.size
  have hm' := Nat.lt_of_lt_of_le hm hw.size
  exact ⟨(h3.cell (p := ⟨K, 0, none⟩) hk').trans a0, (h3.cell (p := ⟨K, 1, none⟩) hk').trans a1, (h3.cell (p := ⟨K, 2, none⟩) hk').trans a2, (h3.cell (p := ⟨K, 3, none⟩) hk').trans a3, (h3.cell (p := ⟨K, 4, none⟩) hk').trans a4, (h3.cell (p := ⟨K, 5, none⟩) hk').trans a5,
    (h3.cell (p := ⟨M, 0, none⟩) hm').trans b0, (h3.cell (p := ⟨M, 1, none⟩) hm').trans b1, (h3.cell (p := ⟨M, 2, none⟩) hm').trans b2, (h3.cell (p := ⟨M, 3, none⟩) hm').trans b3, (h3.cell (p := ⟨M, 4, none⟩) hm').trans b4, (h3.cell (p := ⟨M, 5, none⟩) hm').trans b5, hM.below h3 (Nat.le_refl _), hw.trans (h3.mono hw.size)⟩
theorem max12 {W : World} {p0 p1 p2 p3 p4 p5 p6 p7 p8 p9 pa pb q : Prop} (h : p0 ∧ p1 ∧ p2 ∧ p3 ∧ p4 ∧ p5 ∧ p6 ∧ p7 ∧ p8 ∧ p9 ∧ pa ∧ pb ∧ MaxAt W ∧ q) : MaxAt W := h.2.2.2.2.2.2.2.2.2.2.2.2.1
theorem bel12 {W w : World} {p0 p1 p2 p3 p4 p5 p6 p7 p8 p9 pa pb q : Prop} (h : p0 ∧ p1 ∧ p2 ∧ p3 ∧ p4 ∧ p5 ∧ p6 ∧ p7 ∧ p8 ∧ p9 ∧ pa ∧ pb ∧ q ∧ Below w.heap.size w W) : Below w.heap.size w W := h.2.2.2.2.2.2.2.2.2.2.2.2.2
/-- two blocks of six strings, the second one the newest -/
theorem start12 {w : World} {K : Nat} {v0 v1 v2 v3 v4 v5 u0 u1 u2 u3 u4 u5 : Value} {T : Nat} (hM : MaxAt w) (hk : K < w.heap.size) (h : w.cell? ⟨K, 0, none⟩ = some v0 ∧ w.cell? ⟨K, 1, none⟩ = some v1 ∧ w.cell? ⟨K, 2, none⟩ = some v2 ∧ w.cell? ⟨K, 3, none⟩ = some v3 ∧ w.cell? ⟨K, 4, none⟩ = some v4 ∧ w.cell? ⟨K, 5, none⟩ = some v5) {wa : World} {M : Nat} (hwa : w.alloc (.cells #[u0, u1, u2, u3, u4, u5] T) = wa) (hm : w.heap.size = M) :
    wa.cell? ⟨K, 0, none⟩ = some v0 ∧ wa.cell? ⟨K, 1, none⟩ = some v1 ∧ wa.cell? ⟨K, 2, none⟩ = some v2 ∧ wa.cell? ⟨K, 3, none⟩ = some v3 ∧ wa.cell? ⟨K, 4, none⟩ = some v4 ∧ wa.cell? ⟨K, 5, none⟩ = some v5 ∧ wa.cell? ⟨M, 0, none⟩ = some u0 ∧ wa.cell? ⟨M, 1, none⟩ = some u1 ∧ wa.cell? ⟨M, 2, none⟩ = some u2 ∧ wa.cell? ⟨M, 3, none⟩ = some u3 ∧ wa.cell? ⟨M, 4, none⟩ = some u4 ∧ wa.cell? ⟨M, 5, none⟩ = some u5 ∧ MaxAt wa ∧ Below wa.heap.size wa wa := by
  subst hwa
  subst hm
  obtain ⟨b0, b1, b2, b3, b4, b5⟩ := new6 w u0 u1 u2 u3 u4 u5 T
  have h3 : Below w.heap.size w (w.alloc (.cells #[u0, u1, u2, u3, u4, u5] T)) := (Below.refl _ w).alloc (Nat.le_refl _) _
  obtain ⟨a0, a1, a2, a3, a4, a5⟩ := h
  exact ⟨(h3.cell (p := ⟨K, 0, none⟩) hk).trans a0, (h3.cell (p := ⟨K, 1, none⟩) hk).trans a1, (h3.cell (p := ⟨K, 2, none⟩) hk).trans a2, (h3.cell (p := ⟨K, 3, none⟩) hk).trans a3, (h3.cell (p := ⟨K, 4, none⟩) hk).trans a4, (h3.cell (p := ⟨K, 5, none⟩) hk).trans a5, b0, b1, b2, b3, b4, b5, hM.below h3 (Nat.le_refl _), Below.refl _ _⟩
theorem drew12 {w : World} {K M : Nat} {v0 v1 v2 v3 v4 v5 u0 u1 u2 u3 u4 u5 : Value} {wa : World} (hk : K < wa.heap.size) (hm : M < wa.heap.size) (h : w.cell? ⟨K, 0, none⟩ = some v0 ∧ w.cell? ⟨K, 1, none⟩ = some v1 ∧ w.cell? ⟨K, 2, none⟩ = some v2 ∧ w.cell? ⟨K, 3, none⟩ = some v3 ∧ w.cell? ⟨K, 4, none⟩ = some v4 ∧ w.cell? ⟨K, 5, none⟩ = some v5 ∧ w.cell? ⟨M, 0, none⟩ = some u0 ∧ w.cell? ⟨M, 1, none⟩ = some u1 ∧ w.cell? ⟨M, 2, none⟩ = some u2 ∧ w.cell? ⟨M, 3, none⟩ = some u3 ∧ w.cell? ⟨M, 4, none⟩ = some u4 ∧ w.cell? ⟨M, 5, none⟩ = some u5 ∧ MaxAt w ∧ Below wa.heap.size wa w) : w.drew.cell? ⟨K, 0, none⟩ = some v0 ∧ w.drew.cell? ⟨K, 1, none⟩ = some v1 ∧ w.drew.cell? ⟨K, 2, none⟩ = some v2 ∧ w.drew.cell? ⟨K, 3, none⟩ = some v3 ∧ w.drew.cell? ⟨K, 4, none⟩ = some v4 ∧ w.drew.cell? ⟨K, 5, none⟩ = some v5 ∧ w.drew.cell? ⟨M, 0, none⟩ = some u0 ∧ w.drew.cell? ⟨M, 1, none⟩ = some u1 ∧ w.drew.cell? ⟨M, 2, none⟩ = some u2 ∧ w.drew.cell? ⟨M, 3, none⟩ = some u3 ∧ w.drew.cell? ⟨M, 4, none⟩ = some u4 ∧ w.drew.cell? ⟨M, 5, none⟩ = some u5 ∧ MaxAt w.drew ∧ Below wa.heap.size wa w.drew := snext12 hk hm h (Below.refl _ w).drew
theorem byteArray_ext {a b : ByteArray} (h : a.data.toList = b.data.toList) : a = b := by
  cases a; cases b; congr 1; exact Array.toList_inj.1 h
theorem drew_below {w w' : World} (h : Below w.drew.heap.size w.drew w') : Below w.heap.size w w' := (Below.refl _ w).drew.trans (h.mono (by simp))
def sameB (S T : ByteArray) : Bool := decide (S = T) && !decide (S = nullS)
set_option maxRecDepth 20000 in
set_option maxHeartbeats 1000000 in
theorem same_any (a b c d e f a' b' c' d' e' f' S T : ByteArray) (w : World) (hM : MaxAt w)
    (cS : ∀ w, MaxAt w → Calls Tryd.prog 28 #[.agg #[.string a, .string b, .string c, .string d, .string e, .string f]] w fun x w' => x = .returned (.string S) ∧ Below w.heap.size w w')
    (cT : ∀ w, MaxAt w → Calls Tryd.prog 28 #[.agg #[.string a', .string b', .string c', .string d', .string e', .string f']] w fun x w' => x = .returned (.string T) ∧ Below w.heap.size w w') :
    Calls Tryd.prog 30 #[.agg #[.string a, .string b, .string c, .string d, .string e, .string f], .agg #[.string a', .string b', .string c', .string d', .string e', .string f']] w fun x w' => x = .returned (.bool (sameB S T)) ∧ Below w.heap.size w w' := by
  have CS := Lib.hid cS
  have CT := Lib.hid cT
  clear cS cT
  by_cases hST : S = T
  · have n1 : (S.toList == T.toList) = true := by rw [hST]; simp
    obtain ⟨N, hN⟩ : ∃ N, decide (S = nullS) = N := ⟨_, rfl⟩
    have n2 : (S.toList == [110, 117, 108, 108]) = N := by
      rw [← hN, str_beq]; exact decide_eq_decide.2 ⟨fun h => byteArray_ext h, fun h => by rw [h]⟩
    have HR := Lib.hid (show sameB S T = !N by rw [sameB, hN, decide_eq_true hST]; rfl)
    clear hST hN
    cases N
    all_goals
      go_enter Tryd.func30, Tryd.ntmps30
      go_wp2_with fail
      have S0 := new6 w (.string a) (.string b) (.string c) (.string d) (.string e) (.string f) 25
      have hB0 : Below w.heap.size w (w.alloc (.cells #[.string a, .string b, .string c, .string d, .string e, .string f] 25)) := (Below.refl _ w).alloc (Nat.le_refl _) _
      have hM0 := hM.below hB0 (Nat.le_refl _)
      have hB1 := hB0.alloc hB0.size (.cells #[.string a', .string b', .string c', .string d', .string e', .string f'] 25)
      have hz0 : w.heap.size < (w.alloc (.cells #[.string a, .string b, .string c, .string d, .string e, .string f] 25)).heap.size := (by simp)
      obtain ⟨wa, hwa⟩ : ∃ wa : World, (w.alloc (.cells #[.string a, .string b, .string c, .string d, .string e, .string f] 25)).alloc (.cells #[.string a', .string b', .string c', .string d', .string e', .string f'] 25) = wa := ⟨_, rfl⟩
      obtain ⟨K, hK⟩ : ∃ K, w.heap.size = K := ⟨_, rfl⟩
      obtain ⟨M, hm⟩ : ∃ M, w.heap.size + 1 = M := ⟨_, rfl⟩
      have S1 := start12 (M := M) hM0 hz0 S0 hwa (by rw [← hm]; simp)
      have hkl : K < wa.heap.size := (by rw [← hwa, ← hK]; simp; omega)
      have hml : M < wa.heap.size := (by rw [← hwa, ← hm]; simp)
      rw [hwa] at hB1
      rw [hK] at S1
      rw [hwa, hm, hK]
      clear hwa hm hB0 hM0 S0 hz0
      go_region_held3 (fun w' => w'.cell? ⟨K, 0, none⟩ = some (.string a) ∧ w'.cell? ⟨K, 1, none⟩ = some (.string b) ∧ w'.cell? ⟨K, 2, none⟩ = some (.string c) ∧ w'.cell? ⟨K, 3, none⟩ = some (.string d) ∧ w'.cell? ⟨K, 4, none⟩ = some (.string e) ∧ w'.cell? ⟨K, 5, none⟩ = some (.string f) ∧ w'.cell? ⟨M, 0, none⟩ = some (.string a') ∧ w'.cell? ⟨M, 1, none⟩ = some (.string b') ∧ w'.cell? ⟨M, 2, none⟩ = some (.string c') ∧ w'.cell? ⟨M, 3, none⟩ = some (.string d') ∧ w'.cell? ⟨M, 4, none⟩ = some (.string e') ∧ w'.cell? ⟨M, 5, none⟩ = some (.string f') ∧ MaxAt w' ∧ Below wa.heap.size wa w') (first | exact drew12 hkl hml S1 | (apply snext12 hkl hml; rotate_left; assumption; assumption) | go_keep) (first | (go_at_call 28; with_reducible refine (CS.out _ (max12 (by assumption))).mono ?_; rintro x w4 ⟨rfl, hb4⟩) | (go_at_call 28; with_reducible refine (CT.out _ (max12 (by assumption))).mono ?_; rintro x w5 ⟨rfl, hb5⟩))
      go_wp2_with fail
      go_ret
      exact ⟨ret_bool HR.out.symm, hB1.trans ((bel12 (by assumption)).mono hB1.size)⟩
  · have n1 : (S.toList == T.toList) = false := by rw [str_beq]; exact decide_eq_false fun h => hST (byteArray_ext (by rw [h, ByteArray.toList_eq]))
    have HR := Lib.hid (show sameB S T = false by rw [sameB, decide_eq_false hST]; rfl)
    clear hST
    go_enter Tryd.func30, Tryd.ntmps30
    go_wp2_with fail
    have S0 := new6 w (.string a) (.string b) (.string c) (.string d) (.string e) (.string f) 25
    have hB0 : Below w.heap.size w (w.alloc (.cells #[.string a, .string b, .string c, .string d, .string e, .string f] 25)) := (Below.refl _ w).alloc (Nat.le_refl _) _
    have hM0 := hM.below hB0 (Nat.le_refl _)
    have hB1 := hB0.alloc hB0.size (.cells #[.string a', .string b', .string c', .string d', .string e', .string f'] 25)
    have hz0 : w.heap.size < (w.alloc (.cells #[.string a, .string b, .string c, .string d, .string e, .string f] 25)).heap.size := (by simp)
    obtain ⟨wa, hwa⟩ : ∃ wa : World, (w.alloc (.cells #[.string a, .string b, .string c, .string d, .string e, .string f] 25)).alloc (.cells #[.string a', .string b', .string c', .string d', .string e', .string f'] 25) = wa := ⟨_, rfl⟩
    obtain ⟨K, hK⟩ : ∃ K, w.heap.size = K := ⟨_, rfl⟩
    obtain ⟨M, hm⟩ : ∃ M, w.heap.size + 1 = M := ⟨_, rfl⟩
    have S1 := start12 (M := M) hM0 hz0 S0 hwa (by rw [← hm]; simp)
    have hkl : K < wa.heap.size := (by rw [← hwa, ← hK]; simp; omega)
    have hml : M < wa.heap.size := (by rw [← hwa, ← hm]; simp)
    rw [hwa] at hB1
    rw [hK] at S1
    rw [hwa, hm, hK]
    clear hwa hm hB0 hM0 S0 hz0
    obtain ⟨a0, a1, a2, a3, a4, a5, b0, b1, b2, b3, b4, b5, hMa, -⟩ := S1
    go_region_with (first
      | (go_at_call 28; with_reducible refine (CS.out _ (hMa.below (Below.refl _ wa).drew (Nat.le_refl _))).mono ?_; rintro x w4 ⟨rfl, hb4'⟩; have hb4 := drew_below hb4'; clear hb4'; have hM4 := hMa.below hb4 (Nat.le_refl _); obtain ⟨hc4, hf4⟩ := bcell hb4; have hB4 := hB1.trans (hb4.mono hB1.size))
      | (go_at_call 28; with_reducible refine (CT.out _ hM4).mono ?_; rintro x w5 ⟨rfl, hb5⟩; have hB5 := hB4.trans (hb5.mono hB4.size)))
    all_goals
      go_wp2_with fail
      go_ret
      exact ⟨ret_bool HR.out.symm, hB5⟩
end Go.Proofs.YtgbinadjbikhhaaDoor
