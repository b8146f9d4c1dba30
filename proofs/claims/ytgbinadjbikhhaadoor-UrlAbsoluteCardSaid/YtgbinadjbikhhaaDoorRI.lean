/- UrlAbsolute: the law where the text denotes an address. -/
import Derived.Test.YtgbinadjbikhhaaDoorRH
import Derived.Test.YtgbinadjbikhhaaDoorLQ
namespace Go.Proofs.YtgbinadjbikhhaaDoor
set_option linter.unusedVariables false
set_option linter.unusedSimpArgs false
open Go.RowKit

theorem few2' (s t : ByteArray) (b : Nat) (w : World) (hc : w.cell? ⟨b, 0, none⟩ = some (.string s)) (hd : w.cell? ⟨b, 1, none⟩ = some (.string t)) :
    Calls Tryd.prog 12 #[.slice (some ⟨b, 0, none⟩) 2 2] w fun e w' => e = .returned (.bool (decide (s.size ≤ 400) && decide (t.size ≤ 400))) ∧ w = w' := by
  have := few_any [s, t] b 2 w (fun j h => by
    match j, h with
    | 0, _ => exact hc
    | 1, _ => exact hd) (by simp)
  refine Calls.mono this ?_
  rintro e w' ⟨rfl, rfl⟩
  exact ⟨by simp, rfl⟩
theorem trim_hash (t : List UInt8) : ∃ r, trimL (35 :: t) = 35 :: r := by
  unfold trimL trimE trimF
  have h : (35 :: t : List UInt8).dropWhile wsB = 35 :: t := by rw [List.dropWhile_cons_of_neg (by decide)]
  rw [h, List.reverse_cons]
  have : ∀ l : List UInt8, ∃ m, (l ++ [35]).dropWhile wsB = m ++ [35] := by
    intro l
    induction l with
    | nil => exact ⟨[], by decide⟩
    | cons x l ih =>
      obtain ⟨m, hm⟩ := ih
      by_cases hx : wsB x = true
      · exact ⟨m, by rw [List.cons_append, List.dropWhile_cons_of_pos hx, hm]⟩
      · exact ⟨x :: l, by rw [List.cons_append, List.dropWhile_cons_of_neg hx]⟩
  obtain ⟨m, hm⟩ := this t.reverse
  exact ⟨m.reverse, by rw [hm]; simp⟩
theorem hash_scheme (r : List UInt8) : schemeOk (35 :: r) = false := by
  have : letterB 35 = false := by decide
  simp [schemeOk, this]
/-- an address's text is resolved to it on every page -/
theorem resolve_own (u v : U6) (B : Bool) (h : parseL (formatL u) = some u) : resolveL v B (trimL (formatL u)) = some u := by
  have h1 := some_scheme h
  rw [format_trim h] at h1 ⊢
  rw [resolveL, if_pos h1, h]
theorem resolve_empty (u : U6) (h : validB u = true) : resolveL u (validB u) (trimL []) = some (u.1, u.2.1, u.2.2.1, u.2.2.2.1, u.2.2.2.2.1, []) := by
  rw [show trimL [] = [] from rfl, resolveL, if_neg (by decide), if_neg (by rw [h]; decide), if_pos rfl]
theorem resolve_hash (u : U6) (h : validB u = true) (t : List UInt8) : ∃ g, resolveL u (validB u) (trimL (35 :: t)) = some (u.1, u.2.1, u.2.2.1, u.2.2.2.1, u.2.2.2.2.1, g) := by
  obtain ⟨r, hr⟩ := trim_hash t
  refine ⟨conv (innerL ++ [63]) true r, ?_⟩
  rw [hr, resolveL, if_neg (by rw [hash_scheme]; decide), if_neg (by rw [h]; decide), if_neg (by simp), if_pos (show (35 :: r : List UInt8).head? = some 35 from rfl)]; rfl
theorem resolve_some (a b c d e f s : ByteArray) (r1 r2 r3 r4 r5 r6 : ByteArray) (w : World) (hM : MaxAt w) (ha : a.size ≤ 40000) (hb : b.size ≤ 40000) (hc : c.size ≤ 40000) (hd : d.size ≤ 40000) (he : e.size ≤ 40000) (hf : f.size ≤ 40000) (hs : s.size ≤ 40000)
    (h : resolveL (a.data.toList, b.data.toList, c.data.toList, d.data.toList, e.data.toList, f.data.toList) (validB (a.data.toList, b.data.toList, c.data.toList, d.data.toList, e.data.toList, f.data.toList)) (trimL s.data.toList) = some (r1.data.toList, r2.data.toList, r3.data.toList, r4.data.toList, r5.data.toList, r6.data.toList)) :
    Calls Tryd.prog 32 #[.agg #[.string a, .string b, .string c, .string d, .string e, .string f], .string s] w fun x w' => x = .returned (.tuple #[.agg #[.string r1, .string r2, .string r3, .string r4, .string r5, .string r6], .int .i64 0]) ∧ Below w.heap.size w w' := by
  have := resolve_any a b c d e f s w hM ha hb hc hd he hf hs
  rw [h] at this
  exact this
theorem snext18 {wB wX w3 : World} {B M N : Nat} {p0 p1 p2 p3 p4 p5 q0 q1 q2 q3 q4 q5 r0 r1 r2 r3 r4 r5 : Value} (hb : B < wB.heap.size) (hm : M < wB.heap.size) (hn : N < wB.heap.size) (h : wX.cell? ⟨B, 0, none⟩ = some p0 ∧ wX.cell? ⟨B, 1, none⟩ = some p1 ∧ wX.cell? ⟨B, 2, none⟩ = some p2 ∧ wX.cell? ⟨B, 3, none⟩ = some p3 ∧ wX.cell? ⟨B, 4, none⟩ = some p4 ∧ wX.cell? ⟨B, 5, none⟩ = some p5 ∧ wX.cell? ⟨M, 0, none⟩ = some q0 ∧ wX.cell? ⟨M, 1, none⟩ = some q1 ∧ wX.cell? ⟨M, 2, none⟩ = some q2 ∧ wX.cell? ⟨M, 3, none⟩ = some q3 ∧ wX.cell? ⟨M, 4, none⟩ = some q4 ∧ wX.cell? ⟨M, 5, none⟩ = some q5 ∧ wX.cell? ⟨N, 0, none⟩ = some r0 ∧ wX.cell? ⟨N, 1, none⟩ = some r1 ∧ wX.cell? ⟨N, 2, none⟩ = some r2 ∧ wX.cell? ⟨N, 3, none⟩ = some r3 ∧ wX.cell? ⟨N, 4, none⟩ = some r4 ∧ wX.cell? ⟨N, 5, none⟩ = some r5 ∧ Below wB.heap.size wB wX) (h3 : Below wX.heap.size wX w3) :
    w3.cell? ⟨B, 0, none⟩ = some p0 ∧ w3.cell? ⟨B, 1, none⟩ = some p1 ∧ w3.cell? ⟨B, 2, none⟩ = some p2 ∧ w3.cell? ⟨B, 3, none⟩ = some p3 ∧ w3.cell? ⟨B, 4, none⟩ = some p4 ∧ w3.cell? ⟨B, 5, none⟩ = some p5 ∧ w3.cell? ⟨M, 0, none⟩ = some q0 ∧ w3.cell? ⟨M, 1, none⟩ = some q1 ∧ w3.cell? ⟨M, 2, none⟩ = some q2 ∧ w3.cell? ⟨M, 3, none⟩ = some q3 ∧ w3.cell? ⟨M, 4, none⟩ = some q4 ∧ w3.cell? ⟨M, 5, none⟩ = some q5 ∧ w3.cell? ⟨N, 0, none⟩ = some r0 ∧ w3.cell? ⟨N, 1, none⟩ = some r1 ∧ w3.cell? ⟨N, 2, none⟩ = some r2 ∧ w3.cell? ⟨N, 3, none⟩ = some r3 ∧ w3.cell? ⟨N, 4, none⟩ = some r4 ∧ w3.cell? ⟨N, 5, none⟩ = some r5 ∧ Below wB.heap.size wB w3 := by
  obtain ⟨ep0, ep1, ep2, ep3, ep4, ep5, eq0, eq1, eq2, eq3, eq4, eq5, er0, er1, er2, er3, er4, er5, hw⟩ := h
  have hB' := Nat.lt_of_lt_of_le hb hw.size
  have hM' := Nat.lt_of_lt_of_le hm hw.size
  have hN' := Nat.lt_of_lt_of_le hn hw.size
  exact ⟨(h3.cell (p := ⟨B, 0, none⟩) hB').trans ep0, (h3.cell (p := ⟨B, 1, none⟩) hB').trans ep1, (h3.cell (p := ⟨B, 2, none⟩) hB').trans ep2, (h3.cell (p := ⟨B, 3, none⟩) hB').trans ep3, (h3.cell (p := ⟨B, 4, none⟩) hB').trans ep4, (h3.cell (p := ⟨B, 5, none⟩) hB').trans ep5, (h3.cell (p := ⟨M, 0, none⟩) hM').trans eq0, (h3.cell (p := ⟨M, 1, none⟩) hM').trans eq1, (h3.cell (p := ⟨M, 2, none⟩) hM').trans eq2, (h3.cell (p := ⟨M, 3, none⟩) hM').trans eq3, (h3.cell (p := ⟨M, 4, none⟩) hM').trans eq4, (h3.cell (p := ⟨M, 5, none⟩) hM').trans eq5, (h3.cell (p := ⟨N, 0, none⟩) hN').trans er0, (h3.cell (p := ⟨N, 1, none⟩) hN').trans er1, (h3.cell (p := ⟨N, 2, none⟩) hN').trans er2, (h3.cell (p := ⟨N, 3, none⟩) hN').trans er3, (h3.cell (p := ⟨N, 4, none⟩) hN').trans er4, (h3.cell (p := ⟨N, 5, none⟩) hN').trans er5, hw.trans (h3.mono hw.size)⟩
theorem bel18 {W w : World} {gp0 gp1 gp2 gp3 gp4 gp5 gq0 gq1 gq2 gq3 gq4 gq5 gr0 gr1 gr2 gr3 gr4 gr5 : Prop} (h : gp0 ∧ gp1 ∧ gp2 ∧ gp3 ∧ gp4 ∧ gp5 ∧ gq0 ∧ gq1 ∧ gq2 ∧ gq3 ∧ gq4 ∧ gq5 ∧ gr0 ∧ gr1 ∧ gr2 ∧ gr3 ∧ gr4 ∧ gr5 ∧ Below w.heap.size w W) : Below w.heap.size w W := h.2.2.2.2.2.2.2.2.2.2.2.2.2.2.2.2.2.2
theorem At6.set0 {W : World} {k : Nat} {a b c d e f : Value} (h : At6 W k a b c d e f) (v : Value) : At6 (W.setCell ⟨k, 0, none⟩ v) k v b c d e f := by
  obtain ⟨h0, c0, c1, c2, c3, c4, c5, f0, f1, f2, f3, f4, f5⟩ := h
  exact ⟨by simpa using h0, World.cell?_setCell_same' W _ v (by rw [c0]; rfl), (set_far W k 0 1 v (by omega)).trans c1, (set_far W k 0 2 v (by omega)).trans c2, (set_far W k 0 3 v (by omega)).trans c3, (set_far W k 0 4 v (by omega)).trans c4, (set_far W k 0 5 v (by omega)).trans c5, frozen_set _ _ _ _ f0, frozen_set _ _ _ _ f1, frozen_set _ _ _ _ f2, frozen_set _ _ _ _ f3, frozen_set _ _ _ _ f4, frozen_set _ _ _ _ f5⟩
theorem At6.all {W : World} {k : Nat} {a b c d e f : Value} (h : At6 W k a b c d e f) (a' b' c' d' e' f' : Value) : At6 (set6 W k a' b' c' d' e' f') k a' b' c' d' e' f' :=
  (((((h.set0 a').set1 b').set2 c').set3 d').set4 e').set5 f'
theorem At6.other {W : World} {k m : Nat} {a b c d e f : Value} (h : At6 W k a b c d e f) (hm : m ≠ k) (a' b' c' d' e' f' : Value) : At6 (set6 W m a' b' c' d' e' f') k a b c d e f :=
  (((((h.set ⟨m, 0, none⟩ _ hm).set ⟨m, 1, none⟩ _ hm).set ⟨m, 2, none⟩ _ hm).set ⟨m, 3, none⟩ _ hm).set ⟨m, 4, none⟩ _ hm).set ⟨m, 5, none⟩ _ hm
theorem alloc_below {w w' : World} {o : Obj} (h : Below (w.alloc o).heap.size (w.alloc o) w') : Below w.heap.size w w' := ((Below.refl _ w).alloc (Nat.le_refl _) o).trans (h.mono (by simp))
theorem drewa_below {w w' : World} {o : Obj} (h : Below (w.alloc o).drew.heap.size (w.alloc o).drew w') : Below w.heap.size w w' := alloc_below (drew_below h)
set_option maxRecDepth 20000 in
set_option maxHeartbeats 64000000 in
theorem absolute_core (a b c d e f s t : ByteArray) (w : World) (hM : MaxAt w) (hs : s.size ≤ 400) (ht : t.size ≤ 400) (ha : a.size ≤ 400) (hb : b.size ≤ 400) (hc : c.size ≤ 400) (hd : d.size ≤ 400) (he : e.size ≤ 400) (hf : f.size ≤ 400)
    (r1 r2 r3 r4 r5 r6 : ByteArray) (hP : parseL s.data.toList = some (r1.data.toList, r2.data.toList, r3.data.toList, r4.data.toList, r5.data.toList, r6.data.toList))
    (CW : Hid (∀ b w, w.cell? ⟨b, 0, none⟩ = some (.string s) → w.cell? ⟨b, 1, none⟩ = some (.string t) → Calls Tryd.prog 12 #[.slice (some ⟨b, 0, none⟩) 2 2] w fun e w' => e = .returned (.bool true) ∧ w = w')) (CSh : Hid (∀ w, Calls Tryd.prog 18 #[.agg #[.string a, .string b, .string c, .string d, .string e, .string f]] w fun x w' => x = .returned (.bool true) ∧ Below w.heap.size w w')) :
    Calls Tryd.prog 9 #[.agg #[.string a, .string b, .string c, .string d, .string e, .string f], .string s, .string t] w fun x w' => x = .returned (.bool true) ∧ Below w.heap.size w w' := by
  have CPs := Lib.hid (fun w hM => parse_some s w (by omega) hM r1 r2 r3 r4 r5 r6 hP)
  have hrs := size_fits (parse_len _ _ hP)
  rw [size_len] at hrs
  obtain ⟨hr1, hr2, hr3, hr4, hr5, hr6⟩ := hrs
  have hpu := parse_format hP
  have hvu : validB (r1.data.toList, r2.data.toList, r3.data.toList, r4.data.toList, r5.data.toList, r6.data.toList) = true := (valid_iff _).2 hpu
  obtain ⟨FU, hFU⟩ := list_bytes (formatL (r1.data.toList, r2.data.toList, r3.data.toList, r4.data.toList, r5.data.toList, r6.data.toList))
  have hFus : FU.size ≤ 9000 := by have := format_len r1 r2 r3 r4 r5 r6; rw [size_of hFU]; omega
  have CFu := Lib.hid (fun w => format_is r1 r2 r3 r4 r5 r6 FU w (by omega) (by omega) (by omega) (by omega) (by omega) (by omega) hFU)
  have C1 := Lib.hid (fun w hM => resolve_some a b c d e f FU r1 r2 r3 r4 r5 r6 w hM (by omega) (by omega) (by omega) (by omega) (by omega) (by omega) (by omega) (by rw [hFU]; exact resolve_own _ _ _ hpu))
  have C2 := Lib.hid (fun w hM => resolve_some r1 r2 r3 r4 r5 r6 ⟨#[]⟩ r1 r2 r3 r4 r5 ⟨#[]⟩ w hM (by omega) (by omega) (by omega) (by omega) (by omega) (by omega) (by decide) (resolve_empty _ hvu))
  obtain ⟨gl, hg⟩ := resolve_hash _ hvu t.data.toList
  obtain ⟨g, hgl⟩ := list_bytes gl
  have C3 := Lib.hid (fun w hM => resolve_some r1 r2 r3 r4 r5 r6 (⟨#[35]⟩ ++ t) r1 r2 r3 r4 r5 g w hM (by omega) (by omega) (by omega) (by omega) (by omega) (by omega) (by rw [ByteArray.size_append]; show 1 + t.size ≤ 40000; omega) (by rw [app_list, hgl]; exact hg))
  have CWo := Lib.hid (fun w => without_any r1 r2 r3 r4 r5 r6 w)
  have hB0 : Below w.heap.size w (w.alloc (.cells #[.string a, .string b, .string c, .string d, .string e, .string f] 25)) := (Below.refl _ w).alloc (Nat.le_refl _) _
  have CF := Lib.hid (fit_any _ (hM.below hB0 (Nat.le_refl _)))
  clear hpu hvu hFU hg hgl hP
  go_enter Tryd.func9, Tryd.ntmps9
  go_wp2_with (first
    | (go_at_call 11; with_reducible refine CF.out.mono ?_; rintro x w1 ⟨rfl, hb1⟩; have hc1 := brule hb1; have hB1 := hB0.trans (hb1.mono hB0.size); have hz1 : w.heap.size < w1.heap.size := (by have := hb1.size; simp at this; omega))
    | (go_at_call 12; with_reducible refine (CW.out _ _ (by simp) (by simp)).mono ?_; rintro x w2 ⟨rfl, rfl⟩; have hB2 := hB1.alloc hB1.size (.cells #[.string s, .string t] 9))
    | (go_at_call 18; with_reducible refine (CSh.out _).mono ?_; rintro x w2 ⟨rfl, hb2⟩; have hc2 := brule hb2; have hB3 := hB2.trans (hb2.mono hB2.size); have hz2 : w.heap.size < w2.heap.size := (by have := hb2.size; simp at this; omega))
    | (go_at_call 13; with_reducible refine (CPs.out _ (hM.below hB3 (Nat.le_refl _))).mono ?_; rintro x w3 ⟨rfl, hb3⟩; have hc3 := brule hb3; have hB4 := hB3.trans (hb3.mono hB3.size); have hz3 : w.heap.size < w3.heap.size := (by have := hb3.size; omega); have hB5 := hB4.alloc hB4.size (.cells #[.string r1, .string r2, .string r3, .string r4, .string r5, .string r6] 25)))
  have AM := At6.new w3 (.string r1) (.string r2) (.string r3) (.string r4) (.string r5) (.string r6) 25
  have AK : At6 (w3.alloc (.cells #[.string r1, .string r2, .string r3, .string r4, .string r5, .string r6] 25)) w.heap.size (.string a) (.string b) (.string c) (.string d) (.string e) (.string f) := (((At6.new w (.string a) (.string b) (.string c) (.string d) (.string e) (.string f) 25).below (hb1.trans ((((Below.refl _ w1).alloc (Nat.le_refl _) (.cells #[.string s, .string t] 9)).trans ((hb2.trans (hb3.mono hb2.size)).mono (by simp))).mono hb1.size)) (by simp)).alloc _)
  obtain ⟨wA, hwA⟩ : ∃ wA : World, w3.alloc (.cells #[.string r1, .string r2, .string r3, .string r4, .string r5, .string r6] 25) = wA := ⟨_, rfl⟩
  obtain ⟨M, hm⟩ : ∃ M, w3.heap.size = M := ⟨_, rfl⟩
  obtain ⟨K, hK⟩ : ∃ K, w.heap.size = K := ⟨_, rfl⟩
  rw [hwA] at AM AK hB5
  rw [hm] at AM
  rw [hK] at AK hB5
  rw [hwA, hm, hK]
  have HK := Lib.hid hK
  have hMA := hM.below hB5 (by rw [hK]; exact Nat.le_refl _)
  clear hwA hm hK hB0 hB1 hB2 hB3 hB4 hc1 hc2 hc3 hz1 hz2 hz3 hb1 hb2 hb3
  have AM0 := AM
  obtain ⟨hml, m0, m1, m2, m3, m4, m5, -⟩ := AM
  obtain ⟨hkl, k0, k1, k2, k3, k4, k5, -⟩ := AK
  have hKA : K ≤ wA.heap.size := Nat.le_of_lt hkl
  go_cut [9, 10] (fun p9 e10 wx => ∃ b9, p9 = .pointer (some ⟨b9, 0, none⟩) ∧ e10 = .int .i64 0 ∧ At6 wx b9 (.string r1) (.string r2) (.string r3) (.string r4) (.string r5) (.string r6) ∧ At6 wx M (.string r1) (.string r2) (.string r3) (.string r4) (.string r5) (.string r6) ∧ Below K w wx)
  case first =>
    go_region_with (first
      | (go_at_call 19; with_reducible refine (CFu.out _).mono ?_; rintro x w4 ⟨rfl, hb4'⟩; have hb4 := drew_below hb4'; have AM4 := AM0.below hb4 hml; have hr4 := brule hb4; have hM4 := hMA.below hb4 (Nat.le_refl _); have hk4 := Nat.lt_of_lt_of_le hkl hb4.size; have hm4 := Nat.lt_of_lt_of_le hml hb4.size; have hB6 := hB5.trans (hb4.mono hKA))
      | (go_at_call 19; with_reducible refine (CFu.out _).mono ?_; rintro x w4 ⟨rfl, hb4'⟩; have hb4 := drewa_below hb4'; have AM4 := AM0.below hb4 hml; have hr4 := brule hb4; have hM4 := hMA.below hb4 (Nat.le_refl _); have hk4 := Nat.lt_of_lt_of_le hkl hb4.size; have hm4 := Nat.lt_of_lt_of_le hml hb4.size; have hB6 := hB5.trans (hb4.mono hKA); have N4 := (At6.new wA E0 E0 E0 E0 E0 E0 25).below (drew_below hb4') (by simp))
      | (go_at_call 32; with_reducible refine (C1.out _ hM4).mono ?_; rintro x w5 ⟨rfl, hb5⟩; have AM5 := AM4.below hb5 AM4.out.1; have hB7 := hB6.trans (hb5.mono (Nat.le_trans hKA hb4.size)); (try have N9 := N4.below hb5 N4.out.1); (try obtain ⟨-, n0, n1, n2, n3, n4, n5, g0, g1, g2, g3, g4, g5⟩ := N9.out))
      | (go_at_call 32; with_reducible refine (C1.out _ (hM4.below ((Below.refl _ w4).alloc (Nat.le_refl _) _) (Nat.le_refl _))).mono ?_; rintro x w5 ⟨rfl, hb5'⟩; have hb5 := alloc_below hb5'; have AM5 := AM4.below hb5 AM4.out.1; have hB7 := hB6.trans (hb5.mono (Nat.le_trans hKA hb4.size)); have N9 := (At6.new w4 E0 E0 E0 E0 E0 E0 25).below hb5' (by simp); obtain ⟨-, n0, n1, n2, n3, n4, n5, g0, g1, g2, g3, g4, g5⟩ := N9.out))
    all_goals
      go_wp2_with fail
      go_meet
      case rel =>
        first
          | (with_reducible refine ⟨_, rfl, rfl, At6.new w5 (.string r1) (.string r2) (.string r3) (.string r4) (.string r5) (.string r6) _, AM5.alloc _, hB7.alloc ?_ _⟩; have := hb5.size; omega)
          | (with_reducible refine ⟨_, rfl, rfl, N9.all _ _ _ _ _ _, AM5.other ?_ _ _ _ _ _ _, below_set6 hB7 ?_ _ _ _ _ _ _⟩ <;> omega)
  case rest =>
    obtain ⟨b9, rfl, rfl, A9, AMc, hBc⟩ := hcut
    have hMc := hM.below hBc (Nat.le_of_eq HK.out)
    have AM1 := AMc
    have A91 := A9
    clear m0 m1 m2 m3 m4 m5 k0 k1 k2 k3 k4 k5 AM0 hB5 hMA hKA hkl hml
    obtain ⟨hmc, m0, m1, m2, m3, m4, m5, -⟩ := AMc
    obtain ⟨h9c, x0, x1, x2, x3, x4, x5, -⟩ := A9
    have hKc : K ≤ wc.heap.size := (by have := hBc.size; rw [HK.out] at this; exact this)
    go_wp2_with (go_at_call 32; with_reducible refine (C2.out _ hMc).mono ?_; rintro x w6 ⟨rfl, hb6⟩; have AM6 := AM1.below hb6 AM1.out.1; have A96 := A91.below hb6 A91.out.1; have hB8 := hBc.trans (hb6.mono hKc); have hM6 := hMc.below hb6 (Nat.le_refl _); have hK6 := Nat.le_trans hKc hb6.size)
    have AMB := AM6.alloc (.cells #[.string r1, .string r2, .string r3, .string r4, .string r5, .string ⟨#[]⟩] 25)
    have A9B := A96.alloc (.cells #[.string r1, .string r2, .string r3, .string r4, .string r5, .string ⟨#[]⟩] 25)
    have ANB := At6.new w6 (.string r1) (.string r2) (.string r3) (.string r4) (.string r5) (.string ⟨#[]⟩) 25
    have hB9 := hB8.alloc hK6 (.cells #[.string r1, .string r2, .string r3, .string r4, .string r5, .string ⟨#[]⟩] 25)
    have hMB := hM6.below ((Below.refl _ w6).alloc (Nat.le_refl _) (.cells #[.string r1, .string r2, .string r3, .string r4, .string r5, .string ⟨#[]⟩] 25)) (Nat.le_refl _)
    obtain ⟨wB, hwB⟩ : ∃ wB : World, w6.alloc (.cells #[.string r1, .string r2, .string r3, .string r4, .string r5, .string ⟨#[]⟩] 25) = wB := ⟨_, rfl⟩
    obtain ⟨N, hn⟩ : ∃ N, w6.heap.size = N := ⟨_, rfl⟩
    have hKB : K ≤ wB.heap.size := (by rw [← hwB]; simp; omega)
    rw [hwB] at AMB A9B ANB hB9 hMB
    rw [hn] at ANB
    rw [hwB, hn]
    clear hwB hn AM6 A96 hB8 hM6 hK6 AM1 A91 m0 m1 m2 m3 m4 m5 x0 x1 x2 x3 x4 x5 hb6 hBc hMc
    obtain ⟨hmB, m0, m1, m2, m3, m4, m5, -⟩ := AMB
    obtain ⟨h9B, x0, x1, x2, x3, x4, x5, -⟩ := A9B
    obtain ⟨hnB, y0, y1, y2, y3, y4, y5, -⟩ := ANB
    have S0 : wB.cell? ⟨b9, 0, none⟩ = some (.string r1) ∧ wB.cell? ⟨b9, 1, none⟩ = some (.string r2) ∧ wB.cell? ⟨b9, 2, none⟩ = some (.string r3) ∧ wB.cell? ⟨b9, 3, none⟩ = some (.string r4) ∧ wB.cell? ⟨b9, 4, none⟩ = some (.string r5) ∧ wB.cell? ⟨b9, 5, none⟩ = some (.string r6) ∧ wB.cell? ⟨M, 0, none⟩ = some (.string r1) ∧ wB.cell? ⟨M, 1, none⟩ = some (.string r2) ∧ wB.cell? ⟨M, 2, none⟩ = some (.string r3) ∧ wB.cell? ⟨M, 3, none⟩ = some (.string r4) ∧ wB.cell? ⟨M, 4, none⟩ = some (.string r5) ∧ wB.cell? ⟨M, 5, none⟩ = some (.string r6) ∧ wB.cell? ⟨N, 0, none⟩ = some (.string r1) ∧ wB.cell? ⟨N, 1, none⟩ = some (.string r2) ∧ wB.cell? ⟨N, 2, none⟩ = some (.string r3) ∧ wB.cell? ⟨N, 3, none⟩ = some (.string r4) ∧ wB.cell? ⟨N, 4, none⟩ = some (.string r5) ∧ wB.cell? ⟨N, 5, none⟩ = some (.string ⟨#[]⟩) ∧ Below wB.heap.size wB wB := ⟨x0, x1, x2, x3, x4, x5, m0, m1, m2, m3, m4, m5, y0, y1, y2, y3, y4, y5, Below.refl _ _⟩
    clear m0 m1 m2 m3 m4 m5 x0 x1 x2 x3 x4 x5 y0 y1 y2 y3 y4 y5
    go_region_held3 (fun w' => w'.cell? ⟨b9, 0, none⟩ = some (.string r1) ∧ w'.cell? ⟨b9, 1, none⟩ = some (.string r2) ∧ w'.cell? ⟨b9, 2, none⟩ = some (.string r3) ∧ w'.cell? ⟨b9, 3, none⟩ = some (.string r4) ∧ w'.cell? ⟨b9, 4, none⟩ = some (.string r5) ∧ w'.cell? ⟨b9, 5, none⟩ = some (.string r6) ∧ w'.cell? ⟨M, 0, none⟩ = some (.string r1) ∧ w'.cell? ⟨M, 1, none⟩ = some (.string r2) ∧ w'.cell? ⟨M, 2, none⟩ = some (.string r3) ∧ w'.cell? ⟨M, 3, none⟩ = some (.string r4) ∧ w'.cell? ⟨M, 4, none⟩ = some (.string r5) ∧ w'.cell? ⟨M, 5, none⟩ = some (.string r6) ∧ w'.cell? ⟨N, 0, none⟩ = some (.string r1) ∧ w'.cell? ⟨N, 1, none⟩ = some (.string r2) ∧ w'.cell? ⟨N, 2, none⟩ = some (.string r3) ∧ w'.cell? ⟨N, 3, none⟩ = some (.string r4) ∧ w'.cell? ⟨N, 4, none⟩ = some (.string r5) ∧ w'.cell? ⟨N, 5, none⟩ = some (.string ⟨#[]⟩) ∧ Below wB.heap.size wB w') (first | exact snext18 h9B hmB hnB S0 (Below.refl _ wB).drew | (apply snext18 h9B hmB hnB; rotate_left; assumption; assumption) | go_keep) (first | (go_at_call 31; with_reducible refine (CWo.out _).mono ?_; rintro x w7 ⟨rfl, hb7⟩))
    have hbx : Below wB.heap.size wB w7 := bel18 (by assumption)
    have hM7 := hMB.below hbx (Nat.le_refl _)
    have hB10 := hB9.trans (hbx.mono hKB)
    have hm7 := Nat.lt_of_lt_of_le hmB hbx.size
    have hK7 := Nat.le_trans hKB hbx.size
    go_wp2_with (go_at_call 32; with_reducible refine (C3.out _ hM7).mono ?_; rintro x w8 ⟨rfl, hb8⟩; have hr8 := brule hb8; have hm8 := Nat.lt_of_lt_of_le hm7 hb8.size; have hB11 := hB10.trans (hb8.mono hK7); have hK8 := Nat.le_trans hK7 hb8.size; have hn8 : ¬ M = w8.heap.size := (by omega))
    go_ret
    exact ⟨rfl, by have := hB11.alloc hK8 (.cells #[.string r1, .string r2, .string r3, .string r4, .string r5, .string r6] 25); rw [HK.out]; exact this⟩
end Go.Proofs.YtgbinadjbikhhaaDoor
