/- The walk of the reference's Parse: texts that denote nothing. -/
import Derived.Test.YtjdhaacmlpegoaaGreatDoorUV
namespace Go.Proofs.YtjdhaacmlpegoaaGreatDoor
set_option linter.unusedVariables false
set_option linter.unusedSimpArgs false
open Go.RowKit

set_option maxRecDepth 20000 in
set_option maxHeartbeats 1000000 in
theorem rparseN (s : ByteArray) (w : World) (hs : s.size ≤ 300000) (hOK : schemeOk (trimL s.data.toList) = false) :
    Calls Tryz.prog 91 #[.string s] w fun e w' => e = .returned (resB (parseL s.data.toList)) ∧ Below w.heap.size w w' := by
  have hR : parseL s.data.toList = none := by rw [parseL, hOK]; rfl
  rw [hR]
  obtain ⟨T, hT⟩ : ∃ T, trimL s.data.toList = T := ⟨_, rfl⟩
  have hTl := trimL_len s.data.toList
  rw [size_len] at hTl
  have cT := fun w => rtrim_any s w (by omega)
  rw [hT] at cT hTl hOK
  have hsn : schemeN T = -1 := by rw [schemeN, hOK]; rfl
  have CT := Lib.hid cT
  have HSN := Lib.hid hsn
  clear cT hT hOK hR hsn
  go_enter Tryz.func91, Tryz.ntmps91
  go_wp2_with (first
    | (go_at_call 138; with_reducible refine (CT.out _).mono ?_; rintro e w' ⟨t, rfl, ht, rfl⟩; have hts := size_of ht; have Ht := Lib.hid ht; clear ht)
    | (go_at_call 139; with_reducible refine (rscheme_any t _ (by omega)).mono ?_; rw [Ht.out, HSN.out]; rintro e w' ⟨rfl, rfl⟩))
  obtain ⟨-, c0, c1, c2, c3, c4, c5, -⟩ := (start2 w 37).1
  exact bodyPost_ret (res_cell Tryz.results91 _ _ _ E0 E0 E0 E0 E0 E0 (.bool false) rfl rfl ⟨c0, c1, c2, c3, c4, c5⟩) rfl ⟨resB_none rfl, ((Below.refl _ w).alloc (Nat.le_refl _) _).alloc (by simp) _⟩
set_option maxRecDepth 20000 in
set_option maxHeartbeats 2000000 in
theorem rparseBA (s : ByteArray) (w : World) (hs : s.size ≤ 300000) (N Rst : List UInt8) (hOK : schemeOk (trimL s.data.toList) = true) (hN : lowL (pre 58 (trimL s.data.toList)) = N) (hRs : post 58 (trimL s.data.toList) = Rst) (hab : N ≠ aboutL) (R : Option U6) (hR : restL N Rst = R) (X Y Z : Bool) (hX : decide (N = [104, 116, 116, 112]) = X) (hY : decide (N = [104, 116, 116, 112, 115]) = Y) (hZ : decide ((pre 35 Rst).take 2 = [47, 47]) = false) :
    Calls Tryz.prog 91 #[.string s] w fun e w' => e = .returned (resB R) ∧ Below w.heap.size w w' := by
  have hno : R = none := by
    have : R = siteL N (conv (innerL ++ [63]) true (post 35 Rst)) (pre 35 Rst) := by rw [← hR, restL, if_neg hab]
    rw [this, siteL]
    refine if_neg ?_
    rintro ⟨h1, h2⟩
    simp_all
  have HNO := Lib.hid hno
  have HX := Lib.hid hX
  have HY := Lib.hid hY
  have HZ := Lib.hid hZ
  clear hno hX hY hZ
  have hTl := trimL_len s.data.toList
  rw [size_len] at hTl
  have hNl : N.length ≤ s.size := by rw [← hN, lowL_len]; exact Nat.le_trans (pre_le _ _) hTl
  have hRl : Rst.length ≤ s.size := by rw [← hRs]; exact Nat.le_trans (post_le _ _) hTl
  have cT := fun w => rtrim_any s w (by omega)
  obtain ⟨T, hT⟩ : ∃ T, trimL s.data.toList = T := ⟨_, rfl⟩
  rw [hT] at cT hTl hOK hN hRs
  obtain ⟨L, hL⟩ : ∃ L, (pre 58 T).length = L := ⟨_, rfl⟩
  have hLl := pre_le 58 T
  rw [hL] at hLl
  have hLT : L < T.length := by
    have h58 : 58 ∈ T := by
      unfold schemeOk at hOK
      simp only [Bool.and_eq_true] at hOK
      simpa using hOK.1.1
    have h2 := congrArg List.length (pre_post 58 T h58)
    simp only [List.length_append, List.length_cons, hL] at h2
    omega
  have hLN : lowL (T.take L) = N := by rw [← hL, pre_take, hN]
  have hLR : T.drop (L + 1) = Rst := by rw [← hL, post_drop, hRs]
  have hsn : schemeN T = (L : Int) := by rw [schemeN, if_pos hOK, hL]
  obtain ⟨BF, hBF⟩ : ∃ l, pre 35 Rst = l := ⟨_, rfl⟩
  obtain ⟨FR, hFR⟩ : ∃ l, post 35 Rst = l := ⟨_, rfl⟩
  obtain ⟨CF, hCF⟩ : ∃ l, conv (innerL ++ [63]) true FR = l := ⟨_, rfl⟩
  have hpl := pre_le 35 Rst
  have hBT : Rst.take BF.length = BF := by rw [← hBF, pre_take]
  have hFD : Rst.drop (BF.length + 1) = FR := by rw [← hBF, post_drop, hFR]
  have hFN : ¬ BF.length < Rst.length → FR = [] := fun h => by rw [← hFD]; exact List.drop_eq_nil_of_le (by omega)
  rw [hBF] at hpl
  have CT := Lib.hid cT
  have HLN := Lib.hid hLN
  have HLR := Lib.hid hLR
  have HSN := Lib.hid hsn
  have HBF := Lib.hid hBF
  have HCF := Lib.hid hCF
  have HBT := Lib.hid hBT
  have HFD := Lib.hid hFD
  have HFN := Lib.hid hFN
  have hR2 : R = siteL N CF BF := by rw [← hR, restL, if_neg hab, hBF, hFR, hCF]
  have HR := Lib.hid hR2
  have HAB := Lib.hid hab
  clear cT hT hOK hR hN hRs hBF hFR hCF hR2 hab hL hsn hLN hLR hBT hFD hFN
  obtain ⟨aB0, aZ0⟩ := start2 w 37
  have hb0 : Below w.heap.size w ((w.alloc (.cells #[E0, E0, E0, E0, E0, E0] 37)).alloc (.cells #[E0, E0, E0, E0, E0, E0] 37)) := ((Below.refl _ w).alloc (Nat.le_refl _) _).alloc (by simp) _
  have AB0 := Lib.hid aB0
  have AZ0 := Lib.hid aZ0
  clear aB0 aZ0
  go_enter Tryz.func91, Tryz.ntmps91
  go_upto_if 38 with (first
    | (go_at_call 138; with_reducible refine (CT.out _).mono ?_; rintro e w' ⟨t, rfl, ht, rfl⟩; have hts := size_of ht; have Ht := Lib.hid ht; clear ht)
    | (go_at_call 139; with_reducible refine (rscheme_any t _ (by omega)).mono ?_; rw [Ht.out, HSN.out]; rintro e w' ⟨rfl, rfl⟩)
    | (go_at_call 140; with_reducible refine (small_any (t.extract 0 L) _ (by simp; omega)).mono ?_; rw [ext_from, Ht.out, HLN.out]; rintro e w1 ⟨a, rfl, ha, hb1⟩; have hsz1 : w.heap.size + 1 < w1.heap.size := (by have := hb1.size; simp at this; omega); have hbw1 := hb0.trans (hb1.mono (by simp; omega)); have AB1 := Lib.hid (AB0.out.below hb1 (by simp <;> omega)); have AZ1 := Lib.hid (AZ0.out.below hb1 (by simp <;> omega)); have Ha := Lib.hid ha; clear ha hb1)
    | (go_at_call 141; with_reducible refine (find35 (t.extract (L + 1) T.length) _ (by simp; omega)).mono ?_; have hrl := ext_tail t (L + 1) T.length hts.symm; rw [Ht.out, HLR.out] at hrl; obtain ⟨r, hrd⟩ : ∃ r, t.extract (L + 1) T.length = r := ⟨_, rfl⟩; rw [hrd] at hrl ⊢; rw [hrl, HBF.out]; have hrs := size_of hrl; have Hr := Lib.hid hrl; clear hrd hrl; rintro e w' ⟨rfl, rfl⟩))
  have aU := At6.new w1 (.string a) E0 E0 E0 E0 E0 37
  have aB := AB1.out.alloc (.cells #[.string a, E0, E0, E0, E0, E0] 37)
  have aZ := AZ1.out.alloc (.cells #[.string a, E0, E0, E0, E0, E0] 37)
  have hbw2 := hbw1.alloc (by omega) (.cells #[.string a, E0, E0, E0, E0, E0] 37)
  obtain ⟨w2, hw2⟩ : ∃ w2, w1.alloc (.cells #[.string a, E0, E0, E0, E0, E0] 37) = w2 := ⟨_, rfl⟩
  have hsz2 : w2.heap.size = w1.heap.size + 1 := by rw [← hw2]; simp
  obtain ⟨K, hK⟩ : ∃ K, w1.heap.size = K := ⟨_, rfl⟩
  rw [hw2] at aU aB aZ hbw2 ⊢
  rw [hK] at aU hsz1 hsz2 ⊢
  have AU := Lib.hid aU
  have AB := Lib.hid aB
  have AZ := Lib.hid aZ
  clear aU aB aZ hw2 hK AB1 AZ1 AB0 AZ0 hb0 hbw1
  go_cut [] (fun wx => ∃ f : ByteArray, At6 wx K (.string a) E0 E0 E0 E0 (.string f) ∧ At6 wx w.heap.size E0 E0 E0 E0 E0 E0 ∧ At6 wx (w.heap.size + 1) E0 E0 E0 E0 E0 E0 ∧ Below w.heap.size w wx ∧ f.data.toList = CF)
  case first =>
    by_cases hlt : BF.length < Rst.length
    · obtain ⟨-, c0, c1, c2, c3, c4, c5, f0, f1, f2, f3, f4, f5⟩ := AU.out
      go_wp2_with (go_at_call 142; with_reducible refine (rconvert_any (r.extract _ _) ⟨#[63]⟩ _ (by simp; omega) (by decide)).mono ?_; rw [ext_tail r _ _ (by omega), Hr.out, HFD.out]; rintro e w3 ⟨f, rfl, hf, hb3⟩; obtain ⟨hc3, hf3⟩ := bcell hb3)
      go_meet
      case rel => exact ⟨f, (AU.out.below hb3 (by omega)).set5 _, (AB.out.below hb3 (by omega)).set _ _ (by simp; omega), (AZ.out.below hb3 (by omega)).set _ _ (by simp; omega), (hbw2.trans (hb3.mono hbw2.size)).setCell (by simp; omega) _, hf.trans HCF.out⟩
    · go_wp2_with fail
      go_meet
      case rel => exact ⟨⟨#[]⟩, AU.out, AB.out, AZ.out, hbw2, by rw [← HCF.out, HFN.out hlt]; rfl⟩
  case rest =>
    obtain ⟨f, aU, aB, aZ, hbw, hf⟩ := hcut
    have n1 : (a.toList == [97, 98, 111, 117, 116]) = false := by rw [str_beq, Ha.out]; exact decide_eq_false HAB.out
    have n2 : (a.toList == [104, 116, 116, 112]) = X := by rw [str_beq, Ha.out]; exact HX.out
    have n3 : (a.toList == [104, 116, 116, 112, 115]) = Y := by rw [str_beq, Ha.out]; exact HY.out
    have Hf := Lib.hid hf
    have AU2 := Lib.hid aU
    have AB2 := Lib.hid aB
    have AZ2 := Lib.hid aZ
    obtain ⟨kU, c0, c1, c2, c3, c4, c5, f0, f1, f2, f3, f4, f5⟩ := aU
    obtain ⟨kB, b0, b1, b2, b3, b4, b5, g0, g1, g2, g3, g4, g5⟩ := aB
    obtain ⟨kZ, z0, z1, z2, z3, z4, z5, y0, y1, y2, y3, y4, y5⟩ := aZ
    clear hf AU AB AZ y0 y1 y2 y3 y4 y5
    go_upto_if 50 with fail
    have hr2l := ext_from r BF.length
    rw [Hr.out, HBT.out] at hr2l
    obtain ⟨r2, hr2⟩ : ∃ r2, r.extract 0 BF.length = r2 := ⟨_, rfl⟩
    rw [hr2] at hr2l ⊢
    have hr2s := size_of hr2l
    have n4 : ((r2.extract 0 2).toList == [47, 47]) = false := by rw [str_beq, ext_from, hr2l, ← HBF.out]; exact HZ.out
    clear hr2 hr2l
    go_wp2_with fail
    all_goals
      refine bodyPost_ret (url_ret Tryz.results91 _ _ _ AB2.out.blank E0 E0 E0 E0 E0 E0 (.bool false) rfl rfl) rfl ⟨resB_none HNO.out, hbw.set6 _ _ _ _ _ _⟩
set_option maxRecDepth 20000 in
set_option maxHeartbeats 2000000 in
theorem rparseBB (s : ByteArray) (w : World) (hs : s.size ≤ 300000) (N Rst : List UInt8) (hOK : schemeOk (trimL s.data.toList) = true) (hN : lowL (pre 58 (trimL s.data.toList)) = N) (hRs : post 58 (trimL s.data.toList) = Rst) (hab : N ≠ aboutL) (R : Option U6) (hR : restL N Rst = R) (X Y Z : Bool) (hX : decide (N = [104, 116, 116, 112]) = false) (hY : decide (N = [104, 116, 116, 112, 115]) = false) (hZ : decide ((pre 35 Rst).take 2 = [47, 47]) = Z) :
    Calls Tryz.prog 91 #[.string s] w fun e w' => e = .returned (resB R) ∧ Below w.heap.size w w' := by
  have hno : R = none := by
    have : R = siteL N (conv (innerL ++ [63]) true (post 35 Rst)) (pre 35 Rst) := by rw [← hR, restL, if_neg hab]
    rw [this, siteL]
    refine if_neg ?_
    rintro ⟨h1, h2⟩
    simp_all
  have HNO := Lib.hid hno
  have HX := Lib.hid hX
  have HY := Lib.hid hY
  have HZ := Lib.hid hZ
  clear hno hX hY hZ
  have hTl := trimL_len s.data.toList
  rw [size_len] at hTl
  have hNl : N.length ≤ s.size := by rw [← hN, lowL_len]; exact Nat.le_trans (pre_le _ _) hTl
  have hRl : Rst.length ≤ s.size := by rw [← hRs]; exact Nat.le_trans (post_le _ _) hTl
  have cT := fun w => rtrim_any s w (by omega)
  obtain ⟨T, hT⟩ : ∃ T, trimL s.data.toList = T := ⟨_, rfl⟩
  rw [hT] at cT hTl hOK hN hRs
  obtain ⟨L, hL⟩ : ∃ L, (pre 58 T).length = L := ⟨_, rfl⟩
  have hLl := pre_le 58 T
  rw [hL] at hLl
  have hLT : L < T.length := by
    have h58 : 58 ∈ T := by
      unfold schemeOk at hOK
      simp only [Bool.and_eq_true] at hOK
      simpa using hOK.1.1
    have h2 := congrArg List.length (pre_post 58 T h58)
    simp only [List.length_append, List.length_cons, hL] at h2
    omega
  have hLN : lowL (T.take L) = N := by rw [← hL, pre_take, hN]
  have hLR : T.drop (L + 1) = Rst := by rw [← hL, post_drop, hRs]
  have hsn : schemeN T = (L : Int) := by rw [schemeN, if_pos hOK, hL]
  obtain ⟨BF, hBF⟩ : ∃ l, pre 35 Rst = l := ⟨_, rfl⟩
  obtain ⟨FR, hFR⟩ : ∃ l, post 35 Rst = l := ⟨_, rfl⟩
  obtain ⟨CF, hCF⟩ : ∃ l, conv (innerL ++ [63]) true FR = l := ⟨_, rfl⟩
  have hpl := pre_le 35 Rst
  have hBT : Rst.take BF.length = BF := by rw [← hBF, pre_take]
  have hFD : Rst.drop (BF.length + 1) = FR := by rw [← hBF, post_drop, hFR]
  have hFN : ¬ BF.length < Rst.length → FR = [] := fun h => by rw [← hFD]; exact List.drop_eq_nil_of_le (by omega)
  rw [hBF] at hpl
  have CT := Lib.hid cT
  have HLN := Lib.hid hLN
  have HLR := Lib.hid hLR
  have HSN := Lib.hid hsn
  have HBF := Lib.hid hBF
  have HCF := Lib.hid hCF
  have HBT := Lib.hid hBT
  have HFD := Lib.hid hFD
  have HFN := Lib.hid hFN
  have hR2 : R = siteL N CF BF := by rw [← hR, restL, if_neg hab, hBF, hFR, hCF]
  have HR := Lib.hid hR2
  have HAB := Lib.hid hab
  clear cT hT hOK hR hN hRs hBF hFR hCF hR2 hab hL hsn hLN hLR hBT hFD hFN
  obtain ⟨aB0, aZ0⟩ := start2 w 37
  have hb0 : Below w.heap.size w ((w.alloc (.cells #[E0, E0, E0, E0, E0, E0] 37)).alloc (.cells #[E0, E0, E0, E0, E0, E0] 37)) := ((Below.refl _ w).alloc (Nat.le_refl _) _).alloc (by simp) _
  have AB0 := Lib.hid aB0
  have AZ0 := Lib.hid aZ0
  clear aB0 aZ0
  go_enter Tryz.func91, Tryz.ntmps91
  go_upto_if 38 with (first
    | (go_at_call 138; with_reducible refine (CT.out _).mono ?_; rintro e w' ⟨t, rfl, ht, rfl⟩; have hts := size_of ht; have Ht := Lib.hid ht; clear ht)
    | (go_at_call 139; with_reducible refine (rscheme_any t _ (by omega)).mono ?_; rw [Ht.out, HSN.out]; rintro e w' ⟨rfl, rfl⟩)
    | (go_at_call 140; with_reducible refine (small_any (t.extract 0 L) _ (by simp; omega)).mono ?_; rw [ext_from, Ht.out, HLN.out]; rintro e w1 ⟨a, rfl, ha, hb1⟩; have hsz1 : w.heap.size + 1 < w1.heap.size := (by have := hb1.size; simp at this; omega); have hbw1 := hb0.trans (hb1.mono (by simp; omega)); have AB1 := Lib.hid (AB0.out.below hb1 (by simp <;> omega)); have AZ1 := Lib.hid (AZ0.out.below hb1 (by simp <;> omega)); have Ha := Lib.hid ha; clear ha hb1)
    | (go_at_call 141; with_reducible refine (find35 (t.extract (L + 1) T.length) _ (by simp; omega)).mono ?_; have hrl := ext_tail t (L + 1) T.length hts.symm; rw [Ht.out, HLR.out] at hrl; obtain ⟨r, hrd⟩ : ∃ r, t.extract (L + 1) T.length = r := ⟨_, rfl⟩; rw [hrd] at hrl ⊢; rw [hrl, HBF.out]; have hrs := size_of hrl; have Hr := Lib.hid hrl; clear hrd hrl; rintro e w' ⟨rfl, rfl⟩))
  have aU := At6.new w1 (.string a) E0 E0 E0 E0 E0 37
  have aB := AB1.out.alloc (.cells #[.string a, E0, E0, E0, E0, E0] 37)
  have aZ := AZ1.out.alloc (.cells #[.string a, E0, E0, E0, E0, E0] 37)
  have hbw2 := hbw1.alloc (by omega) (.cells #[.string a, E0, E0, E0, E0, E0] 37)
  obtain ⟨w2, hw2⟩ : ∃ w2, w1.alloc (.cells #[.string a, E0, E0, E0, E0, E0] 37) = w2 := ⟨_, rfl⟩
  have hsz2 : w2.heap.size = w1.heap.size + 1 := by rw [← hw2]; simp
  obtain ⟨K, hK⟩ : ∃ K, w1.heap.size = K := ⟨_, rfl⟩
  rw [hw2] at aU aB aZ hbw2 ⊢
  rw [hK] at aU hsz1 hsz2 ⊢
  have AU := Lib.hid aU
  have AB := Lib.hid aB
  have AZ := Lib.hid aZ
  clear aU aB aZ hw2 hK AB1 AZ1 AB0 AZ0 hb0 hbw1
  go_cut [] (fun wx => ∃ f : ByteArray, At6 wx K (.string a) E0 E0 E0 E0 (.string f) ∧ At6 wx w.heap.size E0 E0 E0 E0 E0 E0 ∧ At6 wx (w.heap.size + 1) E0 E0 E0 E0 E0 E0 ∧ Below w.heap.size w wx ∧ f.data.toList = CF)
  case first =>
    by_cases hlt : BF.length < Rst.length
    · obtain ⟨-, c0, c1, c2, c3, c4, c5, f0, f1, f2, f3, f4, f5⟩ := AU.out
      go_wp2_with (go_at_call 142; with_reducible refine (rconvert_any (r.extract _ _) ⟨#[63]⟩ _ (by simp; omega) (by decide)).mono ?_; rw [ext_tail r _ _ (by omega), Hr.out, HFD.out]; rintro e w3 ⟨f, rfl, hf, hb3⟩; obtain ⟨hc3, hf3⟩ := bcell hb3)
      go_meet
      case rel => exact ⟨f, (AU.out.below hb3 (by omega)).set5 _, (AB.out.below hb3 (by omega)).set _ _ (by simp; omega), (AZ.out.below hb3 (by omega)).set _ _ (by simp; omega), (hbw2.trans (hb3.mono hbw2.size)).setCell (by simp; omega) _, hf.trans HCF.out⟩
    · go_wp2_with fail
      go_meet
      case rel => exact ⟨⟨#[]⟩, AU.out, AB.out, AZ.out, hbw2, by rw [← HCF.out, HFN.out hlt]; rfl⟩
  case rest =>
    obtain ⟨f, aU, aB, aZ, hbw, hf⟩ := hcut
    have n1 : (a.toList == [97, 98, 111, 117, 116]) = false := by rw [str_beq, Ha.out]; exact decide_eq_false HAB.out
    have n2 : (a.toList == [104, 116, 116, 112]) = false := by rw [str_beq, Ha.out]; exact HX.out
    have n3 : (a.toList == [104, 116, 116, 112, 115]) = false := by rw [str_beq, Ha.out]; exact HY.out
    have Hf := Lib.hid hf
    have AU2 := Lib.hid aU
    have AB2 := Lib.hid aB
    have AZ2 := Lib.hid aZ
    obtain ⟨kU, c0, c1, c2, c3, c4, c5, f0, f1, f2, f3, f4, f5⟩ := aU
    obtain ⟨kB, b0, b1, b2, b3, b4, b5, g0, g1, g2, g3, g4, g5⟩ := aB
    obtain ⟨kZ, z0, z1, z2, z3, z4, z5, y0, y1, y2, y3, y4, y5⟩ := aZ
    clear hf AU AB AZ y0 y1 y2 y3 y4 y5
    go_upto_if 50 with fail
    have hr2l := ext_from r BF.length
    rw [Hr.out, HBT.out] at hr2l
    obtain ⟨r2, hr2⟩ : ∃ r2, r.extract 0 BF.length = r2 := ⟨_, rfl⟩
    rw [hr2] at hr2l ⊢
    have hr2s := size_of hr2l
    have n4 : ((r2.extract 0 2).toList == [47, 47]) = Z := by rw [str_beq, ext_from, hr2l, ← HBF.out]; exact HZ.out
    clear hr2 hr2l
    go_wp2_with fail
    all_goals
      refine bodyPost_ret (url_ret Tryz.results91 _ _ _ AB2.out.blank E0 E0 E0 E0 E0 E0 (.bool false) rfl rfl) rfl ⟨resB_none HNO.out, hbw.set6 _ _ _ _ _ _⟩
end Go.Proofs.YtjdhaacmlpegoaaGreatDoor
