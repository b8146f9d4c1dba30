/- The walk of url.Parse, the address of a site. -/
import Derived.Test.YtjdhaacmlpegoaaGreatDoorUR
namespace Go.Proofs.YtjdhaacmlpegoaaGreatDoor
set_option linter.unusedVariables false
set_option linter.unusedSimpArgs false
open Go.RowKit

theorem ext_tail (s : ByteArray) (a b : Nat) (h : b = s.size) : (s.extract a b).data.toList = s.data.toList.drop a := by subst h; exact ext_to s a
set_option maxRecDepth 20000 in
set_option maxHeartbeats 2000000 in
theorem parseBA (s : ByteArray) (w : World) (hs : s.size ≤ 300000) (hM : MaxAt w) (N Rst : List UInt8) (hOK : schemeOk (trimL s.data.toList) = true) (hN : lowL (pre 58 (trimL s.data.toList)) = N) (hRs : post 58 (trimL s.data.toList) = Rst) (hab : N ≠ aboutL) (R : Option U6) (hR : restL N Rst = R) (X Y Z : Bool) (hX : decide (N = [104, 116, 116, 112]) = X) (hY : decide (N = [104, 116, 116, 112, 115]) = Y) (hZ : decide ((pre 35 Rst).take 2 = [47, 47]) = false) :
    Calls Tryz.prog 28 #[.string s] w fun e w' => e = .returned (resV R) ∧ Below w.heap.size w w' := by
  have hTl := trimL_len s.data.toList
  rw [size_len] at hTl
  have hNl : N.length ≤ s.size := by rw [← hN, lowL_len]; exact Nat.le_trans (pre_le _ _) hTl
  have hRl : Rst.length ≤ s.size := by rw [← hRs]; exact Nat.le_trans (post_le _ _) hTl
  have cT := fun w => trim_any s w (by omega)
  obtain ⟨T, hT⟩ : ∃ T, trimL s.data.toList = T := ⟨_, rfl⟩
  rw [hT] at cT hTl hOK hN hRs
  have cS : ∀ t : ByteArray, t.data.toList = T → ∀ w, MaxAt w → Calls Tryz.prog 58 #[.string t] w fun e w' => ∃ a b : ByteArray, e = .returned (.tuple #[.string a, .string b, .bool true]) ∧ a.data.toList = N ∧ b.data.toList = Rst ∧ Below w.heap.size w w' := fun t ht w hM => by
    refine (scheme_any t w (by have := size_of ht; omega) hM).mono ?_
    rintro e w' ⟨a, b, rfl, hab, hb⟩
    rw [ht, hOK] at hab
    obtain ⟨h1, h2⟩ := hab rfl
    exact ⟨a, b, by rw [ht, hOK], h1.trans hN, h2.trans hRs, hb⟩
  have hpl := pre_le 35 Rst
  have hql := post_le 35 Rst
  obtain ⟨BF, hBF⟩ : ∃ l, pre 35 Rst = l := ⟨_, rfl⟩
  obtain ⟨FR, hFR⟩ : ∃ l, post 35 Rst = l := ⟨_, rfl⟩
  obtain ⟨CF, hCF⟩ : ∃ l, conv (innerL ++ [63]) true FR = l := ⟨_, rfl⟩
  have hR2 : R = siteL N CF BF := by rw [← hR, restL, if_neg hab, hBF, hFR, hCF]
  have hno : R = none := by
    rw [hR2, siteL]
    refine if_neg ?_
    rintro ⟨h1, h2⟩
    rw [hBF] at hZ
    simp_all
  rw [hBF] at hZ
  rw [hBF] at hpl
  rw [hFR] at hql
  have CT := Lib.hid cT
  have CS := Lib.hid cS
  have HBF := Lib.hid hBF
  have HFR := Lib.hid hFR
  have HCF := Lib.hid hCF
  have HAB := Lib.hid hab
  have HX := Lib.hid hX
  have HY := Lib.hid hY
  have HZ := Lib.hid hZ
  clear cT cS hT hOK hR hN hRs hBF hFR hCF hR2 hab hX hY hZ
  subst hno
  have hB0 : Below w.heap.size w (w.alloc (.cells #[.string ⟨#[]⟩, .string ⟨#[]⟩, .string ⟨#[]⟩, .string ⟨#[]⟩, .string ⟨#[]⟩, .string ⟨#[]⟩] 37)) := (Below.refl _ w).alloc (Nat.le_refl _) _
  go_enter Tryz.func28, Tryz.ntmps28
  go_wp2_with (first
    | (go_at_call 59; with_reducible refine (CT.out _).mono ?_; rintro e w' ⟨t, rfl, ht, rfl⟩; have Ht := Lib.hid ht; clear ht)
    | (go_at_call 58; with_reducible refine (CS.out _ Ht.out _ (hM.below hB0 (Nat.le_refl _))).mono ?_; rintro e w1 ⟨a, b, rfl, ha, hb, hb1⟩; obtain ⟨hc1, hf1⟩ := bcell hb1; have hz1 : w.heap.size < w1.heap.size := (by have := hb1.size; simp at this; omega); have hB1 := hB0.trans (hb1.mono hB0.size); have S1 := (Blank.new w (.string ⟨#[]⟩) (.string ⟨#[]⟩) (.string ⟨#[]⟩) (.string ⟨#[]⟩) (.string ⟨#[]⟩) (.string ⟨#[]⟩) 37).below hb1 (by simp); have hbs := size_of hb; have Ha := Lib.hid ha; have Hb := Lib.hid hb; have n1 : (a.toList == [97, 98, 111, 117, 116]) = false := (by rw [str_beq, ha]; exact decide_eq_false HAB.out); have n2 : (a.toList == [104, 116, 116, 112]) = X := (by rw [str_beq, ha]; exact HX.out); have n3 : (a.toList == [104, 116, 116, 112, 115]) = Y := (by rw [str_beq, ha]; exact HY.out); clear ha hb)
    | (go_at_call 60; with_reducible refine (cut_any b 35 _ (by omega) (hM.below hB1 (Nat.le_refl _))).mono ?_; rw [Hb.out, HBF.out, HFR.out]; rintro e w2 ⟨c, d, rfl, hc, hd, hb2⟩; obtain ⟨hc2, hf2⟩ := bcell hb2; have hz2 : w.heap.size < w2.heap.size := (by have := hb2.size; omega); have hB2 := hB1.trans (hb2.mono hB1.size); have S2 := S1.below hb2 hz1; have hcs := size_of hc; have hds := size_of hd; have Hc := Lib.hid hc; have Hd := Lib.hid hd; clear hc hd)
    | (go_at_call 61; with_reducible refine (convert_any d innerQ true _ (by omega)).mono ?_; rw [Hd.out]; rintro e w3 ⟨f, rfl, hf, hb3⟩; obtain ⟨hc3, hf3⟩ := bcell hb3; have hz3 : w.heap.size < w3.heap.size := (by have := hb3.size; omega); have hB3 := hB2.trans (hb3.mono hB2.size); have S3 := S2.below hb3 hz2; have Hf := Lib.hid hf; clear hf)
    | (go_at_call 63; with_reducible refine (cutp_any c 47 47 _).mono ?_; rw [Hc.out, HZ.out]; rintro e w' ⟨g, rfl, hg, rfl⟩; clear hg))
  all_goals
    refine bodyPost_ret (v := resV none) (by simp [results, Tryz.results28, go_sem, hc1, hf1, hz1, hc2, hf2, hz2, hc3, hf3, hz3]; rfl) rfl ⟨rfl, ?_⟩
    exact (hB3.set6 _ _ _ _ _ _).alloc (by simp; omega) _
set_option maxRecDepth 20000 in
set_option maxHeartbeats 2000000 in
theorem parseBB (s : ByteArray) (w : World) (hs : s.size ≤ 300000) (hM : MaxAt w) (N Rst : List UInt8) (hOK : schemeOk (trimL s.data.toList) = true) (hN : lowL (pre 58 (trimL s.data.toList)) = N) (hRs : post 58 (trimL s.data.toList) = Rst) (hab : N ≠ aboutL) (R : Option U6) (hR : restL N Rst = R) (X Y Z : Bool) (hX : decide (N = [104, 116, 116, 112]) = false) (hY : decide (N = [104, 116, 116, 112, 115]) = false) (hZ : decide ((pre 35 Rst).take 2 = [47, 47]) = Z) :
    Calls Tryz.prog 28 #[.string s] w fun e w' => e = .returned (resV R) ∧ Below w.heap.size w w' := by
  have hTl := trimL_len s.data.toList
  rw [size_len] at hTl
  have hNl : N.length ≤ s.size := by rw [← hN, lowL_len]; exact Nat.le_trans (pre_le _ _) hTl
  have hRl : Rst.length ≤ s.size := by rw [← hRs]; exact Nat.le_trans (post_le _ _) hTl
  have cT := fun w => trim_any s w (by omega)
  obtain ⟨T, hT⟩ : ∃ T, trimL s.data.toList = T := ⟨_, rfl⟩
  rw [hT] at cT hTl hOK hN hRs
  have cS : ∀ t : ByteArray, t.data.toList = T → ∀ w, MaxAt w → Calls Tryz.prog 58 #[.string t] w fun e w' => ∃ a b : ByteArray, e = .returned (.tuple #[.string a, .string b, .bool true]) ∧ a.data.toList = N ∧ b.data.toList = Rst ∧ Below w.heap.size w w' := fun t ht w hM => by
    refine (scheme_any t w (by have := size_of ht; omega) hM).mono ?_
    rintro e w' ⟨a, b, rfl, hab, hb⟩
    rw [ht, hOK] at hab
    obtain ⟨h1, h2⟩ := hab rfl
    exact ⟨a, b, by rw [ht, hOK], h1.trans hN, h2.trans hRs, hb⟩
  have hpl := pre_le 35 Rst
  have hql := post_le 35 Rst
  obtain ⟨BF, hBF⟩ : ∃ l, pre 35 Rst = l := ⟨_, rfl⟩
  obtain ⟨FR, hFR⟩ : ∃ l, post 35 Rst = l := ⟨_, rfl⟩
  obtain ⟨CF, hCF⟩ : ∃ l, conv (innerL ++ [63]) true FR = l := ⟨_, rfl⟩
  have hR2 : R = siteL N CF BF := by rw [← hR, restL, if_neg hab, hBF, hFR, hCF]
  have hno : R = none := by
    rw [hR2, siteL]
    refine if_neg ?_
    rintro ⟨h1, h2⟩
    rw [hBF] at hZ
    simp_all
  rw [hBF] at hZ
  rw [hBF] at hpl
  rw [hFR] at hql
  have CT := Lib.hid cT
  have CS := Lib.hid cS
  have HBF := Lib.hid hBF
  have HFR := Lib.hid hFR
  have HCF := Lib.hid hCF
  have HAB := Lib.hid hab
  have HX := Lib.hid hX
  have HY := Lib.hid hY
  have HZ := Lib.hid hZ
  clear cT cS hT hOK hR hN hRs hBF hFR hCF hR2 hab hX hY hZ
  subst hno
  have hB0 : Below w.heap.size w (w.alloc (.cells #[.string ⟨#[]⟩, .string ⟨#[]⟩, .string ⟨#[]⟩, .string ⟨#[]⟩, .string ⟨#[]⟩, .string ⟨#[]⟩] 37)) := (Below.refl _ w).alloc (Nat.le_refl _) _
  go_enter Tryz.func28, Tryz.ntmps28
  go_wp2_with (first
    | (go_at_call 59; with_reducible refine (CT.out _).mono ?_; rintro e w' ⟨t, rfl, ht, rfl⟩; have Ht := Lib.hid ht; clear ht)
    | (go_at_call 58; with_reducible refine (CS.out _ Ht.out _ (hM.below hB0 (Nat.le_refl _))).mono ?_; rintro e w1 ⟨a, b, rfl, ha, hb, hb1⟩; obtain ⟨hc1, hf1⟩ := bcell hb1; have hz1 : w.heap.size < w1.heap.size := (by have := hb1.size; simp at this; omega); have hB1 := hB0.trans (hb1.mono hB0.size); have S1 := (Blank.new w (.string ⟨#[]⟩) (.string ⟨#[]⟩) (.string ⟨#[]⟩) (.string ⟨#[]⟩) (.string ⟨#[]⟩) (.string ⟨#[]⟩) 37).below hb1 (by simp); have hbs := size_of hb; have Ha := Lib.hid ha; have Hb := Lib.hid hb; have n1 : (a.toList == [97, 98, 111, 117, 116]) = false := (by rw [str_beq, ha]; exact decide_eq_false HAB.out); have n2 : (a.toList == [104, 116, 116, 112]) = false := (by rw [str_beq, ha]; exact HX.out); have n3 : (a.toList == [104, 116, 116, 112, 115]) = false := (by rw [str_beq, ha]; exact HY.out); clear ha hb)
    | (go_at_call 60; with_reducible refine (cut_any b 35 _ (by omega) (hM.below hB1 (Nat.le_refl _))).mono ?_; rw [Hb.out, HBF.out, HFR.out]; rintro e w2 ⟨c, d, rfl, hc, hd, hb2⟩; obtain ⟨hc2, hf2⟩ := bcell hb2; have hz2 : w.heap.size < w2.heap.size := (by have := hb2.size; omega); have hB2 := hB1.trans (hb2.mono hB1.size); have S2 := S1.below hb2 hz1; have hcs := size_of hc; have hds := size_of hd; have Hc := Lib.hid hc; have Hd := Lib.hid hd; clear hc hd)
    | (go_at_call 61; with_reducible refine (convert_any d innerQ true _ (by omega)).mono ?_; rw [Hd.out]; rintro e w3 ⟨f, rfl, hf, hb3⟩; obtain ⟨hc3, hf3⟩ := bcell hb3; have hz3 : w.heap.size < w3.heap.size := (by have := hb3.size; omega); have hB3 := hB2.trans (hb3.mono hB2.size); have S3 := S2.below hb3 hz2; have Hf := Lib.hid hf; clear hf)
    | (go_at_call 63; with_reducible refine (cutp_any c 47 47 _).mono ?_; rw [Hc.out, HZ.out]; rintro e w' ⟨g, rfl, hg, rfl⟩; clear hg))
  all_goals
    refine bodyPost_ret (v := resV none) (by simp [results, Tryz.results28, go_sem, hc1, hf1, hz1, hc2, hf2, hz2, hc3, hf3, hz3]; rfl) rfl ⟨rfl, ?_⟩
    exact (hB3.set6 _ _ _ _ _ _).alloc (by simp; omega) _
set_option maxRecDepth 20000 in
set_option maxHeartbeats 8000000 in
theorem parseCA (s : ByteArray) (w : World) (hs : s.size ≤ 300000) (hM : MaxAt w) (N Rst : List UInt8) (hOK : schemeOk (trimL s.data.toList) = true) (hN : lowL (pre 58 (trimL s.data.toList)) = N) (hRs : post 58 (trimL s.data.toList) = Rst) (hab : N ≠ aboutL) (R : Option U6) (hR : restL N Rst = R) (Y : Bool) (hX : decide (N = [104, 116, 116, 112]) = true) (hY : decide (N = [104, 116, 116, 112, 115]) = Y) (hZ : (pre 35 Rst).take 2 = [47, 47]) :
    Calls Tryz.prog 28 #[.string s] w fun e w' => e = .returned (resV R) ∧ Below w.heap.size w w' := by
  have hTl := trimL_len s.data.toList
  rw [size_len] at hTl
  have hNl : N.length ≤ s.size := by rw [← hN, lowL_len]; exact Nat.le_trans (pre_le _ _) hTl
  have hRl : Rst.length ≤ s.size := by rw [← hRs]; exact Nat.le_trans (post_le _ _) hTl
  have cT := fun w => trim_any s w (by omega)
  obtain ⟨T, hT⟩ : ∃ T, trimL s.data.toList = T := ⟨_, rfl⟩
  rw [hT] at cT hTl hOK hN hRs
  have cS : ∀ t : ByteArray, t.data.toList = T → ∀ w, MaxAt w → Calls Tryz.prog 58 #[.string t] w fun e w' => ∃ a b : ByteArray, e = .returned (.tuple #[.string a, .string b, .bool true]) ∧ a.data.toList = N ∧ b.data.toList = Rst ∧ Below w.heap.size w w' := fun t ht w hM => by
    refine (scheme_any t w (by have := size_of ht; omega) hM).mono ?_
    rintro e w' ⟨a, b, rfl, hab, hb⟩
    rw [ht, hOK] at hab
    obtain ⟨h1, h2⟩ := hab rfl
    exact ⟨a, b, by rw [ht, hOK], h1.trans hN, h2.trans hRs, hb⟩
  have hpl := pre_le 35 Rst
  have hql := post_le 35 Rst
  obtain ⟨BF, hBF⟩ : ∃ l, pre 35 Rst = l := ⟨_, rfl⟩
  obtain ⟨FR, hFR⟩ : ∃ l, post 35 Rst = l := ⟨_, rfl⟩
  obtain ⟨CF, hCF⟩ : ∃ l, conv (innerL ++ [63]) true FR = l := ⟨_, rfl⟩
  have hR2 : R = siteL N CF BF := by rw [← hR, restL, if_neg hab, hBF, hFR, hCF]
  rw [hBF] at hZ
  have hsch : N = httpL ∨ N = httpsL := by simp_all
  obtain ⟨AF, hAF⟩ : ∃ l, BF.drop 2 = l := ⟨_, rfl⟩
  have hafl : AF.length ≤ BF.length := by rw [← hAF]; simp
  obtain ⟨PL, hPL⟩ : ∃ l, pre 63 AF = l := ⟨_, rfl⟩
  have hpll := pre_le 63 AF
  obtain ⟨QL, hQL⟩ : ∃ l, post 63 AF = l := ⟨_, rfl⟩
  have hqll := post_le 63 AF
  obtain ⟨PC, hPC⟩ : ∃ l, pre 47 PL = l := ⟨_, rfl⟩
  have hpcl := pre_le 47 PL
  have hpct := pre_take 47 PL
  obtain ⟨HL, hHL⟩ : ∃ l, pre 58 PC = l := ⟨_, rfl⟩
  have hhll := pre_le 58 PC
  obtain ⟨NL, hNL⟩ : ∃ l, post 58 PC = l := ⟨_, rfl⟩
  have hnll := post_le 58 PC
  have hR3 : R = if portOk NL ∧ 1 ≤ HL.length ∧ HL.length ≤ 253 ∧ HL.all (okC [45, 46]) = true then some (N, lowL HL, portOf N NL, cleanL (conv innerL true (PL.drop PC.length)), conv (innerL ++ [63]) true QL, CF) else none := by
    rw [hR2, siteL, if_pos ⟨hsch, hZ⟩]
    simp only [hAF, hPL, hPC, hHL, hNL, hQL]
  have hIX : Lib.indexByte PL 47 = if 47 ∈ PL then (PC.length : Int) else -1 := by rw [indexByte_pre, hPC]
  have hIN : 47 ∉ PL → PC = PL := fun h => by rw [← hPC, pre_all 47 PL h]
  rw [hPL] at hpll
  rw [hQL] at hqll
  rw [hPC] at hpcl hpct
  rw [hHL] at hhll
  rw [hNL] at hnll
  rw [hBF] at hpl
  rw [hFR] at hql
  have CT := Lib.hid cT
  have CS := Lib.hid cS
  have HBF := Lib.hid hBF
  have HFR := Lib.hid hFR
  have HCF := Lib.hid hCF
  have HAB := Lib.hid hab
  have HX := Lib.hid hX
  have HY := Lib.hid hY
  have HZ := Lib.hid hZ
  have HR := Lib.hid hR3
  have HAF := Lib.hid hAF
  have HPL := Lib.hid hPL
  have HQL := Lib.hid hQL
  have HPC := Lib.hid hPC
  have HHL := Lib.hid hHL
  have HNL := Lib.hid hNL
  have HIX := Lib.hid hIX
  have HIN := Lib.hid hIN
  have HPT := Lib.hid hpct
  clear cT cS hT hOK hR hN hRs hBF hFR hCF hR2 hab hX hY hZ hR3 hAF hPL hQL hPC hHL hNL hsch hIX hIN hpct
  obtain ⟨OB, hOB⟩ : ∃ OB, HL.all (okC [45, 46]) = OB := ⟨_, rfl⟩
  have HOB := Lib.hid hOB
  rw [hOB] at HR
  clear hOB
  have hB0 : Below w.heap.size w (w.alloc (.cells #[.string ⟨#[]⟩, .string ⟨#[]⟩, .string ⟨#[]⟩, .string ⟨#[]⟩, .string ⟨#[]⟩, .string ⟨#[]⟩] 37)) := (Below.refl _ w).alloc (Nat.le_refl _) _
  go_enter Tryz.func28, Tryz.ntmps28
  go_wp2_with (first
    | (go_at_call 59; with_reducible refine (CT.out _).mono ?_; rintro e w' ⟨t, rfl, ht, rfl⟩; have Ht := Lib.hid ht; clear ht)
    | (go_at_call 58; with_reducible refine (CS.out _ Ht.out _ (hM.below hB0 (Nat.le_refl _))).mono ?_; rintro e w1 ⟨a, b, rfl, ha, hb, hb1⟩; obtain ⟨hc1, hf1⟩ := bcell hb1; have hz1 : w.heap.size < w1.heap.size := (by have := hb1.size; simp at this; omega); have hB1 := hB0.trans (hb1.mono hB0.size); have S1 := (Blank.new w (.string ⟨#[]⟩) (.string ⟨#[]⟩) (.string ⟨#[]⟩) (.string ⟨#[]⟩) (.string ⟨#[]⟩) (.string ⟨#[]⟩) 37).below hb1 (by simp); have hbs := size_of hb; have Ha := Lib.hid ha; have Hb := Lib.hid hb; have n1 : (a.toList == [97, 98, 111, 117, 116]) = false := (by rw [str_beq, ha]; exact decide_eq_false HAB.out); have n2 : (a.toList == [104, 116, 116, 112]) = true := (by rw [str_beq, ha]; exact HX.out); have n3 : (a.toList == [104, 116, 116, 112, 115]) = Y := (by rw [str_beq, ha]; exact HY.out); clear ha hb)
    | (go_at_call 60; with_reducible refine (cut_any b 35 _ (by omega) (hM.below hB1 (Nat.le_refl _))).mono ?_; rw [Hb.out, HBF.out, HFR.out]; rintro e w2 ⟨c, d, rfl, hc, hd, hb2⟩; obtain ⟨hc2, hf2⟩ := bcell hb2; have hz2 : w.heap.size < w2.heap.size := (by have := hb2.size; omega); have hB2 := hB1.trans (hb2.mono hB1.size); have S2 := S1.below hb2 hz1; have hcs := size_of hc; have hds := size_of hd; have Hc := Lib.hid hc; have Hd := Lib.hid hd; clear hc hd)
    | (go_at_call 61; with_reducible refine (convert_any d innerQ true _ (by omega)).mono ?_; rw [Hd.out]; rintro e w3 ⟨f, rfl, hf, hb3⟩; obtain ⟨hc3, hf3⟩ := bcell hb3; have hz3 : w.heap.size < w3.heap.size := (by have := hb3.size; omega); have hB3 := hB2.trans (hb3.mono hB2.size); have S3 := S2.below hb3 hz2; have Hf := Lib.hid hf; clear hf)
    | (go_at_call 63; with_reducible refine (cutp_any c 47 47 _).mono ?_; rw [Hc.out, decide_eq_true HZ.out]; rintro e w' ⟨g, rfl, hg, rfl⟩; have hg := hg HZ.out; rw [HAF.out] at hg; have hgs := size_of hg; have Hg := Lib.hid hg; clear hg; have hB3a := hB3.alloc (o := .cells #[.string a, .string ⟨#[]⟩, .string ⟨#[]⟩, .string ⟨#[]⟩, .string ⟨#[]⟩, .string f] 37) hB3.size; have hb3a := (Below.refl w3.heap.size w3).alloc (Nat.le_refl _) (.cells #[.string a, .string ⟨#[]⟩, .string ⟨#[]⟩, .string ⟨#[]⟩, .string ⟨#[]⟩, .string f] 37); have S3a := S3.below hb3a hz3)
    | (go_at_call 60; with_reducible refine (cut_any g 63 _ (by omega) (hM.below hB3a (Nat.le_refl _))).mono ?_; rw [Hg.out, HPL.out, HQL.out]; rintro e w4 ⟨p, q, rfl, hp, hq, hb4⟩; obtain ⟨hc4, hf4⟩ := bcell hb4; have hz4 : w3.heap.size < w4.heap.size := (by have := hb4.size; simp at this; omega); have hy4 : w.heap.size < w4.heap.size := (by omega); have hB4 := hB3a.trans (hb4.mono hB3a.size); have S4 := S3a.below hb4 (by simp; omega); have hps := size_of hp; have hqs := size_of hq; have Hp := Lib.hid hp; have Hq := Lib.hid hq; clear hp hq)
    | (go_at_call 64; with_reducible refine (Tryz.strings_IndexByte p 47 _).mono ?_; rw [show ((47 : Int).toNat.toUInt8) = 47 from rfl, Hp.out, HIX.out]; rintro e w' ⟨rfl, rfl⟩; rcases Decidable.em (47 ∈ PL) with hin | hin <;> (first | rw [if_pos hin] | (rw [if_neg hin]; have hpe := HIN.out hin; subst hpe)) <;> clear hin)
    | (go_at_call 60; with_reducible refine (cut_any _ 58 _ (by simp; omega) (hM.below hB4 (Nat.le_refl _))).mono ?_; rw [ext_from, Hp.out, HPT.out, HHL.out, HNL.out]; rintro e w5 ⟨h, m, rfl, hh, hm, hb5⟩; obtain ⟨hc5, hf5⟩ := bcell hb5; have hz5 : w3.heap.size < w5.heap.size := (by have := hb5.size; omega); have hy5 : w.heap.size < w5.heap.size := (by omega); have hB5 := hB4.trans (hb5.mono hB4.size); have S5 := S4.below hb5 hy4; have hhs := size_of hh; have hms := size_of hm; have Hh := Lib.hid hh; have Hm := Lib.hid hm; clear hh hm)
    | (go_at_call 65; with_reducible refine (port_any a m _ (by omega)).mono ?_; rw [Ha.out, Hm.out]; rintro e w' ⟨pt, rfl, hpt, rfl⟩; rcases Decidable.em (portOk NL) with hpo | hpo <;> (first | rw [decide_eq_true hpo] | rw [decide_eq_false hpo]) <;> (have Hpo := Lib.hid hpo; have Hpt := Lib.hid hpt; clear hpo hpt))
    | (go_at_call 62; refine (only_any _ _ _ (by omega)).mono ?_; rw [Hh.out, show (⟨#[45, 46]⟩ : ByteArray).data.toList = [45, 46] from rfl, HOB.out]; rintro e w' ⟨rfl, rfl⟩; rcases Bool.eq_false_or_eq_true OB with rfl | rfl)
    | (go_at_call 66; with_reducible refine (lower_any h _ (by omega)).mono ?_; rw [Hh.out]; rintro e w6 ⟨lo, rfl, hlo, hb6⟩; obtain ⟨hc6, hf6⟩ := bcell hb6; have hz6 : w3.heap.size < w6.heap.size := (by have := hb6.size; omega); have hy6 : w.heap.size < w6.heap.size := (by omega); have hB6 := hB5.trans (hb6.mono hB5.size); have S6 := S5.below hb6 hy5; have Hlo := Lib.hid hlo; clear hlo)
    | (go_at_call 61; with_reducible refine (convert_any (p.extract _ _) innerS true _ (by simp; omega)).mono ?_; rw [ext_tail p _ _ (by omega), Hp.out]; rintro e w7 ⟨pc, rfl, hpc, hb7⟩; obtain ⟨hc7, hf7⟩ := bcell hb7; have hz7 : w3.heap.size < w7.heap.size := (by have := hb7.size; simp at this; omega); have hy7 : w.heap.size < w7.heap.size := (by omega); have hB7 := ((hB6.setCell (p := ⟨w3.heap.size, 1, none⟩) (Nat.le_of_lt hz3) (.string lo)).setCell (p := ⟨w3.heap.size, 2, none⟩) (Nat.le_of_lt hz3) (.string pt)).trans (hb7.mono (by simp; omega)); have S7 := ((S6.set ⟨w3.heap.size, 1, none⟩ (.string lo)).set ⟨w3.heap.size, 2, none⟩ (.string pt)).below hb7 (by simp; omega); have hpcs : pc.size ≤ 900000 := (by rw [size_of hpc]; refine Nat.le_trans (conv_len _ _ _) ?_; rw [List.length_drop]; omega); have Hpc := Lib.hid hpc; clear hpc)
    | (go_at_call 61; with_reducible refine (convert_any ByteArray.empty innerS true _ (by simp)).mono ?_; rw [show ByteArray.empty.data.toList = PC.drop PC.length from (by simp)]; rintro e w7 ⟨pc, rfl, hpc, hb7⟩; obtain ⟨hc7, hf7⟩ := bcell hb7; have hz7 : w3.heap.size < w7.heap.size := (by have := hb7.size; simp at this; omega); have hy7 : w.heap.size < w7.heap.size := (by omega); have hB7 := ((hB6.setCell (p := ⟨w3.heap.size, 1, none⟩) (Nat.le_of_lt hz3) (.string lo)).setCell (p := ⟨w3.heap.size, 2, none⟩) (Nat.le_of_lt hz3) (.string pt)).trans (hb7.mono (by simp; omega)); have S7 := ((S6.set ⟨w3.heap.size, 1, none⟩ (.string lo)).set ⟨w3.heap.size, 2, none⟩ (.string pt)).below hb7 (by simp; omega); have hpcs : pc.size ≤ 900000 := (by rw [size_of hpc]; refine Nat.le_trans (conv_len _ _ _) ?_; rw [List.length_drop]; omega); have Hpc := Lib.hid hpc; clear hpc)
    | (go_at_call 67; with_reducible refine (clean_any pc _ (by omega) (hM.below hB7 (Nat.le_refl _))).mono ?_; rw [Hpc.out]; rintro e w8 ⟨cl, rfl, hcl, hb8⟩; obtain ⟨hc8, hf8⟩ := bcell hb8; have hz8 : w3.heap.size < w8.heap.size := (by have := hb8.size; omega); have hy8 : w.heap.size < w8.heap.size := (by omega); have hB8 := hB7.trans (hb8.mono hB7.size); have S8 := S7.below hb8 hy7; have Hcl := Lib.hid hcl; clear hcl)
    | (go_at_call 61; with_reducible refine (convert_any q innerQ true _ (by omega)).mono ?_; rw [Hq.out]; rintro e w9 ⟨q2, rfl, hq2, hb9⟩; obtain ⟨hc9, hf9⟩ := bcell hb9; have hz9 : w3.heap.size < w9.heap.size := (by have := hb9.size; simp at this; omega); have hy9 : w.heap.size < w9.heap.size := (by omega); have hB9 := (hB8.setCell (p := ⟨w3.heap.size, 3, none⟩) (Nat.le_of_lt hz3) (.string cl)).trans (hb9.mono (by simp; omega)); have S9 := (S8.set ⟨w3.heap.size, 3, none⟩ (.string cl)).below hb9 (by simp; omega); have Hq2 := Lib.hid hq2; clear hq2))
  all_goals first
    | (refine bodyPost_ret (url_ret Tryz.results28 _ _ _ (S9.set ⟨w3.heap.size, 4, none⟩ (.string q2)) (.string a) (.string lo) (.string pt) (.string cl) (.string q2) (.string f) (.int .i64 0) rfl rfl) rfl ⟨res_some (u := (N, lowL HL, portOf N NL, cleanL (conv innerL true (PL.drop PC.length)), conv (innerL ++ [63]) true QL, CF)) (by rw [HR.out, if_pos ⟨Hpo.out, by omega, by omega, by simp⟩]) Ha.out Hlo.out (Hpt.out Hpo.out) Hcl.out Hq2.out (Hf.out.trans HCF.out), (hB9.setCell (p := ⟨w3.heap.size, 4, none⟩) (Nat.le_of_lt hz3) _).set6 _ _ _ _ _ _⟩)
    | (refine bodyPost_ret (url_ret Tryz.results28 _ _ _ (S9.set ⟨w3.heap.size, 4, none⟩ (.string q2)) (.string a) (.string lo) (.string pt) (.string cl) (.string q2) (.string f) (.int .i64 0) rfl rfl) rfl ⟨res_some (u := (N, lowL HL, portOf N NL, cleanL (conv innerL true (PC.drop PC.length)), conv (innerL ++ [63]) true QL, CF)) (by rw [HR.out, if_pos ⟨Hpo.out, by omega, by omega, by simp⟩]) Ha.out Hlo.out (Hpt.out Hpo.out) Hcl.out Hq2.out (Hf.out.trans HCF.out), (hB9.setCell (p := ⟨w3.heap.size, 4, none⟩) (Nat.le_of_lt hz3) _).set6 _ _ _ _ _ _⟩)
    | (refine bodyPost_ret (url_ret Tryz.results28 _ _ _ S5 (.string ⟨#[]⟩) (.string ⟨#[]⟩) (.string ⟨#[]⟩) (.string ⟨#[]⟩) (.string ⟨#[]⟩) (.string ⟨#[]⟩) (.int .i64 4) rfl rfl) rfl ⟨res_none (by rw [HR.out, if_neg (by rintro ⟨h1, h2, h3, h4⟩; first | exact Hpo.out h1 | omega | cases h4)]), hB5.set6 _ _ _ _ _ _⟩)
set_option maxRecDepth 20000 in
set_option maxHeartbeats 8000000 in
theorem parseCB (s : ByteArray) (w : World) (hs : s.size ≤ 300000) (hM : MaxAt w) (N Rst : List UInt8) (hOK : schemeOk (trimL s.data.toList) = true) (hN : lowL (pre 58 (trimL s.data.toList)) = N) (hRs : post 58 (trimL s.data.toList) = Rst) (hab : N ≠ aboutL) (R : Option U6) (hR : restL N Rst = R) (Y : Bool) (hX : decide (N = [104, 116, 116, 112]) = false) (hY : decide (N = [104, 116, 116, 112, 115]) = true) (hZ : (pre 35 Rst).take 2 = [47, 47]) :
    Calls Tryz.prog 28 #[.string s] w fun e w' => e = .returned (resV R) ∧ Below w.heap.size w w' := by
  have hTl := trimL_len s.data.toList
  rw [size_len] at hTl
  have hNl : N.length ≤ s.size := by rw [← hN, lowL_len]; exact Nat.le_trans (pre_le _ _) hTl
  have hRl : Rst.length ≤ s.size := by rw [← hRs]; exact Nat.le_trans (post_le _ _) hTl
  have cT := fun w => trim_any s w (by omega)
  obtain ⟨T, hT⟩ : ∃ T, trimL s.data.toList = T := ⟨_, rfl⟩
  rw [hT] at cT hTl hOK hN hRs
  have cS : ∀ t : ByteArray, t.data.toList = T → ∀ w, MaxAt w → Calls Tryz.prog 58 #[.string t] w fun e w' => ∃ a b : ByteArray, e = .returned (.tuple #[.string a, .string b, .bool true]) ∧ a.data.toList = N ∧ b.data.toList = Rst ∧ Below w.heap.size w w' := fun t ht w hM => by
    refine (scheme_any t w (by have := size_of ht; omega) hM).mono ?_
    rintro e w' ⟨a, b, rfl, hab, hb⟩
    rw [ht, hOK] at hab
    obtain ⟨h1, h2⟩ := hab rfl
    exact ⟨a, b, by rw [ht, hOK], h1.trans hN, h2.trans hRs, hb⟩
  have hpl := pre_le 35 Rst
  have hql := post_le 35 Rst
  obtain ⟨BF, hBF⟩ : ∃ l, pre 35 Rst = l := ⟨_, rfl⟩
  obtain ⟨FR, hFR⟩ : ∃ l, post 35 Rst = l := ⟨_, rfl⟩
  obtain ⟨CF, hCF⟩ : ∃ l, conv (innerL ++ [63]) true FR = l := ⟨_, rfl⟩
  have hR2 : R = siteL N CF BF := by rw [← hR, restL, if_neg hab, hBF, hFR, hCF]
  rw [hBF] at hZ
  have hsch : N = httpL ∨ N = httpsL := by simp_all
  obtain ⟨AF, hAF⟩ : ∃ l, BF.drop 2 = l := ⟨_, rfl⟩
  have hafl : AF.length ≤ BF.length := by rw [← hAF]; simp
  obtain ⟨PL, hPL⟩ : ∃ l, pre 63 AF = l := ⟨_, rfl⟩
  have hpll := pre_le 63 AF
  obtain ⟨QL, hQL⟩ : ∃ l, post 63 AF = l := ⟨_, rfl⟩
  have hqll := post_le 63 AF
  obtain ⟨PC, hPC⟩ : ∃ l, pre 47 PL = l := ⟨_, rfl⟩
  have hpcl := pre_le 47 PL
  have hpct := pre_take 47 PL
  obtain ⟨HL, hHL⟩ : ∃ l, pre 58 PC = l := ⟨_, rfl⟩
  have hhll := pre_le 58 PC
  obtain ⟨NL, hNL⟩ : ∃ l, post 58 PC = l := ⟨_, rfl⟩
  have hnll := post_le 58 PC
  have hR3 : R = if portOk NL ∧ 1 ≤ HL.length ∧ HL.length ≤ 253 ∧ HL.all (okC [45, 46]) = true then some (N, lowL HL, portOf N NL, cleanL (conv innerL true (PL.drop PC.length)), conv (innerL ++ [63]) true QL, CF) else none := by
    rw [hR2, siteL, if_pos ⟨hsch, hZ⟩]
    simp only [hAF, hPL, hPC, hHL, hNL, hQL]
  have hIX : Lib.indexByte PL 47 = if 47 ∈ PL then (PC.length : Int) else -1 := by rw [indexByte_pre, hPC]
  have hIN : 47 ∉ PL → PC = PL := fun h => by rw [← hPC, pre_all 47 PL h]
  rw [hPL] at hpll
  rw [hQL] at hqll
  rw [hPC] at hpcl hpct
  rw [hHL] at hhll
  rw [hNL] at hnll
  rw [hBF] at hpl
  rw [hFR] at hql
  have CT := Lib.hid cT
  have CS := Lib.hid cS
  have HBF := Lib.hid hBF
  have HFR := Lib.hid hFR
  have HCF := Lib.hid hCF
  have HAB := Lib.hid hab
  have HX := Lib.hid hX
  have HY := Lib.hid hY
  have HZ := Lib.hid hZ
  have HR := Lib.hid hR3
  have HAF := Lib.hid hAF
  have HPL := Lib.hid hPL
  have HQL := Lib.hid hQL
  have HPC := Lib.hid hPC
  have HHL := Lib.hid hHL
  have HNL := Lib.hid hNL
  have HIX := Lib.hid hIX
  have HIN := Lib.hid hIN
  have HPT := Lib.hid hpct
  clear cT cS hT hOK hR hN hRs hBF hFR hCF hR2 hab hX hY hZ hR3 hAF hPL hQL hPC hHL hNL hsch hIX hIN hpct
  obtain ⟨OB, hOB⟩ : ∃ OB, HL.all (okC [45, 46]) = OB := ⟨_, rfl⟩
  have HOB := Lib.hid hOB
  rw [hOB] at HR
  clear hOB
  have hB0 : Below w.heap.size w (w.alloc (.cells #[.string ⟨#[]⟩, .string ⟨#[]⟩, .string ⟨#[]⟩, .string ⟨#[]⟩, .string ⟨#[]⟩, .string ⟨#[]⟩] 37)) := (Below.refl _ w).alloc (Nat.le_refl _) _
  go_enter Tryz.func28, Tryz.ntmps28
  go_wp2_with (first
    | (go_at_call 59; with_reducible refine (CT.out _).mono ?_; rintro e w' ⟨t, rfl, ht, rfl⟩; have Ht := Lib.hid ht; clear ht)
    | (go_at_call 58; with_reducible refine (CS.out _ Ht.out _ (hM.below hB0 (Nat.le_refl _))).mono ?_; rintro e w1 ⟨a, b, rfl, ha, hb, hb1⟩; obtain ⟨hc1, hf1⟩ := bcell hb1; have hz1 : w.heap.size < w1.heap.size := (by have := hb1.size; simp at this; omega); have hB1 := hB0.trans (hb1.mono hB0.size); have S1 := (Blank.new w (.string ⟨#[]⟩) (.string ⟨#[]⟩) (.string ⟨#[]⟩) (.string ⟨#[]⟩) (.string ⟨#[]⟩) (.string ⟨#[]⟩) 37).below hb1 (by simp); have hbs := size_of hb; have Ha := Lib.hid ha; have Hb := Lib.hid hb; have n1 : (a.toList == [97, 98, 111, 117, 116]) = false := (by rw [str_beq, ha]; exact decide_eq_false HAB.out); have n2 : (a.toList == [104, 116, 116, 112]) = false := (by rw [str_beq, ha]; exact HX.out); have n3 : (a.toList == [104, 116, 116, 112, 115]) = true := (by rw [str_beq, ha]; exact HY.out); clear ha hb)
    | (go_at_call 60; with_reducible refine (cut_any b 35 _ (by omega) (hM.below hB1 (Nat.le_refl _))).mono ?_; rw [Hb.out, HBF.out, HFR.out]; rintro e w2 ⟨c, d, rfl, hc, hd, hb2⟩; obtain ⟨hc2, hf2⟩ := bcell hb2; have hz2 : w.heap.size < w2.heap.size := (by have := hb2.size; omega); have hB2 := hB1.trans (hb2.mono hB1.size); have S2 := S1.below hb2 hz1; have hcs := size_of hc; have hds := size_of hd; have Hc := Lib.hid hc; have Hd := Lib.hid hd; clear hc hd)
    | (go_at_call 61; with_reducible refine (convert_any d innerQ true _ (by omega)).mono ?_; rw [Hd.out]; rintro e w3 ⟨f, rfl, hf, hb3⟩; obtain ⟨hc3, hf3⟩ := bcell hb3; have hz3 : w.heap.size < w3.heap.size := (by have := hb3.size; omega); have hB3 := hB2.trans (hb3.mono hB2.size); have S3 := S2.below hb3 hz2; have Hf := Lib.hid hf; clear hf)
    | (go_at_call 63; with_reducible refine (cutp_any c 47 47 _).mono ?_; rw [Hc.out, decide_eq_true HZ.out]; rintro e w' ⟨g, rfl, hg, rfl⟩; have hg := hg HZ.out; rw [HAF.out] at hg; have hgs := size_of hg; have Hg := Lib.hid hg; clear hg; have hB3a := hB3.alloc (o := .cells #[.string a, .string ⟨#[]⟩, .string ⟨#[]⟩, .string ⟨#[]⟩, .string ⟨#[]⟩, .string f] 37) hB3.size; have hb3a := (Below.refl w3.heap.size w3).alloc (Nat.le_refl _) (.cells #[.string a, .string ⟨#[]⟩, .string ⟨#[]⟩, .string ⟨#[]⟩, .string ⟨#[]⟩, .string f] 37); have S3a := S3.below hb3a hz3)
    | (go_at_call 60; with_reducible refine (cut_any g 63 _ (by omega) (hM.below hB3a (Nat.le_refl _))).mono ?_; rw [Hg.out, HPL.out, HQL.out]; rintro e w4 ⟨p, q, rfl, hp, hq, hb4⟩; obtain ⟨hc4, hf4⟩ := bcell hb4; have hz4 : w3.heap.size < w4.heap.size := (by have := hb4.size; simp at this; omega); have hy4 : w.heap.size < w4.heap.size := (by omega); have hB4 := hB3a.trans (hb4.mono hB3a.size); have S4 := S3a.below hb4 (by simp; omega); have hps := size_of hp; have hqs := size_of hq; have Hp := Lib.hid hp; have Hq := Lib.hid hq; clear hp hq)
    | (go_at_call 64; with_reducible refine (Tryz.strings_IndexByte p 47 _).mono ?_; rw [show ((47 : Int).toNat.toUInt8) = 47 from rfl, Hp.out, HIX.out]; rintro e w' ⟨rfl, rfl⟩; rcases Decidable.em (47 ∈ PL) with hin | hin <;> (first | rw [if_pos hin] | (rw [if_neg hin]; have hpe := HIN.out hin; subst hpe)) <;> clear hin)
    | (go_at_call 60; with_reducible refine (cut_any _ 58 _ (by simp; omega) (hM.below hB4 (Nat.le_refl _))).mono ?_; rw [ext_from, Hp.out, HPT.out, HHL.out, HNL.out]; rintro e w5 ⟨h, m, rfl, hh, hm, hb5⟩; obtain ⟨hc5, hf5⟩ := bcell hb5; have hz5 : w3.heap.size < w5.heap.size := (by have := hb5.size; omega); have hy5 : w.heap.size < w5.heap.size := (by omega); have hB5 := hB4.trans (hb5.mono hB4.size); have S5 := S4.below hb5 hy4; have hhs := size_of hh; have hms := size_of hm; have Hh := Lib.hid hh; have Hm := Lib.hid hm; clear hh hm)
    | (go_at_call 65; with_reducible refine (port_any a m _ (by omega)).mono ?_; rw [Ha.out, Hm.out]; rintro e w' ⟨pt, rfl, hpt, rfl⟩; rcases Decidable.em (portOk NL) with hpo | hpo <;> (first | rw [decide_eq_true hpo] | rw [decide_eq_false hpo]) <;> (have Hpo := Lib.hid hpo; have Hpt := Lib.hid hpt; clear hpo hpt))
    | (go_at_call 62; refine (only_any _ _ _ (by omega)).mono ?_; rw [Hh.out, show (⟨#[45, 46]⟩ : ByteArray).data.toList = [45, 46] from rfl, HOB.out]; rintro e w' ⟨rfl, rfl⟩; rcases Bool.eq_false_or_eq_true OB with rfl | rfl)
    | (go_at_call 66; with_reducible refine (lower_any h _ (by omega)).mono ?_; rw [Hh.out]; rintro e w6 ⟨lo, rfl, hlo, hb6⟩; obtain ⟨hc6, hf6⟩ := bcell hb6; have hz6 : w3.heap.size < w6.heap.size := (by have := hb6.size; omega); have hy6 : w.heap.size < w6.heap.size := (by omega); have hB6 := hB5.trans (hb6.mono hB5.size); have S6 := S5.below hb6 hy5; have Hlo := Lib.hid hlo; clear hlo)
    | (go_at_call 61; with_reducible refine (convert_any (p.extract _ _) innerS true _ (by simp; omega)).mono ?_; rw [ext_tail p _ _ (by omega), Hp.out]; rintro e w7 ⟨pc, rfl, hpc, hb7⟩; obtain ⟨hc7, hf7⟩ := bcell hb7; have hz7 : w3.heap.size < w7.heap.size := (by have := hb7.size; simp at this; omega); have hy7 : w.heap.size < w7.heap.size := (by omega); have hB7 := ((hB6.setCell (p := ⟨w3.heap.size, 1, none⟩) (Nat.le_of_lt hz3) (.string lo)).setCell (p := ⟨w3.heap.size, 2, none⟩) (Nat.le_of_lt hz3) (.string pt)).trans (hb7.mono (by simp; omega)); have S7 := ((S6.set ⟨w3.heap.size, 1, none⟩ (.string lo)).set ⟨w3.heap.size, 2, none⟩ (.string pt)).below hb7 (by simp; omega); have hpcs : pc.size ≤ 900000 := (by rw [size_of hpc]; refine Nat.le_trans (conv_len _ _ _) ?_; rw [List.length_drop]; omega); have Hpc := Lib.hid hpc; clear hpc)
    | (go_at_call 61; with_reducible refine (convert_any ByteArray.empty innerS true _ (by simp)).mono ?_; rw [show ByteArray.empty.data.toList = PC.drop PC.length from (by simp)]; rintro e w7 ⟨pc, rfl, hpc, hb7⟩; obtain ⟨hc7, hf7⟩ := bcell hb7; have hz7 : w3.heap.size < w7.heap.size := (by have := hb7.size; simp at this; omega); have hy7 : w.heap.size < w7.heap.size := (by omega); have hB7 := ((hB6.setCell (p := ⟨w3.heap.size, 1, none⟩) (Nat.le_of_lt hz3) (.string lo)).setCell (p := ⟨w3.heap.size, 2, none⟩) (Nat.le_of_lt hz3) (.string pt)).trans (hb7.mono (by simp; omega)); have S7 := ((S6.set ⟨w3.heap.size, 1, none⟩ (.string lo)).set ⟨w3.heap.size, 2, none⟩ (.string pt)).below hb7 (by simp; omega); have hpcs : pc.size ≤ 900000 := (by rw [size_of hpc]; refine Nat.le_trans (conv_len _ _ _) ?_; rw [List.length_drop]; omega); have Hpc := Lib.hid hpc; clear hpc)
    | (go_at_call 67; with_reducible refine (clean_any pc _ (by omega) (hM.below hB7 (Nat.le_refl _))).mono ?_; rw [Hpc.out]; rintro e w8 ⟨cl, rfl, hcl, hb8⟩; obtain ⟨hc8, hf8⟩ := bcell hb8; have hz8 : w3.heap.size < w8.heap.size := (by have := hb8.size; omega); have hy8 : w.heap.size < w8.heap.size := (by omega); have hB8 := hB7.trans (hb8.mono hB7.size); have S8 := S7.below hb8 hy7; have Hcl := Lib.hid hcl; clear hcl)
    | (go_at_call 61; with_reducible refine (convert_any q innerQ true _ (by omega)).mono ?_; rw [Hq.out]; rintro e w9 ⟨q2, rfl, hq2, hb9⟩; obtain ⟨hc9, hf9⟩ := bcell hb9; have hz9 : w3.heap.size < w9.heap.size := (by have := hb9.size; simp at this; omega); have hy9 : w.heap.size < w9.heap.size := (by omega); have hB9 := (hB8.setCell (p := ⟨w3.heap.size, 3, none⟩) (Nat.le_of_lt hz3) (.string cl)).trans (hb9.mono (by simp; omega)); have S9 := (S8.set ⟨w3.heap.size, 3, none⟩ (.string cl)).below hb9 (by simp; omega); have Hq2 := Lib.hid hq2; clear hq2))
  all_goals first
    | (refine bodyPost_ret (url_ret Tryz.results28 _ _ _ (S9.set ⟨w3.heap.size, 4, none⟩ (.string q2)) (.string a) (.string lo) (.string pt) (.string cl) (.string q2) (.string f) (.int .i64 0) rfl rfl) rfl ⟨res_some (u := (N, lowL HL, portOf N NL, cleanL (conv innerL true (PL.drop PC.length)), conv (innerL ++ [63]) true QL, CF)) (by rw [HR.out, if_pos ⟨Hpo.out, by omega, by omega, by simp⟩]) Ha.out Hlo.out (Hpt.out Hpo.out) Hcl.out Hq2.out (Hf.out.trans HCF.out), (hB9.setCell (p := ⟨w3.heap.size, 4, none⟩) (Nat.le_of_lt hz3) _).set6 _ _ _ _ _ _⟩)
    | (refine bodyPost_ret (url_ret Tryz.results28 _ _ _ (S9.set ⟨w3.heap.size, 4, none⟩ (.string q2)) (.string a) (.string lo) (.string pt) (.string cl) (.string q2) (.string f) (.int .i64 0) rfl rfl) rfl ⟨res_some (u := (N, lowL HL, portOf N NL, cleanL (conv innerL true (PC.drop PC.length)), conv (innerL ++ [63]) true QL, CF)) (by rw [HR.out, if_pos ⟨Hpo.out, by omega, by omega, by simp⟩]) Ha.out Hlo.out (Hpt.out Hpo.out) Hcl.out Hq2.out (Hf.out.trans HCF.out), (hB9.setCell (p := ⟨w3.heap.size, 4, none⟩) (Nat.le_of_lt hz3) _).set6 _ _ _ _ _ _⟩)
    | (refine bodyPost_ret (url_ret Tryz.results28 _ _ _ S5 (.string ⟨#[]⟩) (.string ⟨#[]⟩) (.string ⟨#[]⟩) (.string ⟨#[]⟩) (.string ⟨#[]⟩) (.string ⟨#[]⟩) (.int .i64 4) rfl rfl) rfl ⟨res_none (by rw [HR.out, if_neg (by rintro ⟨h1, h2, h3, h4⟩; first | exact Hpo.out h1 | omega | cases h4)]), hB5.set6 _ _ _ _ _ _⟩)
theorem parse_any (s : ByteArray) (w : World) (hs : s.size ≤ 300000) (hM : MaxAt w) :
    Calls Tryz.prog 28 #[.string s] w fun e w' => e = .returned (resV (parseL s.data.toList)) ∧ Below w.heap.size w w' := by
  rcases Bool.eq_false_or_eq_true (schemeOk (trimL s.data.toList)) with hOK | hOK
  · rw [parseL, if_pos hOK]
    by_cases hab : lowL (pre 58 (trimL s.data.toList)) = aboutL
    · exact parseA s w hs hM _ _ hOK rfl rfl hab _ rfl
    · by_cases hZ : (pre 35 (post 58 (trimL s.data.toList))).take 2 = [47, 47]
      · by_cases hX : lowL (pre 58 (trimL s.data.toList)) = httpL
        · exact parseCA s w hs hM _ _ hOK rfl rfl hab _ rfl _ (decide_eq_true hX) rfl hZ
        · by_cases hY : lowL (pre 58 (trimL s.data.toList)) = httpsL
          · exact parseCB s w hs hM _ _ hOK rfl rfl hab _ rfl true (decide_eq_false hX) (decide_eq_true hY) hZ
          · exact parseBB s w hs hM _ _ hOK rfl rfl hab _ rfl true true _ (decide_eq_false hX) (decide_eq_false hY) rfl
      · exact parseBA s w hs hM _ _ hOK rfl rfl hab _ rfl _ _ true rfl rfl (decide_eq_false hZ)
  · exact parseN s w hs hM hOK
end Go.Proofs.YtjdhaacmlpegoaaGreatDoor
