/- The walk of the reference's Parse, the address of a site. -/
import Derived.Test.YtjdhaacmlpegoaaGreatDoorUW
namespace Go.Proofs.YtjdhaacmlpegoaaGreatDoor
set_option linter.unusedVariables false
set_option linter.unusedSimpArgs false
open Go.RowKit

def CA_own (N : List UInt8) : Prop := (if N = httpsL then [52, 52, 51] else [56, 48]) = ([56, 48] : List UInt8)
def CB_own (N : List UInt8) : Prop := (if N = httpsL then [52, 52, 51] else [56, 48]) = ([52, 52, 51] : List UInt8)
theorem len_case (n : Nat) : (1 ≤ n ∧ n ≤ 253) ∨ n < 1 ∨ 253 < n := by omega
theorem At6.out {W : World} {k : Nat} {a b c d e f : Value} (h : At6 W k a b c d e f) : k < W.heap.size ∧ W.cell? ⟨k, 0, none⟩ = some a ∧ W.cell? ⟨k, 1, none⟩ = some b ∧ W.cell? ⟨k, 2, none⟩ = some c ∧ W.cell? ⟨k, 3, none⟩ = some d ∧ W.cell? ⟨k, 4, none⟩ = some e ∧ W.cell? ⟨k, 5, none⟩ = some f
  ∧ W.frozen? ⟨k, 0, none⟩ = false ∧ W.frozen? ⟨k, 1, none⟩ = false ∧ W.frozen? ⟨k, 2, none⟩ = false ∧ W.frozen? ⟨k, 3, none⟩ = false ∧ W.frozen? ⟨k, 4, none⟩ = false ∧ W.frozen? ⟨k, 5, none⟩ = false := h
set_option maxRecDepth 20000 in
set_option maxHeartbeats 8000000 in
theorem rparseCA (s : ByteArray) (w : World) (hs : s.size ≤ 300000) (N Rst : List UInt8) (hOK : schemeOk (trimL s.data.toList) = true) (hN : lowL (pre 58 (trimL s.data.toList)) = N) (hRs : post 58 (trimL s.data.toList) = Rst) (hab : N ≠ aboutL) (R : Option U6) (hR : restL N Rst = R) (hM : MaxAt w) (hX : decide (N = [104, 116, 116, 112]) = true) (hY : decide (N = [104, 116, 116, 112, 115]) = false) (hYV : CA_own N) (hZ : (pre 35 Rst).take 2 = [47, 47]) :
    Calls Tryz.prog 91 #[.string s] w fun e w' => e = .returned (resB R) ∧ Below w.heap.size w w' := by
  have hsch : N = httpL ∨ N = httpsL := by simp_all
  have hz2 := hZ
  have hRS : R = siteL N (conv (innerL ++ [63]) true (post 35 Rst)) (pre 35 Rst) := by rw [← hR, restL, if_neg hab]
  obtain ⟨AF, hAF⟩ : ∃ l, (pre 35 Rst).drop 2 = l := ⟨_, rfl⟩
  obtain ⟨PL, hPL⟩ : ∃ l, pre 63 AF = l := ⟨_, rfl⟩
  have hpll := pre_le 63 AF
  obtain ⟨QL, hQL⟩ : ∃ l, post 63 AF = l := ⟨_, rfl⟩
  obtain ⟨CQ, hCQ⟩ : ∃ l, conv (innerL ++ [63]) true QL = l := ⟨_, rfl⟩
  obtain ⟨PC, hPC⟩ : ∃ l, pre 47 PL = l := ⟨_, rfl⟩
  have hpcl := pre_le 47 PL
  obtain ⟨HL, hHL⟩ : ∃ l, pre 58 PC = l := ⟨_, rfl⟩
  have hhll := pre_le 58 PC
  obtain ⟨NL, hNL⟩ : ∃ l, post 58 PC = l := ⟨_, rfl⟩
  have hnll := post_le 58 PC
  have hPT : AF.take PL.length = PL := by rw [← hPL, pre_take]
  have hQD : AF.drop (PL.length + 1) = QL := by rw [← hPL, post_drop, hQL]
  have hQN : ¬ PL.length < AF.length → QL = [] := fun h => by rw [← hQD]; exact List.drop_eq_nil_of_le (by omega)
  have hCT : PL.take PC.length = PC := by rw [← hPC, pre_take]
  have hHT : PC.take HL.length = HL := by rw [← hHL, pre_take]
  have hND : PC.drop (HL.length + 1) = NL := by rw [← hHL, post_drop, hNL]
  have hNN : ¬ HL.length < PC.length → NL = [] := fun h => by rw [← hND]; exact List.drop_eq_nil_of_le (by omega)
  rw [hPL] at hpll
  rw [hPC] at hpcl
  rw [hHL] at hhll
  rw [hNL] at hnll
  have hR3 : R = if portOk NL ∧ 1 ≤ HL.length ∧ HL.length ≤ 253 ∧ (lowL HL).all (okC [45, 46]) = true then some (N, lowL HL, if zerosOff NL = [56,48] then [] else zerosOff NL, cleanL (conv innerL true (PL.drop PC.length)), CQ, conv (innerL ++ [63]) true (post 35 Rst)) else none := by
    rw [hRS, siteL, if_pos ⟨hsch, hZ⟩]
    simp only [hAF, hPL, hPC, hHL, hNL, hQL, hCQ]
    rw [lowL_ok [45, 46] HL (by decide)]
    by_cases hp : portOk NL
    · rw [portOf_own N NL hp.1 hsch, show (if N = httpsL then [52, 52, 51] else [56, 48]) = ([56,48] : List UInt8) from hYV]
    · rw [if_neg (fun h => hp h.1), if_neg (fun h => hp h.1)]
  have HR := Lib.hid hR3
  have HX := Lib.hid hX
  have HY := Lib.hid hY
  have HZ := Lib.hid hZ
  have HAF := Lib.hid hAF
  have HPL := Lib.hid hPL
  have HCQ := Lib.hid hCQ
  have HPC := Lib.hid hPC
  have HHL := Lib.hid hHL
  have HPT := Lib.hid hPT
  have HQD := Lib.hid hQD
  have HQN := Lib.hid hQN
  have HCT := Lib.hid hCT
  have HHT := Lib.hid hHT
  have HND := Lib.hid hND
  have HNN := Lib.hid hNN
  have hafl : AF.length ≤ (pre 35 Rst).length - 2 := by rw [← hAF]; simp
  clear hR3 hX hY hZ hsch hz2 hRS hAF hPL hCQ hPC hHL hPT hQD hQN hCT hHT hND hNN hQL hNL hYV
  have hTl := trimL_len s.data.toList
  rw [size_len] at hTl
  have hNl : N.length ≤ s.size := by rw [← hN, lowL_len]; exact Nat.le_trans (pre_le _ _) hTl
  have hRl : Rst.length ≤ s.size := by rw [← hRs]; exact Nat.le_trans (post_le _ _) hTl
  have cT := fun w => rtrim_any s w (by omega)
  obtain ⟨T, hT⟩ : ∃ T, trimL s.data.toList = T := ⟨_, rfl⟩
  rw [hT] at cT hTl hOK hN hRs
  obtain ⟨L, hL⟩ : ∃ L, (pre 58 T).length = L := ⟨_, rfl⟩
  have hLl := pre_le 58 T
  rw [hL] at hLl
  have hLT : L < T.length := by
    have h58 : 58 ∈ T := by
      unfold schemeOk at hOK
      simp only [Bool.and_eq_true] at hOK
      simpa using hOK.1.1
    have h2 := congrArg List.length (pre_post 58 T h58)
    simp only [List.length_append, List.length_cons, hL] at h2
    omega
  have hLN : lowL (T.take L) = N := by rw [← hL, pre_take, hN]
  have hLR : T.drop (L + 1) = Rst := by rw [← hL, post_drop, hRs]
  have hsn : schemeN T = (L : Int) := by rw [schemeN, if_pos hOK, hL]
  obtain ⟨BF, hBF⟩ : ∃ l, pre 35 Rst = l := ⟨_, rfl⟩
  obtain ⟨FR, hFR⟩ : ∃ l, post 35 Rst = l := ⟨_, rfl⟩
  obtain ⟨CF, hCF⟩ : ∃ l, conv (innerL ++ [63]) true FR = l := ⟨_, rfl⟩
  have hpl := pre_le 35 Rst
  have hBT : Rst.take BF.length = BF := by rw [← hBF, pre_take]
  have hFD : Rst.drop (BF.length + 1) = FR := by rw [← hBF, post_drop, hFR]
  have hFN : ¬ BF.length < Rst.length → FR = [] := fun h => by rw [← hFD]; exact List.drop_eq_nil_of_le (by omega)
  rw [hBF] at hpl
  have CT := Lib.hid cT
  have HLN := Lib.hid hLN
  have HLR := Lib.hid hLR
  have HSN := Lib.hid hsn
  have HBF := Lib.hid hBF
  have HCF := Lib.hid hCF
  have HBT := Lib.hid hBT
  have HFD := Lib.hid hFD
  have HFN := Lib.hid hFN
  have hcf : conv (innerL ++ [63]) true (post 35 Rst) = CF := by rw [hFR, hCF]
  rw [hcf] at HR
  have HAB := Lib.hid hab
  clear cT hT hOK hR hN hRs hBF hFR hCF hcf hab hL hsn hLN hLR hBT hFD hFN
  obtain ⟨aB0, aZ0⟩ := start2 w 37
  have hb0 : Below w.heap.size w ((w.alloc (.cells #[E0, E0, E0, E0, E0, E0] 37)).alloc (.cells #[E0, E0, E0, E0, E0, E0] 37)) := ((Below.refl _ w).alloc (Nat.le_refl _) _).alloc (by simp) _
  have AB0 := Lib.hid aB0
  have AZ0 := Lib.hid aZ0
  clear aB0 aZ0
  go_enter Tryz.func91, Tryz.ntmps91
  go_upto_if 38 with (first
    | (go_at_call 138; with_reducible refine (CT.out _).mono ?_; rintro e w' ⟨t, rfl, ht, rfl⟩; have hts := size_of ht; have Ht := Lib.hid ht; clear ht)
    | (go_at_call 139; with_reducible refine (rscheme_any t _ (by omega)).mono ?_; rw [Ht.out, HSN.out]; rintro e w' ⟨rfl, rfl⟩)
    | (go_at_call 140; with_reducible refine (small_any (t.extract 0 L) _ (by simp; omega)).mono ?_; rw [ext_from, Ht.out, HLN.out]; rintro e w1 ⟨a, rfl, ha, hb1⟩; have hsz1 : w.heap.size + 1 < w1.heap.size := (by have := hb1.size; simp at this; omega); have hbw1 := hb0.trans (hb1.mono (by simp; omega)); have AB1 := Lib.hid (AB0.out.below hb1 (by simp <;> omega)); have AZ1 := Lib.hid (AZ0.out.below hb1 (by simp <;> omega)); have Ha := Lib.hid ha; clear ha hb1)
    | (go_at_call 141; with_reducible refine (find35 (t.extract (L + 1) T.length) _ (by simp; omega)).mono ?_; have hrl := ext_tail t (L + 1) T.length hts.symm; rw [Ht.out, HLR.out] at hrl; obtain ⟨r, hrd⟩ : ∃ r, t.extract (L + 1) T.length = r := ⟨_, rfl⟩; rw [hrd] at hrl ⊢; rw [hrl, HBF.out]; have hrs := size_of hrl; have Hr := Lib.hid hrl; clear hrd hrl; rintro e w' ⟨rfl, rfl⟩))
  have aU := At6.new w1 (.string a) E0 E0 E0 E0 E0 37
  have aB := AB1.out.alloc (.cells #[.string a, E0, E0, E0, E0, E0] 37)
  have aZ := AZ1.out.alloc (.cells #[.string a, E0, E0, E0, E0, E0] 37)
  have hbw2 := hbw1.alloc (by omega) (.cells #[.string a, E0, E0, E0, E0, E0] 37)
  obtain ⟨w2, hw2⟩ : ∃ w2, w1.alloc (.cells #[.string a, E0, E0, E0, E0, E0] 37) = w2 := ⟨_, rfl⟩
  have hsz2 : w2.heap.size = w1.heap.size + 1 := by rw [← hw2]; simp
  obtain ⟨K, hK⟩ : ∃ K, w1.heap.size = K := ⟨_, rfl⟩
  rw [hw2] at aU aB aZ hbw2 ⊢
  rw [hK] at aU hsz1 hsz2 ⊢
  have AU := Lib.hid aU
  have AB := Lib.hid aB
  have AZ := Lib.hid aZ
  clear aU aB aZ hw2 hK AB1 AZ1 AB0 AZ0 hb0 hbw1
  go_cut [] (fun wx => ∃ f : ByteArray, At6 wx K (.string a) E0 E0 E0 E0 (.string f) ∧ At6 wx w.heap.size E0 E0 E0 E0 E0 E0 ∧ At6 wx (w.heap.size + 1) E0 E0 E0 E0 E0 E0 ∧ Below w.heap.size w wx ∧ f.data.toList = CF)
  case first =>
    by_cases hlt : BF.length < Rst.length
    · obtain ⟨-, c0, c1, c2, c3, c4, c5, f0, f1, f2, f3, f4, f5⟩ := AU.out
      go_wp2_with (go_at_call 142; with_reducible refine (rconvert_any (r.extract _ _) ⟨#[63]⟩ _ (by simp; omega) (by decide)).mono ?_; rw [ext_tail r _ _ (by omega), Hr.out, HFD.out]; rintro e w3 ⟨f, rfl, hf, hb3⟩; obtain ⟨hc3, hf3⟩ := bcell hb3)
      go_meet
      case rel => exact ⟨f, (AU.out.below hb3 (by omega)).set5 _, (AB.out.below hb3 (by omega)).set _ _ (by simp; omega), (AZ.out.below hb3 (by omega)).set _ _ (by simp; omega), (hbw2.trans (hb3.mono hbw2.size)).setCell (by simp; omega) _, hf.trans HCF.out⟩
    · go_wp2_with fail
      go_meet
      case rel => exact ⟨⟨#[]⟩, AU.out, AB.out, AZ.out, hbw2, by rw [← HCF.out, HFN.out hlt]; rfl⟩
  case rest =>
    obtain ⟨f, aU, aB, aZ, hbw, hf⟩ := hcut
    have n1 : (a.toList == [97, 98, 111, 117, 116]) = false := by rw [str_beq, Ha.out]; exact decide_eq_false HAB.out
    have n2 : (a.toList == [104, 116, 116, 112]) = true := by rw [str_beq, Ha.out]; exact HX.out
    have n3 : (a.toList == [104, 116, 116, 112, 115]) = false := by rw [str_beq, Ha.out]; exact HY.out
    have Hf := Lib.hid hf
    have AU2 := Lib.hid aU
    have AB2 := Lib.hid aB
    have AZ2 := Lib.hid aZ
    obtain ⟨kU, c0, c1, c2, c3, c4, c5, f0, f1, f2, f3, f4, f5⟩ := aU
    have kB := aB.1
    have kZ := aZ.1
    clear hf AU AB AZ aB aZ
    go_upto_if 50 with fail
    have hr2l := ext_from r BF.length
    rw [Hr.out, HBT.out] at hr2l
    obtain ⟨r2, hr2⟩ : ∃ r2, r.extract 0 BF.length = r2 := ⟨_, rfl⟩
    rw [hr2] at hr2l ⊢
    have hr2s := size_of hr2l
    have n4 : ((r2.extract 0 2).toList == [47, 47]) = true := by rw [str_beq, ext_from, hr2l, ← HBF.out]; exact decide_eq_true HZ.out
    have hr2g : 2 ≤ r2.size := by
      have := congrArg List.length HZ.out
      rw [List.length_take, HBF.out] at this
      simp at this
      omega
    rw [HBF.out] at HAF hafl
    have Hr2 := Lib.hid hr2l
    clear hr2 hr2l
    go_upto_if 108 with (first
      | (go_at_call 141; with_reducible refine (find63 (r2.extract 2 _) _ (by simp; omega)).mono ?_; have hrl := ext_tail r2 2 BF.length (by omega); rw [Hr2.out, HAF.out] at hrl; obtain ⟨r3, hr3⟩ : ∃ r3, r2.extract 2 BF.length = r3 := ⟨_, rfl⟩; rw [hr3] at hrl ⊢; rw [hrl, HPL.out]; have hr3s := size_of hrl; have Hr3 := Lib.hid hrl; clear hr3 hrl; rintro e w' ⟨rfl, rfl⟩))
    obtain ⟨wd, rfl⟩ : ∃ wd : World, wd = wc := ⟨_, rfl⟩
    go_cut [] (fun wx => ∃ q : ByteArray, At6 wx K (.string a) E0 E0 E0 (.string q) (.string f) ∧ At6 wx w.heap.size E0 E0 E0 E0 E0 E0 ∧ At6 wx (w.heap.size + 1) E0 E0 E0 E0 E0 E0 ∧ Below w.heap.size w wx ∧ q.data.toList = CQ)
    case first =>
      by_cases hlt : PL.length < AF.length
      · go_wp2_with (go_at_call 142; with_reducible refine (rconvert_any (r3.extract _ _) ⟨#[63]⟩ _ (by simp; omega) (by decide)).mono ?_; rw [ext_tail r3 _ _ (by omega), Hr3.out, HQD.out]; rintro e w3 ⟨q, rfl, hq, hb3⟩; obtain ⟨hc3, hf3⟩ := bcell hb3)
        go_meet
        case rel => exact ⟨q, (AU2.out.below hb3 kU).set4 _, (AB2.out.below hb3 kB).set _ _ (by simp; omega), (AZ2.out.below hb3 kZ).set _ _ (by simp; omega), (hbw.trans (hb3.mono hbw.size)).setCell (by simp; omega) _, hq.trans HCQ.out⟩
      · go_wp2_with fail
        go_meet
        case rel => exact ⟨⟨#[]⟩, AU2.out, AB2.out, AZ2.out, hbw, by rw [← HCQ.out, HQN.out hlt]; rfl⟩
    case rest =>
      clear c0 c1 c2 c3 c4 c5 f0 f1 f2 f3 f4 f5 kU kB kZ AU2 AB2 AZ2 hbw
      obtain ⟨q, aU, aB, aZ, hbw, hq⟩ := hcut
      have Hq := Lib.hid hq
      have AU2 := Lib.hid aU
      have AB2 := Lib.hid aB
      have AZ2 := Lib.hid aZ
      have kB := aB.1
      have kZ := aZ.1
      obtain ⟨kU, c0, c1, c2, c3, c4, c5, f0, f1, f2, f3, f4, f5⟩ := aU
      clear hq aB aZ
      go_upto_if 145 with (first
        | (go_at_call 141; with_reducible refine (find47 (r3.extract 0 _) _ (by simp; omega)).mono ?_; have hrl := ext_from r3 PL.length; rw [Hr3.out, HPT.out] at hrl; obtain ⟨r4, hr4⟩ : ∃ r4, r3.extract 0 PL.length = r4 := ⟨_, rfl⟩; rw [hr4] at hrl ⊢; rw [hrl, HPC.out]; have hr4s := size_of hrl; have Hr4 := Lib.hid hrl; clear hr4 hrl; rintro e w' ⟨rfl, rfl⟩)
        | (go_at_call 142; with_reducible refine (rconvert_any (r4.extract _ _) ⟨#[]⟩ _ (by simp; omega) (by decide)).mono ?_; rw [ext_tail r4 _ _ (by omega), Hr4.out, show innerL ++ (⟨#[]⟩ : ByteArray).data.toList = innerL from List.append_nil _]; rintro e w5 ⟨pc, rfl, hpc, hb5⟩; obtain ⟨hc5, hf5⟩ := bcell hb5; have hk5 : K < w5.heap.size := Nat.lt_of_lt_of_le kU hb5.size; have hbw5 := hbw.trans (hb5.mono hbw.size); have hpcs : pc.size ≤ 900000 := (by rw [size_of hpc]; refine Nat.le_trans (conv_len _ _ _) ?_; rw [List.length_drop]; omega); have Hpc := Lib.hid hpc; clear hpc)
        | (go_at_call 145; with_reducible refine (rclean_any pc _ (by omega)).mono ?_; rw [Hpc.out]; rintro e w6 ⟨cl, rfl, hcl, hb6⟩; obtain ⟨hc6, hf6⟩ := bcell hb6; have hk6 : K < w6.heap.size := Nat.lt_of_lt_of_le hk5 hb6.size; have hbw6 := hbw5.trans (hb6.mono hbw5.size); have Hcl := Lib.hid hcl; clear hcl)
        | (go_at_call 141; with_reducible refine (find58 (r4.extract 0 _) _ (by simp; omega)).mono ?_; have hrl := ext_from r4 PC.length; rw [Hr4.out, HCT.out] at hrl; obtain ⟨p5, hp5⟩ : ∃ p5, r4.extract 0 PC.length = p5 := ⟨_, rfl⟩; rw [hp5] at hrl ⊢; rw [hrl, HHL.out]; have hp5s := size_of hrl; have Hp5 := Lib.hid hrl; clear hp5 hrl; rintro e w' ⟨rfl, rfl⟩)
        | (go_at_call 140; with_reducible refine (small_any (p5.extract 0 _) _ (by simp; omega)).mono ?_; rw [ext_from, Hp5.out, HHT.out]; rintro e w7 ⟨h, rfl, hh, hb7⟩; have hbw7 := (hbw6.setCell (p := ⟨K, 3, none⟩) (by simp; omega) (.string cl)).trans (hb7.mono (by simp; exact hbw6.size)); have aU7 := ((AU2.out.below hb5 kU).below hb6 hk5).set3 (.string cl) |>.below hb7 (by simp; exact hk6); have aB7 := (((AB2.out.below hb5 kB).below hb6 (Nat.lt_of_lt_of_le kB hb5.size)).set ⟨K, 3, none⟩ (.string cl) (by simp; omega)).below hb7 (by simp; exact Nat.lt_of_lt_of_le (Nat.lt_of_lt_of_le kB hb5.size) hb6.size); have aZ7 := (((AZ2.out.below hb5 kZ).below hb6 (Nat.lt_of_lt_of_le kZ hb5.size)).set ⟨K, 3, none⟩ (.string cl) (by simp; omega)).below hb7 (by simp; exact Nat.lt_of_lt_of_le (Nat.lt_of_lt_of_le kZ hb5.size) hb6.size); have hhs : h.size = HL.length := (by rw [size_of hh, lowL_len]); have Hh := Lib.hid hh; have AU7 := Lib.hid aU7; have AB7 := Lib.hid aB7; have AZ7 := Lib.hid aZ7; clear hh aU7 aB7 aZ7 hc5 hf5 hc6 hf6 hb5 hb6 hb7 c0 c1 c2 c3 c4 c5 f0 f1 f2 f3 f4 f5; obtain ⟨kU7, c0, c1, c2, c3, c4, c5, f0, f1, f2, f3, f4, f5⟩ := At6.out AU7.out; obtain ⟨kB7, b0, b1, b2, b3, b4, b5, g0, g1, g2, g3, g4, g5⟩ := At6.out AB7.out; obtain ⟨kZ7, z0, z1, z2, z3, z4, z5, -⟩ := At6.out AZ7.out; rcases len_case HL.length with ⟨hl1, hl2⟩ | hl1 | hl1))
      all_goals
        have hbH := hbw7.setCell (p := ⟨K, 1, none⟩) (by simp; omega) (.string h)
        have aBH := (AB7.out.set ⟨K, 1, none⟩ (.string h) (by simp; omega)).blank
        have hrm := HR.out
        rw [show (lowL HL).all (okC [45, 46]) = h.data.toList.all (okC [45, 46]) by rw [Hh.out]] at hrm
        have HRM := Lib.hid hrm
        have HBL := Lib.hid aBH
        clear hrm HR aBH
      · go_wp2_with fail
        go_loop [12] (fun iv => ∃ k : Nat, k ≤ h.size ∧ iv = .int .i64 k ∧ (h.data.toList.take k).all (okC [45, 46]) = true) (fun iv => h.size - (intOf iv).toNat)
        case atStart => exact ⟨0, Nat.zero_le _, rfl, by simp⟩
        case round =>
          obtain ⟨k, hk, rfl, hal⟩ := hrel
          by_cases hlt : k < h.size
          · have htk := take_snoc h k hlt
            obtain ⟨C, hC⟩ : ∃ C, [45, 46].contains h[k] = C := ⟨_, rfl⟩
            have cI := fun w => in_any h[k] ⟨#[45, 46]⟩ w (by decide)
            rw [show (⟨#[45, 46]⟩ : ByteArray).data.toList = [45, 46] from rfl, hC] at cI
            have ho : okC [45, 46] h[k] = (letterI h[k].toNat || digitI h[k].toNat || C) := by rw [← hC]; rfl
            have hmem := mem_at h k hlt
            have HT := Lib.hid htk
            have HO := Lib.hid ho
            have HAL := Lib.hid hal
            have CI := Lib.hid cI
            clear htk ho hal cI hC
            rcases Bool.eq_false_or_eq_true C with rfl | rfl
            all_goals
              go_wp2_with (first
                | (go_at_call 143; refine (rletter_any _ _).mono ?_; rintro e w' ⟨rfl, rfl⟩)
                | (go_at_call 144; refine (rdigit_any _ _).mono ?_; rintro e w' ⟨rfl, rfl⟩)
                | (go_at_call 146; refine (CI.out _).mono ?_; rintro e w' ⟨rfl, rfl⟩))
              all_goals first
                | (go_round
                   case rel => exact ⟨k + 1, by omega, by go_num, by rw [HT.out, List.all_append, HAL.out, List.all_cons, HO.out]; first | (simp [*]; done) | (simp_all; done)⟩
                   case measure => simp [intOf]; omega)
                | (refine bodyPost_ret (url_ret Tryz.results91 _ _ _ HBL.out E0 E0 E0 E0 E0 E0 (.bool false) rfl rfl) rfl ⟨resB_none (by rw [HRM.out, if_neg (fun hh => by have := List.all_eq_true.1 hh.2.2.2 _ hmem; rw [HO.out] at this; simp_all)]), hbH.set6 _ _ _ _ _ _⟩)
          · have hke : k = h.size := by omega
            subst hke
            rw [List.take_of_length_le (by simp)] at hal
            have HAL := Lib.hid hal
            clear hal hlt hk
            by_cases hp : HL.length < PC.length
            · go_upto_region 44 with fail
              have hptl := ext_tail p5 (HL.length + 1) PC.length (by omega)
              rw [Hp5.out, HND.out] at hptl
              obtain ⟨pt, hpt⟩ : ∃ pt, p5.extract (HL.length + 1) PC.length = pt := ⟨_, rfl⟩
              rw [hpt] at hptl ⊢
              have hpts := size_of hptl
              have Hpt := Lib.hid hptl
              clear hptl hpt
              by_cases h5 : 5 < pt.size
              · go_wp2_with fail
                refine bodyPost_ret (url_ret Tryz.results91 _ _ _ HBL.out E0 E0 E0 E0 E0 E0 (.bool false) rfl rfl) rfl ⟨resB_none (by rw [HRM.out, if_neg (fun hh => by have := hh.1.2.1; omega)]), hbH.set6 _ _ _ _ _ _⟩
              · go_wp2_with fail
                go_loop [14, 15] (fun nv iv => ∃ k : Nat, k ≤ pt.size ∧ iv = .int .i64 k ∧ nv = .int .i64 (numL (NL.take k) : Nat) ∧ (NL.take k).all digitB = true) (fun _ iv => pt.size - (intOf iv).toNat)
                case atStart => exact ⟨0, Nat.zero_le _, rfl, rfl, by simp⟩
                case round =>
                  obtain ⟨k, hk, rfl, rfl, hd⟩ := hrel
                  have hbd := numL_bd _ hd (by rw [List.length_take]; omega)
                  by_cases hlt : k < pt.size
                  · have htk := take_snoc pt k hlt
                    rw [Hpt.out] at htk
                    have hmem := mem_at pt k hlt
                    rw [Hpt.out] at hmem
                    rcases Bool.eq_false_or_eq_true (digitI (pt[k].toNat : Int)) with hg | hg
                    · have hd2 : (NL.take (k + 1)).all digitB = true := by
                        rw [htk, List.all_append, hd]
                        simp only [List.all_cons, List.all_nil, Bool.and_true, Bool.true_and]; exact hg
                      have hsn := numL_snoc (NL.take k) pt[k]
                      rw [← htk] at hsn
                      have hg2 := hg
                      simp only [digitI, decide_eq_true_eq] at hg2
                      obtain ⟨n, hn⟩ : ∃ n, numL (NL.take k) = n := ⟨_, rfl⟩
                      rw [hn] at hsn hbd ⊢
                      have HS := Lib.hid hsn
                      have HD2 := Lib.hid hd2
                      clear hn hsn hd hd2 htk
                      go_wp2_with (go_at_call 144; refine (rdigit_any _ _).mono ?_; rintro e w' ⟨rfl, rfl⟩)
                      go_round
                      case rel => exact ⟨k + 1, by omega, by go_num, by rw [HS.out]; congr 1; omega, HD2.out⟩
                      case measure => simp [intOf]; omega
                    · have hno : ¬ NL.all digitB = true := fun hh => by
                        have := List.all_eq_true.1 hh _ hmem
                        rw [digitB, hg] at this; cases this
                      have HNO := Lib.hid hno
                      clear hno htk hd hbd
                      obtain ⟨n, hn⟩ : ∃ n, numL (NL.take k) = n := ⟨_, rfl⟩
                      rw [hn]
                      clear hn
                      go_wp2_with (go_at_call 144; refine (rdigit_any _ _).mono ?_; rintro e w' ⟨rfl, rfl⟩)
                      refine bodyPost_ret (url_ret Tryz.results91 _ _ _ HBL.out E0 E0 E0 E0 E0 E0 (.bool false) rfl rfl) rfl ⟨resB_none (by rw [HRM.out, if_neg (fun hh => HNO.out hh.1.1)]), hbH.set6 _ _ _ _ _ _⟩
                  · have hke : k = pt.size := by omega
                    subst hke
                    rw [hpts, List.take_of_length_le (Nat.le_refl _)] at hbd hd
                    rw [show NL.take pt.size = NL from List.take_of_length_le (by omega)]
                    have HD := Lib.hid hd
                    obtain ⟨n, hn⟩ : ∃ n, numL NL = n := ⟨_, rfl⟩
                    rw [hn] at hbd ⊢
                    have HNM := Lib.hid hn
                    clear hn hd hlt hk
                    by_cases hn5 : n ≤ 65535
                    · go_wp2_with fail
                      go_loop [13] (fun pv => ∃ t : ByteArray, t.size ≤ 5 ∧ pv = .string t ∧ zerosOff t.data.toList = zerosOff NL) strLen
                      case atStart => exact ⟨pt, by omega, rfl, by rw [Hpt.out]⟩
                      case round =>
                        obtain ⟨t, ht5, rfl, hzt⟩ := hrel
                        by_cases h0 : t.size = 0
                        · have hl : t.data.toList = [] := List.eq_nil_of_length_eq_zero (by rw [size_len]; exact h0)
                          have hzn : zerosOff NL = [] := by rw [← hzt, hl]; rfl
                          have hne : (t.toList == [56,48]) = false := by rw [str_beq, hl]; rfl
                          have hz : (t.size : Int) = 0 := by omega
                          have HZN := Lib.hid hzn
                          have HL0 := Lib.hid hl
                          clear hzt hl hzn
                          go_wp2_with fail
                          refine bodyPost_ret (url_ret Tryz.results91 _ _ _ (HBL.out.set ⟨K, 2, none⟩ (.string t)) (.string a) (.string h) (.string t) (.string cl) (.string q) (.string f) (.bool true) rfl rfl) rfl ⟨resB_some (u := (N, lowL HL, if zerosOff NL = [56,48] then [] else zerosOff NL, cleanL (conv innerL true (PL.drop PC.length)), CQ, CF)) (by rw [HRM.out, if_pos ⟨⟨HD.out, by omega, by rw [HNM.out]; omega⟩, hl1, hl2, HAL.out⟩]) Ha.out Hh.out (by rw [HL0.out, HZN.out]; simp) Hcl.out Hq.out Hf.out, (hbH.setCell (p := ⟨K, 2, none⟩) (by simp; omega) _).set6 _ _ _ _ _ _⟩
                        · have hp0 : 0 < t.size := by omega
                          have hpi : (0 : Int) < (t.size : Int) := by omega
                          have hdt := drop_at t 0 hp0
                          rw [List.drop_zero] at hdt
                          by_cases hc : t[0] = 48
                          · have hci : ((t[0].toNat : Int) == 48) = true := by rw [hc]; rfl
                            have hz2 : zerosOff (t.extract 1 t.size).data.toList = zerosOff NL := by
                              rw [ext_to, ← hzt, hdt]
                              unfold zerosOff
                              rw [List.dropWhile_cons, if_pos (by rw [hc]; rfl)]
                              simp
                            have HZ2 := Lib.hid hz2
                            clear hzt hdt hz2 hc
                            go_wp2_with fail
                            go_round
                            case rel => exact ⟨t.extract 1 t.size, by simp; omega, rfl, HZ2.out⟩
                            case measure => simp [strLen]; omega
                          · have hci : ((t[0].toNat : Int) == 48) = false := by
                              rw [beq_eq_false_iff_ne]; exact fun e => hc (UInt8.toNat_inj.1 (by simp; omega))
                            have hz2 : t.data.toList = zerosOff NL := by
                              rw [← hzt, hdt]
                              unfold zerosOff
                              rw [List.dropWhile_cons, if_neg (by simpa using hc)]
                            have HZ2 := Lib.hid hz2
                            clear hzt hdt hc
                            by_cases hown : t.data.toList = [56,48]
                            · have hob : (t.toList == [56,48]) = true := by rw [str_beq]; exact decide_eq_true hown
                              have HOW := Lib.hid (hz2.symm.trans hown)
                              clear hown hz2
                              go_wp2_with fail
                              refine bodyPost_ret (url_ret Tryz.results91 _ _ _ HBL.out (.string a) (.string h) E0 (.string cl) (.string q) (.string f) (.bool true) rfl rfl) rfl ⟨resB_some (u := (N, lowL HL, if zerosOff NL = [56,48] then [] else zerosOff NL, cleanL (conv innerL true (PL.drop PC.length)), CQ, CF)) (by rw [HRM.out, if_pos ⟨⟨HD.out, by omega, by rw [HNM.out]; omega⟩, hl1, hl2, HAL.out⟩]) Ha.out Hh.out (by rw [if_pos HOW.out]) Hcl.out Hq.out Hf.out, hbH.set6 _ _ _ _ _ _⟩
                            · have hob : (t.toList == [56,48]) = false := by rw [str_beq]; exact decide_eq_false hown
                              have HOW := Lib.hid (fun e => hown (hz2.trans e) : zerosOff NL ≠ [56,48])
                              clear hown hz2
                              go_wp2_with fail
                              refine bodyPost_ret (url_ret Tryz.results91 _ _ _ (HBL.out.set ⟨K, 2, none⟩ (.string t)) (.string a) (.string h) (.string t) (.string cl) (.string q) (.string f) (.bool true) rfl rfl) rfl ⟨resB_some (u := (N, lowL HL, if zerosOff NL = [56,48] then [] else zerosOff NL, cleanL (conv innerL true (PL.drop PC.length)), CQ, CF)) (by rw [HRM.out, if_pos ⟨⟨HD.out, by omega, by rw [HNM.out]; omega⟩, hl1, hl2, HAL.out⟩]) Ha.out Hh.out (by rw [if_neg HOW.out]; exact HZ2.out) Hcl.out Hq.out Hf.out, (hbH.setCell (p := ⟨K, 2, none⟩) (by simp; omega) _).set6 _ _ _ _ _ _⟩
                    · go_wp2_with fail
                      refine bodyPost_ret (url_ret Tryz.results91 _ _ _ HBL.out E0 E0 E0 E0 E0 E0 (.bool false) rfl rfl) rfl ⟨resB_none (by rw [HRM.out, if_neg (fun hh => hn5 (by have := hh.1.2.2; rw [HNM.out] at this; exact this))]), hbH.set6 _ _ _ _ _ _⟩
            · have hnl := HNN.out hp
              have HNL := Lib.hid hnl
              clear hnl
              go_wp2_with fail
              refine bodyPost_ret (url_ret Tryz.results91 _ _ _ HBL.out (.string a) (.string h) E0 (.string cl) (.string q) (.string f) (.bool true) rfl rfl) rfl ⟨resB_some (u := (N, lowL HL, if zerosOff NL = [56,48] then [] else zerosOff NL, cleanL (conv innerL true (PL.drop PC.length)), CQ, CF)) (by rw [HRM.out, if_pos ⟨by rw [HNL.out]; decide, hl1, hl2, HAL.out⟩]) Ha.out Hh.out (by rw [HNL.out]; rfl) Hcl.out Hq.out Hf.out, hbH.set6 _ _ _ _ _ _⟩
      all_goals
        go_wp2_with fail
        refine bodyPost_ret (url_ret Tryz.results91 _ _ _ HBL.out E0 E0 E0 E0 E0 E0 (.bool false) rfl rfl) rfl ⟨resB_none (by rw [HRM.out, if_neg (by rintro ⟨h1, h2, h3, h4⟩; omega)]), hbH.set6 _ _ _ _ _ _⟩
end Go.Proofs.YtjdhaacmlpegoaaGreatDoor
