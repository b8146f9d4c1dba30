/- Cookies: the walk of cookie.Parse: a field that sets a cookie. -/
import Derived.Test.YtgjooigolgdocaaGreatDoorCG2
import Derived.Outline
import Derived.Deep.DeepCutAuto
import Derived.Deep.RegionHeld3
namespace Go.Proofs.YtgjooigolgdocaaGreatDoor
set_option linter.unusedVariables false
set_option linter.unusedSimpArgs false
open Go.RowKit

theorem MaxAt.keep {w w' : World} {B : Nat} (h : MaxAt w) (hb : Below B w w') (hB : 0 < B) : MaxAt w' := by
  obtain ⟨m, hm⟩ := h
  exact ⟨m, (hb.cell (p := ⟨0, 0, none⟩) hB).trans hm⟩
theorem MaxAt.lt {w : World} (h : MaxAt w) : 0 < w.heap.size := by
  obtain ⟨m, hm⟩ := h
  exact cell_lt hm
theorem bs_data (V : ByteArray) : bs V.data.toList = V := ba_ext' rfl
theorem step_is (h p : ByteArray) (now : Int) (c : Ck) (l : List UInt8) (L V : ByteArray) (hL : L.data.toList = lowL (trimC (pre 61 l))) (hV : V.data.toList = trimC (post 61 l)) : stepC h p now c l = attrC h p now c L.data.toList V.data.toList := by unfold stepC; rw [hL, hV]
theorem contains_is (s : ByteArray) (c : UInt8) (K : Bool) (hK : s.data.toList.contains c = K) (w : World) :
    Calls Tryz.prog 43 #[.string s, .string ⟨#[c]⟩] w fun e w' => e = .returned (.bool K) ∧ w = w' := by
  refine (Tryz.strings_Contains_one s c w).mono ?_
  rintro e w' ⟨rfl, h⟩
  refine ⟨ret_bool ?_, h.symm⟩
  rw [← hK, Lib.contains_iff_indexByte]
theorem domi_is (h d : ByteArray) (D : Bool) (hD : domL h.data.toList d.data.toList = D) (w : World) (hh : h.size ≤ 1000000) (hd : d.size ≤ 1000000) :
    Calls Tryz.prog 14 #[.string h, .string d] w fun e w' => e = .returned (.bool D) ∧ Below w.heap.size w w' := by
  have := dom_any h d w hh hd
  rwa [hD] at this
theorem bne_data (a b : ByteArray) : (a.toList != b.toList) = !decide (a.data.toList = b.data.toList) := by
  rw [ByteArray.toList_eq, ByteArray.toList_eq, Bool.eq_iff_iff]
  simp
theorem bne_list (a : ByteArray) (l : List UInt8) : (a.toList != l) = !decide (a.data.toList = l) := by
  rw [ByteArray.toList_eq, Bool.eq_iff_iff]
  simp
set_option maxRecDepth 20000 in
set_option maxHeartbeats 4000000 in
theorem cparse_main (s a b c d e f : ByteArray) (now : Int) (w : World) (hs : s.size ≤ 100000) (hz : USize 40000 a b c d e f) (hM : MaxAt w) (hT : takesB (u6 a b c d e f) = true)
    (q0 : ByteArray) (qs : List ByteArray) (hq : lists (q0 :: qs) = segs 59 s.data.toList) (hne : qs ≠ [])
    (CSp : Hid (∀ w, MaxAt w → Calls Tryz.prog 35 #[.string s, .string ⟨#[59]⟩] w fun e w' => e = .returned (.slice (some ⟨w.heap.size, 0, none⟩) (q0 :: qs).length (q0 :: qs).length) ∧ Below w.heap.size w w' ∧ w.heap.size < w'.heap.size ∧ w'.cell? ⟨w.heap.size, 0, none⟩ = some (.string q0) ∧ ∀ j (h : j < qs.length), w'.cell? ⟨w.heap.size, 1 + j, none⟩ = some (.string qs[j])))
    (hg1 : q0.data.toList.contains 61 = true) (hg2 : trimC (pre 61 q0.data.toList) ≠ []) (hg3 : ctlL s.data.toList = false)
    (R : Ck × Int) (hR : lastC b.data.toList a.data.toList ((lists qs).foldl (stepC b (bs (defpL d.data.toList)) now) (firstC b (bs (defpL d.data.toList)) q0.data.toList)) = R) :
    Calls Tryz.prog 12 #[.string s, urlA a b c d e f, .int .i64 now] w fun x w' => x = .returned (resC R) ∧ Below w.heap.size w w' := by
  have CT := Lib.hid (fun w hM => takes_is a b c d e f true hT w hz hM)
  have hsz := segs_sizes hq
  have hq0 := hsz.2 q0 (by simp)
  obtain ⟨N, hN⟩ : ∃ N : ByteArray, N = bs (trimC (pre 61 q0.data.toList)) := ⟨bs _, rfl⟩
  obtain ⟨V, hV⟩ : ∃ V : ByteArray, V = bs (trimC (post 61 q0.data.toList)) := ⟨bs _, rfl⟩
  have CP := Lib.hid (fun w hM => pair_is q0 N V true w (by omega) hM (by rw [hN]; rfl) (by rw [hV]; rfl) hg1)
  have CK := Lib.hid (fun w => control_is s false hg3 w)
  have hNE : N.toList.isEmpty = false := by
    rw [hN, trimC_nil_bs]; exact decide_eq_false hg2
  obtain ⟨dp, hdp⟩ : ∃ dp, bs (defpL d.data.toList) = dp := ⟨_, rfl⟩
  have cD := fun w => defp_is d w (by have := hz.d; omega)
  rw [hdp] at cD hR
  have CD := Lib.hid cD
  have hF : firstC b dp q0.data.toList = ⟨N, V, b, dp, true, false, false, -1, 0⟩ := by rw [hN, hV]; rfl
  rw [hF] at hR
  have HR := Lib.hid hR
  have hlen : qs.length ≤ 100000 := by have := hsz.1; simp at this; omega
  have hqz : ∀ p ∈ qs, p.size ≤ 100000 := fun p hp => by have := hsz.2 p (List.mem_cons_of_mem _ hp); omega
  have HQ := Lib.hid hqz
  have hnep : 0 < qs.length := List.length_pos_iff.2 hne
  have A0 := AtL.new w (urlL a b c d e f) 23
  have A1 := A0.alloc (.cells #[.string ⟨#[]⟩, .string ⟨#[]⟩, .string ⟨#[]⟩, .string ⟨#[]⟩, .bool false, .bool false, .bool false, .int .i64 0, .int .i64 0] 29)
  have R1 := AtL.new (w.alloc (.cells #[.string a, .string b, .string c, .string d, .string e, .string f] 23)) ck0V 29
  have hB1 : Below w.heap.size w ((w.alloc (.cells #[.string a, .string b, .string c, .string d, .string e, .string f] 23)).alloc (.cells #[.string ⟨#[]⟩, .string ⟨#[]⟩, .string ⟨#[]⟩, .string ⟨#[]⟩, .bool false, .bool false, .bool false, .int .i64 0, .int .i64 0] 29)) := ((Below.refl _ w).alloc (Nat.le_refl _) _).alloc (by simp) _
  have hM1 := hM.below hB1 (Nat.le_refl _)
  have hk1 : w.heap.size < ((w.alloc (.cells #[.string a, .string b, .string c, .string d, .string e, .string f] 23)).alloc (.cells #[.string ⟨#[]⟩, .string ⟨#[]⟩, .string ⟨#[]⟩, .string ⟨#[]⟩, .bool false, .bool false, .bool false, .int .i64 0, .int .i64 0] 29)).heap.size := (by simp; omega)
  rw [show (w.alloc (.cells #[.string a, .string b, .string c, .string d, .string e, .string f] 23)).heap.size = w.heap.size + 1 by simp] at R1
  clear hT hM hN hV hg1 hg2 hg3 hq hq0 hdp hF hR hsz cD hqz
  go_enter Tryz.func12, Tryz.ntmps12
  go_upto_region 7 with (first
    | (go_at_call 34; with_reducible refine (CT.out _ hM1).mono ?_; rintro x w1 ⟨rfl, hb1⟩; have hB2 := hB1.trans (hb1.mono hB1.size); have R2 := R1.next hb1; have A2 := A1.next hb1; have hM2 := hM1.below hb1 (Nat.le_refl _))
    | (go_at_call 35; with_reducible refine (CSp.out _ hM2).mono ?_; rintro x w2 ⟨rfl, hb2, hg2, hp0, hps⟩; have hB3 := hB2.trans (hb2.mono hB2.size); have R3 := R2.next hb2; have A3 := A2.next hb2; have hM3 := hM2.below hb2 (Nat.le_refl _); have HPS := Lib.hid hps; clear hps)
    | (go_at_call 36; with_reducible refine (CP.out _ hM3).mono ?_; rintro x w3 ⟨rfl, hb3⟩; have hB4 := hB3.trans (hb3.mono hB3.size); have R4 := R3.next hb3; have A4 := A3.next hb3; have hM4 := hM3.below hb3 (Nat.le_refl _))
    | (go_at_call 37; with_reducible refine (CK.out _).mono ?_; rintro x w4 ⟨rfl, hb4⟩; have hB5 := hB4.trans (hb4.mono hB4.size); have R5 := R4.next hb4; have A5 := A4.next hb4; have hM5 := hM4.below hb4 (Nat.le_refl _); have u1 := A5.c 1 rfl; have u3 := A5.c 3 rfl))
  have hz4 : w4.heap.size = w4.heap.size := rfl
  go_cut [12] (fun p12 wx => ∃ K, p12 = .pointer (some ⟨K, 0, none⟩) ∧ w4.heap.size ≤ K ∧ AtL wx K (ckL ⟨N, V, b, dp, true, false, false, -1, 0⟩) ∧ Below w4.heap.size w4 wx)
  case first =>
    clear HPS A0 A1 A2 A3 A4 R1 R2 R3 R4
    go_region_held3 (fun w' => w'.cell? ⟨w.heap.size, 1, none⟩ = some (.string b) ∧ w'.cell? ⟨w.heap.size, 3, none⟩ = some (.string d)) (go_keep) (first | (go_at_call 18; with_reducible refine (CD.out _).mono ?_; rintro x w5 ⟨rfl, rfl⟩))
    all_goals
      go_wp2_with fail
      go_meet
      exact ⟨w4.heap.size, rfl, Nat.le_refl _, (AtL.new w4 (ckL ⟨N, V, b, dp, true, false, false, -1, 0⟩) 29).drew, ((Below.refl _ w4).alloc (Nat.le_refl _) _).drew⟩
  case rest =>
    obtain ⟨K, rfl, hK, AK, hBK⟩ := hcut
    have A6 := A5.below hBK A5.lt
    have R6 := R5.below hBK R5.lt
    have hM6 := hM5.below hBK (Nat.le_refl _)
    have hB6 := hB5.trans (hBK.mono hB5.size)
    have hUK : w.heap.size < K := Nat.lt_of_lt_of_le A5.lt hK
    have hRK : w.heap.size + 1 < K := Nat.lt_of_lt_of_le R5.lt hK
    have hPK : w1.heap.size < K := (by have := hb3.size; have := hb4.size; omega)
    have hGK : 0 < K := Nat.lt_of_lt_of_le hM5.lt hK
    have hBp : Below w2.heap.size w2 wc := (hb3.trans (hb4.mono hb3.size)).trans (hBK.mono (by have := hb3.size; have := hb4.size; omega))
    have HC := Lib.hid (fun j (h : j < qs.length) => (hBp.cell (p := ⟨w1.heap.size, 1 + j, none⟩) hg2).trans (HPS.out j h))
    have hM5' := Lib.hid hM5
    have hnel : 1 < qs.length + 1 := by omega
    clear A0 A1 A2 A3 A4 A5 R1 R2 R3 R4 R5 hM1 hM2 hM3 hM4 hb1 hb2 hb3 hb4 hBp HPS CT CSp CP CK u1 u3 hp0 hB1 hB2 hB3 hB4 hz4
    go_wp2_with fail
    go_loopw [56] (fun iv wr => ∃ (k : Nat) (c : Ck), k ≤ qs.length ∧ iv = .int .i64 k ∧ AtL wr K (ckL c) ∧ Below K wc wr ∧ c.d.size ≤ 200000 ∧ lastC b.data.toList a.data.toList ((lists (qs.drop k)).foldl (stepC b dp now) c) = R) (fun iv _ => qs.length - (intOf iv).toNat)
    case atStart => exact ⟨0, _, Nat.zero_le _, rfl, AK, Below.refl _ _, by have := hz.b; show b.size ≤ _; omega, HR.out⟩
    case round =>
      obtain ⟨k, c, hk, rfl, AK7, hbw, hcd, hf⟩ := hrel
      have A7 := A6.below hbw hUK
      have R7 := R6.below hbw hRK
      by_cases hlt : k < qs.length
      · clear R6 HR AK
        have c0 := (hbw.cell (p := ⟨w1.heap.size, 1 + k, none⟩) hPK).trans (HC.out k hlt)
        have hqk := HQ.out qs[k] (List.getElem_mem hlt)
        rw [List.drop_eq_getElem_cons hlt, show lists (qs[k] :: qs.drop (k + 1)) = qs[k].data.toList :: lists (qs.drop (k + 1)) from rfl, List.foldl_cons] at hf
        obtain ⟨p, hp⟩ : ∃ p, qs[k] = p := ⟨_, rfl⟩
        rw [hp] at c0 hqk hf
        obtain ⟨NN, hNN⟩ : ∃ N : ByteArray, N.data.toList = trimC (pre 61 p.data.toList) := ⟨bs _, rfl⟩
        obtain ⟨VV, hVV⟩ : ∃ V : ByteArray, V.data.toList = trimC (post 61 p.data.toList) := ⟨bs _, rfl⟩
        obtain ⟨FF, hFF⟩ : ∃ F, p.data.toList.contains 61 = F := ⟨_, rfl⟩
        obtain ⟨LL, hLL⟩ : ∃ L : ByteArray, L.data.toList = lowL NN.data.toList := ⟨bs _, rfl⟩
        have hNs : NN.size ≤ 100000 := by rw [← size_len, hNN]; have h1 := trimC_len (pre 61 p.data.toList); have h2 := pre_len' 61 p.data.toList; rw [size_len] at h2; omega
        have hVs : VV.size ≤ 100000 := by rw [← size_len, hVV]; have h1 := trimC_len (post 61 p.data.toList); have h2 := post_len' 61 p.data.toList; rw [size_len] at h2; omega
        have CPr := Lib.hid (fun w hM => pair_is p NN VV FF w (by omega) hM hNN hVV hFF)
        have CL1 := Lib.hid (fun w => lowc_is NN LL hLL w (by omega))
        rw [step_is b dp now c p.data.toList LL VV (hLL.trans (by rw [hNN])) hVV] at hf
        have hM7 := hM6.keep hbw hGK
        have hKw : K ≤ wr.heap.size := Nat.le_of_lt AK7.lt
        have hki : (k : Int) < (qs.length : Int) := by omega
        clear hp hNN hVV hFF hLL R7 A7
        rcases kind_cases LL with ⟨g1, e⟩ | ⟨g1, g2, e⟩ | ⟨g1, g2, g3, e⟩ | ⟨g1, g2, g3, g4, e⟩ | ⟨g1, g2, g3, g4, g5, e⟩ | ⟨g1, g2, g3, g4, g5, n1, n2, n3, n4, n5⟩
        · rw [e] at hf
          cases hag : ageL VV.data.toList with
          | none =>
            rw [attr_max0 _ _ _ _ _ hag] at hf
            have CA := Lib.hid (fun w => cage_is VV none hag w (by omega))
            have HF := Lib.hid hf
            clear hf e hag
            go_wp2_with (first
              | (go_at_call 36; with_reducible refine (CPr.out _ hM7).mono ?_; rintro x v5 ⟨rfl, hv5⟩; have B5 := hbw.trans (hv5.mono hKw); have K5 := AK7.next hv5; have z0 := K5.c 0 rfl; have z1 := K5.c 1 rfl; have z2 := K5.c 2 rfl; have z3 := K5.c 3 rfl; have z4 := K5.c 4 rfl; have z5 := K5.c 5 rfl; have z6 := K5.c 6 rfl; have z7 := K5.c 7 rfl; have z8 := K5.c 8 rfl; have y0 := K5.f 0 rfl; have y1 := K5.f 1 rfl; have y2 := K5.f 2 rfl; have y3 := K5.f 3 rfl; have y4 := K5.f 4 rfl; have y5 := K5.f 5 rfl; have y6 := K5.f 6 rfl; have y7 := K5.f 7 rfl; have y8 := K5.f 8 rfl; have k5 := K5.lt)
              | (go_at_call 38; with_reducible refine (CL1.out _).mono ?_; rintro x v6 ⟨rfl, hv6⟩; have B6 := B5.trans (hv6.mono (Nat.le_of_lt k5)); have K6 := K5.next hv6; have z0 := K6.c 0 rfl; have z1 := K6.c 1 rfl; have z2 := K6.c 2 rfl; have z3 := K6.c 3 rfl; have z4 := K6.c 4 rfl; have z5 := K6.c 5 rfl; have z6 := K6.c 6 rfl; have z7 := K6.c 7 rfl; have z8 := K6.c 8 rfl; have y0 := K6.f 0 rfl; have y1 := K6.f 1 rfl; have y2 := K6.f 2 rfl; have y3 := K6.f 3 rfl; have y4 := K6.f 4 rfl; have y5 := K6.f 5 rfl; have y6 := K6.f 6 rfl; have y7 := K6.f 7 rfl; have y8 := K6.f 8 rfl; have k6 := K6.lt; have U6 := A6.below B6 hUK; have u1 := U6.c 1 rfl; have u3 := U6.c 3 rfl)
              | (go_at_call 39; with_reducible refine (CA.out _).mono ?_; rintro x v7 ⟨rfl, hv7⟩; have B7 := B6.trans (hv7.mono (Nat.le_of_lt k6)); have K7 := K6.next hv7; have z0 := K7.c 0 rfl; have z1 := K7.c 1 rfl; have z2 := K7.c 2 rfl; have z3 := K7.c 3 rfl; have z4 := K7.c 4 rfl; have z5 := K7.c 5 rfl; have z6 := K7.c 6 rfl; have z7 := K7.c 7 rfl; have z8 := K7.c 8 rfl; have y0 := K7.f 0 rfl; have y1 := K7.f 1 rfl; have y2 := K7.f 2 rfl; have y3 := K7.f 3 rfl; have y4 := K7.f 4 rfl; have y5 := K7.f 5 rfl; have y6 := K7.f 6 rfl; have y7 := K7.f 7 rfl; have y8 := K7.f 8 rfl; have k7 := K7.lt))
            go_roundw
            case rel => exact ⟨k + 1, c, by omega, by go_num, K7, B7, hcd, HF.out⟩
            case measure => simp [intOf]; omega
          | some n =>
            rw [attr_max _ _ _ _ _ n hag] at hf
            have hnb := ageL_bd _ _ hag
            have CA := Lib.hid (fun w => cage_is VV (some n) hag w (by omega))
            have hcb := clock_bd now
            have cK := fun w => clock_any now w
            obtain ⟨Cn, hCn⟩ : ∃ Cn, clockI now = Cn := ⟨_, rfl⟩
            rw [hCn] at cK hcb hf
            have CKl := Lib.hid cK
            have HF := Lib.hid hf
            clear hf e hag hCn cK
            obtain ⟨hn1, hn2⟩ := hnb
            obtain ⟨hc1, hc2⟩ := hcb
            go_wp2_with (first
              | (go_at_call 36; with_reducible refine (CPr.out _ hM7).mono ?_; rintro x v5 ⟨rfl, hv5⟩; have B5 := hbw.trans (hv5.mono hKw); have K5 := AK7.next hv5; have z0 := K5.c 0 rfl; have z1 := K5.c 1 rfl; have z2 := K5.c 2 rfl; have z3 := K5.c 3 rfl; have z4 := K5.c 4 rfl; have z5 := K5.c 5 rfl; have z6 := K5.c 6 rfl; have z7 := K5.c 7 rfl; have z8 := K5.c 8 rfl; have y0 := K5.f 0 rfl; have y1 := K5.f 1 rfl; have y2 := K5.f 2 rfl; have y3 := K5.f 3 rfl; have y4 := K5.f 4 rfl; have y5 := K5.f 5 rfl; have y6 := K5.f 6 rfl; have y7 := K5.f 7 rfl; have y8 := K5.f 8 rfl; have k5 := K5.lt)
              | (go_at_call 38; with_reducible refine (CL1.out _).mono ?_; rintro x v6 ⟨rfl, hv6⟩; have B6 := B5.trans (hv6.mono (Nat.le_of_lt k5)); have K6 := K5.next hv6; have z0 := K6.c 0 rfl; have z1 := K6.c 1 rfl; have z2 := K6.c 2 rfl; have z3 := K6.c 3 rfl; have z4 := K6.c 4 rfl; have z5 := K6.c 5 rfl; have z6 := K6.c 6 rfl; have z7 := K6.c 7 rfl; have z8 := K6.c 8 rfl; have y0 := K6.f 0 rfl; have y1 := K6.f 1 rfl; have y2 := K6.f 2 rfl; have y3 := K6.f 3 rfl; have y4 := K6.f 4 rfl; have y5 := K6.f 5 rfl; have y6 := K6.f 6 rfl; have y7 := K6.f 7 rfl; have y8 := K6.f 8 rfl; have k6 := K6.lt; have U6 := A6.below B6 hUK; have u1 := U6.c 1 rfl; have u3 := U6.c 3 rfl)
              | (go_at_call 39; with_reducible refine (CA.out _).mono ?_; rintro x v7 ⟨rfl, hv7⟩; have B7 := B6.trans (hv7.mono (Nat.le_of_lt k6)); have K7 := K6.next hv7; have z0 := K7.c 0 rfl; have z1 := K7.c 1 rfl; have z2 := K7.c 2 rfl; have z3 := K7.c 3 rfl; have z4 := K7.c 4 rfl; have z5 := K7.c 5 rfl; have z6 := K7.c 6 rfl; have z7 := K7.c 7 rfl; have z8 := K7.c 8 rfl; have y0 := K7.f 0 rfl; have y1 := K7.f 1 rfl; have y2 := K7.f 2 rfl; have y3 := K7.f 3 rfl; have y4 := K7.f 4 rfl; have y5 := K7.f 5 rfl; have y6 := K7.f 6 rfl; have y7 := K7.f 7 rfl; have y8 := K7.f 8 rfl; have k7 := K7.lt)
              | (go_at_call 40; with_reducible refine (CKl.out _).mono ?_; rintro x v8 ⟨rfl, rfl⟩))
            go_roundw
            case rel => exact ⟨k + 1, { c with ex := Cn + n * 1000 }, by omega, by go_num, K7.set 7 _, B7.setCell (Nat.le_refl K) _, hcd, HF.out⟩
            case measure => simp [intOf]; omega
        · rw [e, attr_dom] at hf
          obtain ⟨TT, hTT⟩ : ∃ T : ByteArray, T.data.toList = undot VV.data.toList := ⟨bs _, rfl⟩
          obtain ⟨L2, hL2⟩ : ∃ L : ByteArray, L = bs (lowL (undot VV.data.toList)) := ⟨_, rfl⟩
          have hTs : TT.size ≤ 100000 := by rw [← size_len, hTT]; have h1 := undot_len VV.data.toList; rw [size_len] at h1; omega
          have hLs : L2.size ≤ 200000 := by rw [hL2, bs_size, low_len, ← hTT, size_len]; omega
          have CTp := Lib.hid (fun w => trimpre_is VV TT hTT w)
          have CL2 := Lib.hid (fun w => lowc_is TT L2 (by rw [hL2, hTT]; rfl) w (by omega))
          have hE2 : L2.toList.isEmpty = decide (lowL (undot VV.data.toList) = []) := by
            rw [ByteArray.toList_eq, hL2, bs_list]
            cases lowL (undot VV.data.toList) with
            | nil => rfl
            | cons b r => simp
          rw [← hL2] at hf
          by_cases hd0 : lowL (undot VV.data.toList) = []
          · rw [if_pos hd0] at hf
            rw [decide_eq_true hd0] at hE2
            have HF := Lib.hid hf
            clear hf e hd0 hL2 hTT
            go_wp2_with (first
              | (go_at_call 36; with_reducible refine (CPr.out _ hM7).mono ?_; rintro x v5 ⟨rfl, hv5⟩; have B5 := hbw.trans (hv5.mono hKw); have K5 := AK7.next hv5; have z0 := K5.c 0 rfl; have z1 := K5.c 1 rfl; have z2 := K5.c 2 rfl; have z3 := K5.c 3 rfl; have z4 := K5.c 4 rfl; have z5 := K5.c 5 rfl; have z6 := K5.c 6 rfl; have z7 := K5.c 7 rfl; have z8 := K5.c 8 rfl; have y0 := K5.f 0 rfl; have y1 := K5.f 1 rfl; have y2 := K5.f 2 rfl; have y3 := K5.f 3 rfl; have y4 := K5.f 4 rfl; have y5 := K5.f 5 rfl; have y6 := K5.f 6 rfl; have y7 := K5.f 7 rfl; have y8 := K5.f 8 rfl; have k5 := K5.lt)
              | (go_at_call 38; with_reducible refine (CL1.out _).mono ?_; rintro x v6 ⟨rfl, hv6⟩; have B6 := B5.trans (hv6.mono (Nat.le_of_lt k5)); have K6 := K5.next hv6; have z0 := K6.c 0 rfl; have z1 := K6.c 1 rfl; have z2 := K6.c 2 rfl; have z3 := K6.c 3 rfl; have z4 := K6.c 4 rfl; have z5 := K6.c 5 rfl; have z6 := K6.c 6 rfl; have z7 := K6.c 7 rfl; have z8 := K6.c 8 rfl; have y0 := K6.f 0 rfl; have y1 := K6.f 1 rfl; have y2 := K6.f 2 rfl; have y3 := K6.f 3 rfl; have y4 := K6.f 4 rfl; have y5 := K6.f 5 rfl; have y6 := K6.f 6 rfl; have y7 := K6.f 7 rfl; have y8 := K6.f 8 rfl; have k6 := K6.lt; have U6 := A6.below B6 hUK; have u1 := U6.c 1 rfl; have u3 := U6.c 3 rfl)
              | (go_at_call 41; with_reducible refine (CTp.out _).mono ?_; rintro x v7 ⟨rfl, rfl⟩)
              | (go_at_call 38; with_reducible refine (CL2.out _).mono ?_; rintro x v7 ⟨rfl, hv7⟩; have B7 := B6.trans (hv7.mono (Nat.le_of_lt k6)); have K7 := K6.next hv7; have z0 := K7.c 0 rfl; have z1 := K7.c 1 rfl; have z2 := K7.c 2 rfl; have z3 := K7.c 3 rfl; have z4 := K7.c 4 rfl; have z5 := K7.c 5 rfl; have z6 := K7.c 6 rfl; have z7 := K7.c 7 rfl; have z8 := K7.c 8 rfl; have y0 := K7.f 0 rfl; have y1 := K7.f 1 rfl; have y2 := K7.f 2 rfl; have y3 := K7.f 3 rfl; have y4 := K7.f 4 rfl; have y5 := K7.f 5 rfl; have y6 := K7.f 6 rfl; have y7 := K7.f 7 rfl; have y8 := K7.f 8 rfl; have k7 := K7.lt; have U7 := A6.below B7 hUK; have u1 := U7.c 1 rfl; have u3 := U7.c 3 rfl))
            go_roundw
            case rel => exact ⟨k + 1, { c with d := b, ho := true }, by omega, by go_num, ((K7.set 2 _).set 4 _).set 2 _, ((B7.setCell (Nat.le_refl K) _).setCell (Nat.le_refl K) _).setCell (Nat.le_refl K) _, by have := hz.b; show b.size ≤ _; omega, HF.out⟩
            case measure => simp [intOf]; omega
          · rw [if_neg hd0] at hf
            rw [decide_eq_false hd0] at hE2
            have HF := Lib.hid hf
            clear hf e hd0 hL2 hTT
            go_wp2_with (first
              | (go_at_call 36; with_reducible refine (CPr.out _ hM7).mono ?_; rintro x v5 ⟨rfl, hv5⟩; have B5 := hbw.trans (hv5.mono hKw); have K5 := AK7.next hv5; have z0 := K5.c 0 rfl; have z1 := K5.c 1 rfl; have z2 := K5.c 2 rfl; have z3 := K5.c 3 rfl; have z4 := K5.c 4 rfl; have z5 := K5.c 5 rfl; have z6 := K5.c 6 rfl; have z7 := K5.c 7 rfl; have z8 := K5.c 8 rfl; have y0 := K5.f 0 rfl; have y1 := K5.f 1 rfl; have y2 := K5.f 2 rfl; have y3 := K5.f 3 rfl; have y4 := K5.f 4 rfl; have y5 := K5.f 5 rfl; have y6 := K5.f 6 rfl; have y7 := K5.f 7 rfl; have y8 := K5.f 8 rfl; have k5 := K5.lt)
              | (go_at_call 38; with_reducible refine (CL1.out _).mono ?_; rintro x v6 ⟨rfl, hv6⟩; have B6 := B5.trans (hv6.mono (Nat.le_of_lt k5)); have K6 := K5.next hv6; have z0 := K6.c 0 rfl; have z1 := K6.c 1 rfl; have z2 := K6.c 2 rfl; have z3 := K6.c 3 rfl; have z4 := K6.c 4 rfl; have z5 := K6.c 5 rfl; have z6 := K6.c 6 rfl; have z7 := K6.c 7 rfl; have z8 := K6.c 8 rfl; have y0 := K6.f 0 rfl; have y1 := K6.f 1 rfl; have y2 := K6.f 2 rfl; have y3 := K6.f 3 rfl; have y4 := K6.f 4 rfl; have y5 := K6.f 5 rfl; have y6 := K6.f 6 rfl; have y7 := K6.f 7 rfl; have y8 := K6.f 8 rfl; have k6 := K6.lt; have U6 := A6.below B6 hUK; have u1 := U6.c 1 rfl; have u3 := U6.c 3 rfl)
              | (go_at_call 41; with_reducible refine (CTp.out _).mono ?_; rintro x v7 ⟨rfl, rfl⟩)
              | (go_at_call 38; with_reducible refine (CL2.out _).mono ?_; rintro x v7 ⟨rfl, hv7⟩; have B7 := B6.trans (hv7.mono (Nat.le_of_lt k6)); have K7 := K6.next hv7; have z0 := K7.c 0 rfl; have z1 := K7.c 1 rfl; have z2 := K7.c 2 rfl; have z3 := K7.c 3 rfl; have z4 := K7.c 4 rfl; have z5 := K7.c 5 rfl; have z6 := K7.c 6 rfl; have z7 := K7.c 7 rfl; have z8 := K7.c 8 rfl; have y0 := K7.f 0 rfl; have y1 := K7.f 1 rfl; have y2 := K7.f 2 rfl; have y3 := K7.f 3 rfl; have y4 := K7.f 4 rfl; have y5 := K7.f 5 rfl; have y6 := K7.f 6 rfl; have y7 := K7.f 7 rfl; have y8 := K7.f 8 rfl; have k7 := K7.lt; have U7 := A6.below B7 hUK; have u1 := U7.c 1 rfl; have u3 := U7.c 3 rfl))
            go_roundw
            case rel => exact ⟨k + 1, { c with d := L2, ho := false }, by omega, by go_num, (K7.set 2 _).set 4 _, (B7.setCell (Nat.le_refl K) _).setCell (Nat.le_refl K) _, hLs, HF.out⟩
            case measure => simp [intOf]; omega
        · rw [e, attr_path, bs_data] at hf
          obtain ⟨H, hH⟩ : ∃ H, Lib.hasPrefix VV.data.toList [47] = H := ⟨_, rfl⟩
          have CHp := Lib.hid (fun w => hasp_is VV H hH w)
          rw [hH] at hf
          cases H
          · rw [if_neg Bool.false_ne_true] at hf
            have HF := Lib.hid hf
            clear hf e hH
            go_wp2_with (first
              | (go_at_call 36; with_reducible refine (CPr.out _ hM7).mono ?_; rintro x v5 ⟨rfl, hv5⟩; have B5 := hbw.trans (hv5.mono hKw); have K5 := AK7.next hv5; have z0 := K5.c 0 rfl; have z1 := K5.c 1 rfl; have z2 := K5.c 2 rfl; have z3 := K5.c 3 rfl; have z4 := K5.c 4 rfl; have z5 := K5.c 5 rfl; have z6 := K5.c 6 rfl; have z7 := K5.c 7 rfl; have z8 := K5.c 8 rfl; have y0 := K5.f 0 rfl; have y1 := K5.f 1 rfl; have y2 := K5.f 2 rfl; have y3 := K5.f 3 rfl; have y4 := K5.f 4 rfl; have y5 := K5.f 5 rfl; have y6 := K5.f 6 rfl; have y7 := K5.f 7 rfl; have y8 := K5.f 8 rfl; have k5 := K5.lt)
              | (go_at_call 38; with_reducible refine (CL1.out _).mono ?_; rintro x v6 ⟨rfl, hv6⟩; have B6 := B5.trans (hv6.mono (Nat.le_of_lt k5)); have K6 := K5.next hv6; have z0 := K6.c 0 rfl; have z1 := K6.c 1 rfl; have z2 := K6.c 2 rfl; have z3 := K6.c 3 rfl; have z4 := K6.c 4 rfl; have z5 := K6.c 5 rfl; have z6 := K6.c 6 rfl; have z7 := K6.c 7 rfl; have z8 := K6.c 8 rfl; have y0 := K6.f 0 rfl; have y1 := K6.f 1 rfl; have y2 := K6.f 2 rfl; have y3 := K6.f 3 rfl; have y4 := K6.f 4 rfl; have y5 := K6.f 5 rfl; have y6 := K6.f 6 rfl; have y7 := K6.f 7 rfl; have y8 := K6.f 8 rfl; have k6 := K6.lt; have U6 := A6.below B6 hUK; have u1 := U6.c 1 rfl; have u3 := U6.c 3 rfl)
              | (go_at_call 18; with_reducible refine (CD.out _).mono ?_; rintro x v7 ⟨rfl, rfl⟩)
              | (go_at_call 42; with_reducible refine (CHp.out _).mono ?_; rintro x v8 ⟨rfl, rfl⟩))
            go_roundw
            case rel => exact ⟨k + 1, { c with p := dp }, by omega, by go_num, K6.set 3 _, B6.setCell (Nat.le_refl K) _, hcd, HF.out⟩
            case measure => simp [intOf]; omega
          · rw [if_pos rfl] at hf
            have HF := Lib.hid hf
            clear hf e hH
            go_wp2_with (first
              | (go_at_call 36; with_reducible refine (CPr.out _ hM7).mono ?_; rintro x v5 ⟨rfl, hv5⟩; have B5 := hbw.trans (hv5.mono hKw); have K5 := AK7.next hv5; have z0 := K5.c 0 rfl; have z1 := K5.c 1 rfl; have z2 := K5.c 2 rfl; have z3 := K5.c 3 rfl; have z4 := K5.c 4 rfl; have z5 := K5.c 5 rfl; have z6 := K5.c 6 rfl; have z7 := K5.c 7 rfl; have z8 := K5.c 8 rfl; have y0 := K5.f 0 rfl; have y1 := K5.f 1 rfl; have y2 := K5.f 2 rfl; have y3 := K5.f 3 rfl; have y4 := K5.f 4 rfl; have y5 := K5.f 5 rfl; have y6 := K5.f 6 rfl; have y7 := K5.f 7 rfl; have y8 := K5.f 8 rfl; have k5 := K5.lt)
              | (go_at_call 38; with_reducible refine (CL1.out _).mono ?_; rintro x v6 ⟨rfl, hv6⟩; have B6 := B5.trans (hv6.mono (Nat.le_of_lt k5)); have K6 := K5.next hv6; have z0 := K6.c 0 rfl; have z1 := K6.c 1 rfl; have z2 := K6.c 2 rfl; have z3 := K6.c 3 rfl; have z4 := K6.c 4 rfl; have z5 := K6.c 5 rfl; have z6 := K6.c 6 rfl; have z7 := K6.c 7 rfl; have z8 := K6.c 8 rfl; have y0 := K6.f 0 rfl; have y1 := K6.f 1 rfl; have y2 := K6.f 2 rfl; have y3 := K6.f 3 rfl; have y4 := K6.f 4 rfl; have y5 := K6.f 5 rfl; have y6 := K6.f 6 rfl; have y7 := K6.f 7 rfl; have y8 := K6.f 8 rfl; have k6 := K6.lt; have U6 := A6.below B6 hUK; have u1 := U6.c 1 rfl; have u3 := U6.c 3 rfl)
              | (go_at_call 18; with_reducible refine (CD.out _).mono ?_; rintro x v7 ⟨rfl, rfl⟩)
              | (go_at_call 42; with_reducible refine (CHp.out _).mono ?_; rintro x v8 ⟨rfl, rfl⟩))
            go_roundw
            case rel => exact ⟨k + 1, { c with p := VV }, by omega, by go_num, (K6.set 3 _).set 3 _, (B6.setCell (Nat.le_refl K) _).setCell (Nat.le_refl K) _, hcd, HF.out⟩
            case measure => simp [intOf]; omega
        · rw [e, attr_sec] at hf
          have HF := Lib.hid hf
          clear hf e
          go_wp2_with (first
            | (go_at_call 36; with_reducible refine (CPr.out _ hM7).mono ?_; rintro x v5 ⟨rfl, hv5⟩; have B5 := hbw.trans (hv5.mono hKw); have K5 := AK7.next hv5; have z0 := K5.c 0 rfl; have z1 := K5.c 1 rfl; have z2 := K5.c 2 rfl; have z3 := K5.c 3 rfl; have z4 := K5.c 4 rfl; have z5 := K5.c 5 rfl; have z6 := K5.c 6 rfl; have z7 := K5.c 7 rfl; have z8 := K5.c 8 rfl; have y0 := K5.f 0 rfl; have y1 := K5.f 1 rfl; have y2 := K5.f 2 rfl; have y3 := K5.f 3 rfl; have y4 := K5.f 4 rfl; have y5 := K5.f 5 rfl; have y6 := K5.f 6 rfl; have y7 := K5.f 7 rfl; have y8 := K5.f 8 rfl; have k5 := K5.lt)
            | (go_at_call 38; with_reducible refine (CL1.out _).mono ?_; rintro x v6 ⟨rfl, hv6⟩; have B6 := B5.trans (hv6.mono (Nat.le_of_lt k5)); have K6 := K5.next hv6; have z0 := K6.c 0 rfl; have z1 := K6.c 1 rfl; have z2 := K6.c 2 rfl; have z3 := K6.c 3 rfl; have z4 := K6.c 4 rfl; have z5 := K6.c 5 rfl; have z6 := K6.c 6 rfl; have z7 := K6.c 7 rfl; have z8 := K6.c 8 rfl; have y0 := K6.f 0 rfl; have y1 := K6.f 1 rfl; have y2 := K6.f 2 rfl; have y3 := K6.f 3 rfl; have y4 := K6.f 4 rfl; have y5 := K6.f 5 rfl; have y6 := K6.f 6 rfl; have y7 := K6.f 7 rfl; have y8 := K6.f 8 rfl; have k6 := K6.lt; have U6 := A6.below B6 hUK; have u1 := U6.c 1 rfl; have u3 := U6.c 3 rfl))
          go_roundw
          case rel => exact ⟨k + 1, { c with se := true }, by omega, by go_num, K6.set 5 _, B6.setCell (Nat.le_refl K) _, hcd, HF.out⟩
          case measure => simp [intOf]; omega
        · rw [e, attr_hid] at hf
          have HF := Lib.hid hf
          clear hf e
          go_wp2_with (first
            | (go_at_call 36; with_reducible refine (CPr.out _ hM7).mono ?_; rintro x v5 ⟨rfl, hv5⟩; have B5 := hbw.trans (hv5.mono hKw); have K5 := AK7.next hv5; have z0 := K5.c 0 rfl; have z1 := K5.c 1 rfl; have z2 := K5.c 2 rfl; have z3 := K5.c 3 rfl; have z4 := K5.c 4 rfl; have z5 := K5.c 5 rfl; have z6 := K5.c 6 rfl; have z7 := K5.c 7 rfl; have z8 := K5.c 8 rfl; have y0 := K5.f 0 rfl; have y1 := K5.f 1 rfl; have y2 := K5.f 2 rfl; have y3 := K5.f 3 rfl; have y4 := K5.f 4 rfl; have y5 := K5.f 5 rfl; have y6 := K5.f 6 rfl; have y7 := K5.f 7 rfl; have y8 := K5.f 8 rfl; have k5 := K5.lt)
            | (go_at_call 38; with_reducible refine (CL1.out _).mono ?_; rintro x v6 ⟨rfl, hv6⟩; have B6 := B5.trans (hv6.mono (Nat.le_of_lt k5)); have K6 := K5.next hv6; have z0 := K6.c 0 rfl; have z1 := K6.c 1 rfl; have z2 := K6.c 2 rfl; have z3 := K6.c 3 rfl; have z4 := K6.c 4 rfl; have z5 := K6.c 5 rfl; have z6 := K6.c 6 rfl; have z7 := K6.c 7 rfl; have z8 := K6.c 8 rfl; have y0 := K6.f 0 rfl; have y1 := K6.f 1 rfl; have y2 := K6.f 2 rfl; have y3 := K6.f 3 rfl; have y4 := K6.f 4 rfl; have y5 := K6.f 5 rfl; have y6 := K6.f 6 rfl; have y7 := K6.f 7 rfl; have y8 := K6.f 8 rfl; have k6 := K6.lt; have U6 := A6.below B6 hUK; have u1 := U6.c 1 rfl; have u3 := U6.c 3 rfl))
          go_roundw
          case rel => exact ⟨k + 1, { c with hi := true }, by omega, by go_num, K6.set 6 _, B6.setCell (Nat.le_refl K) _, hcd, HF.out⟩
          case measure => simp [intOf]; omega
        · rw [attr_no _ _ _ _ _ _ n1 n2 n3 n4 n5] at hf
          have HF := Lib.hid hf
          clear hf n1 n2 n3 n4 n5
          go_wp2_with (first
            | (go_at_call 36; with_reducible refine (CPr.out _ hM7).mono ?_; rintro x v5 ⟨rfl, hv5⟩; have B5 := hbw.trans (hv5.mono hKw); have K5 := AK7.next hv5; have z0 := K5.c 0 rfl; have z1 := K5.c 1 rfl; have z2 := K5.c 2 rfl; have z3 := K5.c 3 rfl; have z4 := K5.c 4 rfl; have z5 := K5.c 5 rfl; have z6 := K5.c 6 rfl; have z7 := K5.c 7 rfl; have z8 := K5.c 8 rfl; have y0 := K5.f 0 rfl; have y1 := K5.f 1 rfl; have y2 := K5.f 2 rfl; have y3 := K5.f 3 rfl; have y4 := K5.f 4 rfl; have y5 := K5.f 5 rfl; have y6 := K5.f 6 rfl; have y7 := K5.f 7 rfl; have y8 := K5.f 8 rfl; have k5 := K5.lt)
            | (go_at_call 38; with_reducible refine (CL1.out _).mono ?_; rintro x v6 ⟨rfl, hv6⟩; have B6 := B5.trans (hv6.mono (Nat.le_of_lt k5)); have K6 := K5.next hv6; have z0 := K6.c 0 rfl; have z1 := K6.c 1 rfl; have z2 := K6.c 2 rfl; have z3 := K6.c 3 rfl; have z4 := K6.c 4 rfl; have z5 := K6.c 5 rfl; have z6 := K6.c 6 rfl; have z7 := K6.c 7 rfl; have z8 := K6.c 8 rfl; have y0 := K6.f 0 rfl; have y1 := K6.f 1 rfl; have y2 := K6.f 2 rfl; have y3 := K6.f 3 rfl; have y4 := K6.f 4 rfl; have y5 := K6.f 5 rfl; have y6 := K6.f 6 rfl; have y7 := K6.f 7 rfl; have y8 := K6.f 8 rfl; have k6 := K6.lt; have U6 := A6.below B6 hUK; have u1 := U6.c 1 rfl; have u3 := U6.c 3 rfl))
          go_roundw
          case rel => exact ⟨k + 1, c, by omega, by go_num, K6, B6, hcd, HF.out⟩
          case measure => simp [intOf]; omega
      · obtain rfl : k = qs.length := by omega
        rw [List.drop_length] at hf
        have hf : lastC b.data.toList a.data.toList c = R := hf
        have hB7 : Below w.heap.size w wr := hB6.trans (hbw.mono (Nat.le_of_lt hUK))
        clear AK A6 R6 HC HR HQ CD
        obtain ⟨cn, cv, cd, cp, cho, cse, chi, cex, ccr⟩ := c
        have hcd : cd.size ≤ 200000 := hcd
        obtain ⟨D, hD⟩ : ∃ D, domL b.data.toList cd.data.toList = D := ⟨_, rfl⟩
        have CDm := Lib.hid (fun w => domi_is b cd D hD w (by have := hz.b; omega) (by omega))
        obtain ⟨Kn, hKn⟩ : ∃ Kn, cd.data.toList.contains 46 = Kn := ⟨_, rfl⟩
        have CKn := Lib.hid (fun w => contains_is cd 46 Kn hKn w)
        unfold lastC at hf
        rw [hD, hKn] at hf
        have z0 := AK7.c 0 rfl; have z1 := AK7.c 1 rfl; have z2 := AK7.c 2 rfl; have z3 := AK7.c 3 rfl; have z4 := AK7.c 4 rfl; have z5 := AK7.c 5 rfl; have z6 := AK7.c 6 rfl; have z7 := AK7.c 7 rfl; have z8 := AK7.c 8 rfl
        have u0 := A7.c 0 rfl
        have u1 := A7.c 1 rfl
        cases D
        · have HV : Hid (R = (ck0, 15)) := by rw [← hf, if_pos (Or.inl rfl)]; exact rfl
          clear hf hD hKn
          go_wp2_with (first
            | (go_at_call 14; with_reducible refine (CDm.out _).mono ?_; rintro x w8 ⟨rfl, hb8⟩; have hB8 := hB7.trans (hb8.mono hB7.size); have R8 := R7.next hb8; have r0 := R8.c 0 rfl; have r1 := R8.c 1 rfl; have r2 := R8.c 2 rfl; have r3 := R8.c 3 rfl; have r4 := R8.c 4 rfl; have r5 := R8.c 5 rfl; have r6 := R8.c 6 rfl; have r7 := R8.c 7 rfl; have r8 := R8.c 8 rfl; have q0 := R8.f 0 rfl; have q1 := R8.f 1 rfl; have q2 := R8.f 2 rfl; have q3 := R8.f 3 rfl; have q4 := R8.f 4 rfl; have q5 := R8.f 5 rfl; have q6 := R8.f 6 rfl; have q7 := R8.f 7 rfl; have q8 := R8.f 8 rfl; have hk8 := R8.lt; have K8 := AK7.next hb8; have z0 := K8.c 0 rfl; have z1 := K8.c 1 rfl; have z2 := K8.c 2 rfl; have z3 := K8.c 3 rfl; have z4 := K8.c 4 rfl; have z5 := K8.c 5 rfl; have z6 := K8.c 6 rfl; have z7 := K8.c 7 rfl; have z8 := K8.c 8 rfl; have hk9 := K8.lt; have A8 := A7.next hb8; have v0 := A8.c 0 rfl; have v1 := A8.c 1 rfl)
            | (go_at_call 43; with_reducible refine (CKn.out _).mono ?_; rintro x w9 ⟨rfl, rfl⟩))
          exact bodyPost_ret (ret9_run Tryz.results12 Tryz.sizeOf29 Tryz.isAgg29 _ _ _ _ _ _ _ _ _ _ _ _ _ rfl rfl (R8.set9 rfl _ _ _ _ _ _ _ _ _)) rfl ⟨by rw [HV.out]; exact rfl, below_set9 hB8 (Nat.le_succ _) _ _ _ _ _ _ _ _ _⟩
        · by_cases hm : cd.data.toList = b.data.toList
          · obtain rfl : cd = b := ba_ext' hm
            rw [if_neg (by rintro (h | h); cases h; exact h.1 hm)] at hf
            have HL := Lib.hid hf
            clear hf hm hD hKn
            cases cse
            · have HV : Hid (R = (⟨cn, cv, cd, cp, cho, false, chi, cex, ccr⟩, 0)) := by rw [← HL.out, if_neg (by simp)]; exact rfl
              clear HL
              go_wp2_with (first
                | (go_at_call 14; with_reducible refine (CDm.out _).mono ?_; rintro x w8 ⟨rfl, hb8⟩; have hB8 := hB7.trans (hb8.mono hB7.size); have R8 := R7.next hb8; have r0 := R8.c 0 rfl; have r1 := R8.c 1 rfl; have r2 := R8.c 2 rfl; have r3 := R8.c 3 rfl; have r4 := R8.c 4 rfl; have r5 := R8.c 5 rfl; have r6 := R8.c 6 rfl; have r7 := R8.c 7 rfl; have r8 := R8.c 8 rfl; have q0 := R8.f 0 rfl; have q1 := R8.f 1 rfl; have q2 := R8.f 2 rfl; have q3 := R8.f 3 rfl; have q4 := R8.f 4 rfl; have q5 := R8.f 5 rfl; have q6 := R8.f 6 rfl; have q7 := R8.f 7 rfl; have q8 := R8.f 8 rfl; have hk8 := R8.lt; have K8 := AK7.next hb8; have z0 := K8.c 0 rfl; have z1 := K8.c 1 rfl; have z2 := K8.c 2 rfl; have z3 := K8.c 3 rfl; have z4 := K8.c 4 rfl; have z5 := K8.c 5 rfl; have z6 := K8.c 6 rfl; have z7 := K8.c 7 rfl; have z8 := K8.c 8 rfl; have hk9 := K8.lt; have A8 := A7.next hb8; have v0 := A8.c 0 rfl; have v1 := A8.c 1 rfl)
                | (go_at_call 43; with_reducible refine (CKn.out _).mono ?_; rintro x w9 ⟨rfl, rfl⟩))
              exact bodyPost_ret (ret9_run Tryz.results12 Tryz.sizeOf29 Tryz.isAgg29 _ _ _ _ _ _ _ _ _ _ _ _ _ rfl rfl (R8.set9 rfl _ _ _ _ _ _ _ _ _)) rfl ⟨by rw [HV.out]; exact rfl, below_set9 hB8 (Nat.le_succ _) _ _ _ _ _ _ _ _ _⟩
            · by_cases hsc : a.data.toList = httpsL
              · have HV : Hid (R = (⟨cn, cv, cd, cp, cho, true, chi, cex, ccr⟩, 0)) := by rw [← HL.out, if_neg (by simp [hsc])]; exact rfl
                have hs2 : a.toList = [104, 116, 116, 112, 115] := by rw [ByteArray.toList_eq]; exact hsc
                clear HL hsc
                go_wp2_with (first
                  | (go_at_call 14; with_reducible refine (CDm.out _).mono ?_; rintro x w8 ⟨rfl, hb8⟩; have hB8 := hB7.trans (hb8.mono hB7.size); have R8 := R7.next hb8; have r0 := R8.c 0 rfl; have r1 := R8.c 1 rfl; have r2 := R8.c 2 rfl; have r3 := R8.c 3 rfl; have r4 := R8.c 4 rfl; have r5 := R8.c 5 rfl; have r6 := R8.c 6 rfl; have r7 := R8.c 7 rfl; have r8 := R8.c 8 rfl; have q0 := R8.f 0 rfl; have q1 := R8.f 1 rfl; have q2 := R8.f 2 rfl; have q3 := R8.f 3 rfl; have q4 := R8.f 4 rfl; have q5 := R8.f 5 rfl; have q6 := R8.f 6 rfl; have q7 := R8.f 7 rfl; have q8 := R8.f 8 rfl; have hk8 := R8.lt; have K8 := AK7.next hb8; have z0 := K8.c 0 rfl; have z1 := K8.c 1 rfl; have z2 := K8.c 2 rfl; have z3 := K8.c 3 rfl; have z4 := K8.c 4 rfl; have z5 := K8.c 5 rfl; have z6 := K8.c 6 rfl; have z7 := K8.c 7 rfl; have z8 := K8.c 8 rfl; have hk9 := K8.lt; have A8 := A7.next hb8; have v0 := A8.c 0 rfl; have v1 := A8.c 1 rfl)
                  | (go_at_call 43; with_reducible refine (CKn.out _).mono ?_; rintro x w9 ⟨rfl, rfl⟩))
                exact bodyPost_ret (ret9_run Tryz.results12 Tryz.sizeOf29 Tryz.isAgg29 _ _ _ _ _ _ _ _ _ _ _ _ _ rfl rfl (R8.set9 rfl _ _ _ _ _ _ _ _ _)) rfl ⟨by rw [HV.out]; exact rfl, below_set9 hB8 (Nat.le_succ _) _ _ _ _ _ _ _ _ _⟩
              · have HV : Hid (R = (ck0, 7)) := by rw [← HL.out, if_pos ⟨rfl, hsc⟩]; exact rfl
                have hs2 : ¬ a.toList = [104, 116, 116, 112, 115] := by rw [ByteArray.toList_eq]; exact hsc
                have hs3 : (a.toList == [104, 116, 116, 112, 115]) = false := beq_eq_false_iff_ne.2 hs2
                clear HL hsc
                go_wp2_with (first
                  | (go_at_call 14; with_reducible refine (CDm.out _).mono ?_; rintro x w8 ⟨rfl, hb8⟩; have hB8 := hB7.trans (hb8.mono hB7.size); have R8 := R7.next hb8; have r0 := R8.c 0 rfl; have r1 := R8.c 1 rfl; have r2 := R8.c 2 rfl; have r3 := R8.c 3 rfl; have r4 := R8.c 4 rfl; have r5 := R8.c 5 rfl; have r6 := R8.c 6 rfl; have r7 := R8.c 7 rfl; have r8 := R8.c 8 rfl; have q0 := R8.f 0 rfl; have q1 := R8.f 1 rfl; have q2 := R8.f 2 rfl; have q3 := R8.f 3 rfl; have q4 := R8.f 4 rfl; have q5 := R8.f 5 rfl; have q6 := R8.f 6 rfl; have q7 := R8.f 7 rfl; have q8 := R8.f 8 rfl; have hk8 := R8.lt; have K8 := AK7.next hb8; have z0 := K8.c 0 rfl; have z1 := K8.c 1 rfl; have z2 := K8.c 2 rfl; have z3 := K8.c 3 rfl; have z4 := K8.c 4 rfl; have z5 := K8.c 5 rfl; have z6 := K8.c 6 rfl; have z7 := K8.c 7 rfl; have z8 := K8.c 8 rfl; have hk9 := K8.lt; have A8 := A7.next hb8; have v0 := A8.c 0 rfl; have v1 := A8.c 1 rfl)
                  | (go_at_call 43; with_reducible refine (CKn.out _).mono ?_; rintro x w9 ⟨rfl, rfl⟩))
                exact bodyPost_ret (ret9_run Tryz.results12 Tryz.sizeOf29 Tryz.isAgg29 _ _ _ _ _ _ _ _ _ _ _ _ _ rfl rfl (R8.set9 rfl _ _ _ _ _ _ _ _ _)) rfl ⟨by rw [HV.out]; exact rfl, below_set9 hB8 (Nat.le_succ _) _ _ _ _ _ _ _ _ _⟩
          · have hm1 : ¬ cd.toList = b.toList := by rw [ByteArray.toList_eq, ByteArray.toList_eq]; exact hm
            have hm2 : (cd.toList == b.toList) = false := beq_eq_false_iff_ne.2 hm1
            cases Kn
            · have HV : Hid (R = (ck0, 15)) := by rw [← hf, if_pos (Or.inr ⟨hm, rfl⟩)]; exact rfl
              clear hf hm hD hKn
              go_wp2_with (first
                | (go_at_call 14; with_reducible refine (CDm.out _).mono ?_; rintro x w8 ⟨rfl, hb8⟩; have hB8 := hB7.trans (hb8.mono hB7.size); have R8 := R7.next hb8; have r0 := R8.c 0 rfl; have r1 := R8.c 1 rfl; have r2 := R8.c 2 rfl; have r3 := R8.c 3 rfl; have r4 := R8.c 4 rfl; have r5 := R8.c 5 rfl; have r6 := R8.c 6 rfl; have r7 := R8.c 7 rfl; have r8 := R8.c 8 rfl; have q0 := R8.f 0 rfl; have q1 := R8.f 1 rfl; have q2 := R8.f 2 rfl; have q3 := R8.f 3 rfl; have q4 := R8.f 4 rfl; have q5 := R8.f 5 rfl; have q6 := R8.f 6 rfl; have q7 := R8.f 7 rfl; have q8 := R8.f 8 rfl; have hk8 := R8.lt; have K8 := AK7.next hb8; have z0 := K8.c 0 rfl; have z1 := K8.c 1 rfl; have z2 := K8.c 2 rfl; have z3 := K8.c 3 rfl; have z4 := K8.c 4 rfl; have z5 := K8.c 5 rfl; have z6 := K8.c 6 rfl; have z7 := K8.c 7 rfl; have z8 := K8.c 8 rfl; have hk9 := K8.lt; have A8 := A7.next hb8; have v0 := A8.c 0 rfl; have v1 := A8.c 1 rfl)
                | (go_at_call 43; with_reducible refine (CKn.out _).mono ?_; rintro x w9 ⟨rfl, rfl⟩))
              exact bodyPost_ret (ret9_run Tryz.results12 Tryz.sizeOf29 Tryz.isAgg29 _ _ _ _ _ _ _ _ _ _ _ _ _ rfl rfl (R8.set9 rfl _ _ _ _ _ _ _ _ _)) rfl ⟨by rw [HV.out]; exact rfl, below_set9 hB8 (Nat.le_succ _) _ _ _ _ _ _ _ _ _⟩
            · rw [if_neg (by rintro (h | h); cases h; cases h.2)] at hf
              have HL := Lib.hid hf
              clear hf hm hD hKn
              cases cse
              · have HV : Hid (R = (⟨cn, cv, cd, cp, cho, false, chi, cex, ccr⟩, 0)) := by rw [← HL.out, if_neg (by simp)]; exact rfl
                clear HL
                go_wp2_with (first
                  | (go_at_call 14; with_reducible refine (CDm.out _).mono ?_; rintro x w8 ⟨rfl, hb8⟩; have hB8 := hB7.trans (hb8.mono hB7.size); have R8 := R7.next hb8; have r0 := R8.c 0 rfl; have r1 := R8.c 1 rfl; have r2 := R8.c 2 rfl; have r3 := R8.c 3 rfl; have r4 := R8.c 4 rfl; have r5 := R8.c 5 rfl; have r6 := R8.c 6 rfl; have r7 := R8.c 7 rfl; have r8 := R8.c 8 rfl; have q0 := R8.f 0 rfl; have q1 := R8.f 1 rfl; have q2 := R8.f 2 rfl; have q3 := R8.f 3 rfl; have q4 := R8.f 4 rfl; have q5 := R8.f 5 rfl; have q6 := R8.f 6 rfl; have q7 := R8.f 7 rfl; have q8 := R8.f 8 rfl; have hk8 := R8.lt; have K8 := AK7.next hb8; have z0 := K8.c 0 rfl; have z1 := K8.c 1 rfl; have z2 := K8.c 2 rfl; have z3 := K8.c 3 rfl; have z4 := K8.c 4 rfl; have z5 := K8.c 5 rfl; have z6 := K8.c 6 rfl; have z7 := K8.c 7 rfl; have z8 := K8.c 8 rfl; have hk9 := K8.lt; have A8 := A7.next hb8; have v0 := A8.c 0 rfl; have v1 := A8.c 1 rfl)
                  | (go_at_call 43; with_reducible refine (CKn.out _).mono ?_; rintro x w9 ⟨rfl, rfl⟩))
                exact bodyPost_ret (ret9_run Tryz.results12 Tryz.sizeOf29 Tryz.isAgg29 _ _ _ _ _ _ _ _ _ _ _ _ _ rfl rfl (R8.set9 rfl _ _ _ _ _ _ _ _ _)) rfl ⟨by rw [HV.out]; exact rfl, below_set9 hB8 (Nat.le_succ _) _ _ _ _ _ _ _ _ _⟩
              · by_cases hsc : a.data.toList = httpsL
                · have HV : Hid (R = (⟨cn, cv, cd, cp, cho, true, chi, cex, ccr⟩, 0)) := by rw [← HL.out, if_neg (by simp [hsc])]; exact rfl
                  have hs2 : a.toList = [104, 116, 116, 112, 115] := by rw [ByteArray.toList_eq]; exact hsc
                  clear HL hsc
                  go_wp2_with (first
                    | (go_at_call 14; with_reducible refine (CDm.out _).mono ?_; rintro x w8 ⟨rfl, hb8⟩; have hB8 := hB7.trans (hb8.mono hB7.size); have R8 := R7.next hb8; have r0 := R8.c 0 rfl; have r1 := R8.c 1 rfl; have r2 := R8.c 2 rfl; have r3 := R8.c 3 rfl; have r4 := R8.c 4 rfl; have r5 := R8.c 5 rfl; have r6 := R8.c 6 rfl; have r7 := R8.c 7 rfl; have r8 := R8.c 8 rfl; have q0 := R8.f 0 rfl; have q1 := R8.f 1 rfl; have q2 := R8.f 2 rfl; have q3 := R8.f 3 rfl; have q4 := R8.f 4 rfl; have q5 := R8.f 5 rfl; have q6 := R8.f 6 rfl; have q7 := R8.f 7 rfl; have q8 := R8.f 8 rfl; have hk8 := R8.lt; have K8 := AK7.next hb8; have z0 := K8.c 0 rfl; have z1 := K8.c 1 rfl; have z2 := K8.c 2 rfl; have z3 := K8.c 3 rfl; have z4 := K8.c 4 rfl; have z5 := K8.c 5 rfl; have z6 := K8.c 6 rfl; have z7 := K8.c 7 rfl; have z8 := K8.c 8 rfl; have hk9 := K8.lt; have A8 := A7.next hb8; have v0 := A8.c 0 rfl; have v1 := A8.c 1 rfl)
                    | (go_at_call 43; with_reducible refine (CKn.out _).mono ?_; rintro x w9 ⟨rfl, rfl⟩))
                  exact bodyPost_ret (ret9_run Tryz.results12 Tryz.sizeOf29 Tryz.isAgg29 _ _ _ _ _ _ _ _ _ _ _ _ _ rfl rfl (R8.set9 rfl _ _ _ _ _ _ _ _ _)) rfl ⟨by rw [HV.out]; exact rfl, below_set9 hB8 (Nat.le_succ _) _ _ _ _ _ _ _ _ _⟩
                · have HV : Hid (R = (ck0, 7)) := by rw [← HL.out, if_pos ⟨rfl, hsc⟩]; exact rfl
                  have hs2 : ¬ a.toList = [104, 116, 116, 112, 115] := by rw [ByteArray.toList_eq]; exact hsc
                  have hs3 : (a.toList == [104, 116, 116, 112, 115]) = false := beq_eq_false_iff_ne.2 hs2
                  clear HL hsc
                  go_wp2_with (first
                    | (go_at_call 14; with_reducible refine (CDm.out _).mono ?_; rintro x w8 ⟨rfl, hb8⟩; have hB8 := hB7.trans (hb8.mono hB7.size); have R8 := R7.next hb8; have r0 := R8.c 0 rfl; have r1 := R8.c 1 rfl; have r2 := R8.c 2 rfl; have r3 := R8.c 3 rfl; have r4 := R8.c 4 rfl; have r5 := R8.c 5 rfl; have r6 := R8.c 6 rfl; have r7 := R8.c 7 rfl; have r8 := R8.c 8 rfl; have q0 := R8.f 0 rfl; have q1 := R8.f 1 rfl; have q2 := R8.f 2 rfl; have q3 := R8.f 3 rfl; have q4 := R8.f 4 rfl; have q5 := R8.f 5 rfl; have q6 := R8.f 6 rfl; have q7 := R8.f 7 rfl; have q8 := R8.f 8 rfl; have hk8 := R8.lt; have K8 := AK7.next hb8; have z0 := K8.c 0 rfl; have z1 := K8.c 1 rfl; have z2 := K8.c 2 rfl; have z3 := K8.c 3 rfl; have z4 := K8.c 4 rfl; have z5 := K8.c 5 rfl; have z6 := K8.c 6 rfl; have z7 := K8.c 7 rfl; have z8 := K8.c 8 rfl; have hk9 := K8.lt; have A8 := A7.next hb8; have v0 := A8.c 0 rfl; have v1 := A8.c 1 rfl)
                    | (go_at_call 43; with_reducible refine (CKn.out _).mono ?_; rintro x w9 ⟨rfl, rfl⟩))
                  exact bodyPost_ret (ret9_run Tryz.results12 Tryz.sizeOf29 Tryz.isAgg29 _ _ _ _ _ _ _ _ _ _ _ _ _ rfl rfl (R8.set9 rfl _ _ _ _ _ _ _ _ _)) rfl ⟨by rw [HV.out]; exact rfl, below_set9 hB8 (Nat.le_succ _) _ _ _ _ _ _ _ _ _⟩
end Go.Proofs.YtgjooigolgdocaaGreatDoor
