/- Cache: the reference's Directives. -/
import Derived.Test.YtkobhknggamejaaGreatDoorHD
namespace Go.Proofs.YtkobhknggamejaaGreatDoor
set_option linter.unusedVariables false
set_option linter.unusedSimpArgs false
open Go.RowKit

set_option maxRecDepth 20000 in
set_option maxHeartbeats 4000000 in
theorem rdir_is (hs : List Hd) (v : Value) (w : World) (hv : SlK hdC 2 w v hs) (hz : HdSz hs) (D : Dir) (hD : dirL hs = D) :
    Calls Tryz.prog 15 #[v] w fun e w' => e = .returned (dirA D) ∧ Below w.heap.size w w' := by
  have HD := Lib.hid hD
  have HZ := Lib.hid hz.2
  have hl := hz.1
  have R0 := (AtL.new w [.bool false, .bool false, .bool false, .int .i64 0] 28).alloc (.cells (dirC ⟨false, false, false, -1⟩).toArray 28)
  have C0 := AtL.new (w.alloc (.cells [.bool false, .bool false, .bool false, .int .i64 0].toArray 28)) (dirC ⟨false, false, false, -1⟩) 28
  rw [show (w.alloc (.cells [.bool false, .bool false, .bool false, .int .i64 0].toArray 28)).heap.size = w.heap.size + 1 by simp] at C0
  have hb0 : Below w.heap.size w ((w.alloc (.cells [.bool false, .bool false, .bool false, .int .i64 0].toArray 28)).alloc (.cells (dirC ⟨false, false, false, -1⟩).toArray 28)) := ((Below.refl _ w).alloc (Nat.le_refl _) _).alloc (by simp) _
  have hv0 := hv.below hb0 (Nat.le_refl _)
  obtain ⟨sa, sc, rfl, _⟩ := hv.shape
  clear hD hz
  go_enter Tryz.func15, Tryz.ntmps15
  go_wp2_with fail
  obtain ⟨w1, hw1⟩ : ∃ w1 : World, (w.alloc (.cells [.bool false, .bool false, .bool false, .int .i64 0].toArray 28)).alloc (.cells (dirC ⟨false, false, false, -1⟩).toArray 28) = w1 := ⟨_, rfl⟩
  obtain ⟨C, hC⟩ : ∃ C, w.heap.size + 1 = C := ⟨_, rfl⟩
  obtain ⟨R, hR⟩ : ∃ R, w.heap.size = R := ⟨_, rfl⟩
  rw [hw1] at R0 C0 hb0 hv0
  rw [hC] at C0
  rw [hR] at R0
  rw [hw1, hC, hR]
  have hRC : R < C := by omega
  have HR := Lib.hid hR
  have HBW := Lib.hid (fun b0 off h h0 => Nat.lt_of_lt_of_le (slk_base hv b0 off h h0) (Nat.le_of_eq hR))
  have hCl := C0.lt
  have hRl := R0.lt
  clear hw1 hC hR hv
  go_loopw [4] (fun iv wr => ∃ (k : Nat) (E : Dir), k ≤ hs.length ∧ iv = .int .i64 k ∧ AtL wr C (dirC E) ∧ Hid (E = (hs.take k).foldl dirOne ⟨false, false, false, -1⟩) ∧ BelowBut w1.heap.size C w1 wr) (fun iv _ => hs.length - (intOf iv).toNat)
  case atStart => exact ⟨0, _, Nat.zero_le _, rfl, C0, Lib.hid rfl, BelowBut.refl _ _ _⟩
  case round =>
    obtain ⟨k, E, hk, rfl, AE, HE, hbb⟩ := hrel
    have hwz := hbb.size
    by_cases hlt : k < hs.length
    · have hki : (k : Int) < (hs.length : Int) := by omega
      have hk0 : (0 : Int) ≤ (k : Int) := by omega
      have hv1 := hv0
      rcases hv1 with ⟨rfl, _⟩ | ⟨_, b0, off, cap, he, hc1, hc2, hc3, hcell⟩
      · simp at hlt
      injection he with e1 e2 e3
      subst e1 e3
      have hbR := HBW.out b0 off rfl (by omega)
      have cc : ∀ j u, (hdC hs[k])[j]? = some u → wr.cell? ⟨b0, off + k * 2 + j, none⟩ = some u := fun j u hu => (hbb.cell (p := ⟨b0, off + k * 2 + j, none⟩) hc3 (by show b0 ≠ C; omega)).trans (hcell k hlt j u hu)
      have hsz := HZ.out _ (List.getElem_mem hlt)
      have hfs := fold_step dirOne ⟨false, false, false, -1⟩ hs k hlt _ rfl E HE.out.symm
      obtain ⟨y, hy⟩ : ∃ y, hs[k] = y := ⟨_, rfl⟩
      rw [hy] at cc hsz hfs
      clear hy hcell
      obtain ⟨yn, yv⟩ := y
      have hyn : yn.size ≤ 100000 := hsz.1
      have hyv : yv.size ≤ 100000 := hsz.2
      have c0 := cc 0 _ rfl
      have c1 := cc 1 _ rfl
      simp only [Nat.add_zero] at c0
      clear cc hsz
      have hb0l : b0 < wr.heap.size := Nat.lt_of_lt_of_le hc3 hwz
      by_cases hq : lowL yn.data.toList = ccN
      · have C1 := Lib.hid (fun w => ralike_is yn ⟨#[99, 97, 99, 104, 101, 45, 99, 111, 110, 116, 114, 111, 108]⟩ true (by rw [hq]; rfl) w (by omega) (by decide))
        have hfs2 : (hs.take (k + 1)).foldl dirOne ⟨false, false, false, -1⟩ = (wordsL yv.data.toList).foldl dirStep E := by rw [hfs]; unfold dirOne; rw [if_pos hq]
        obtain ⟨L, hL⟩ : ∃ L, wordsL yv.data.toList = L := ⟨_, rfl⟩
        have hwsz := words_size yv.data.toList
        have HLW := Lib.hid hL
        rw [hL] at hfs2 hwsz
        have HW := Lib.hid hwsz
        have CW := Lib.hid (fun w => rwords_is yv w hyv L hL)
        have HFS := Lib.hid hfs2
        clear hfs hfs2 hL hq hwsz
        go_wp2_with (first
          | (go_at_call 40; with_reducible refine (C1.out _).mono ?_; rintro e w2 ⟨rfl, hb2⟩; have hbb2 := but_below hbb hb2 hwz; have A2 := AE.next hb2; have z1 := (brl hb2 _ _ hb0l).trans c1; have hbl2 := Nat.lt_of_lt_of_le hb0l hb2.size)
          | (go_at_call 44; with_reducible refine (CW.out _).mono ?_; rintro e w3 hqq; obtain ⟨ps, pa, pc, rfl, hown, hps, hb3⟩ := wordsq_open hqq; clear hqq))
        have hpz : ∀ p ∈ ps, p.size ≤ 100000 := fun p hp => by
          have := HW.out p.data.toList (by rw [← hps]; exact List.mem_map_of_mem hp)
          rw [size_len, size_len] at this
          omega
        have hplen : ps.length ≤ 1000000 := by
          have h1 : (wordsL yv.data.toList).length ≤ yv.size + 1 := by
            unfold wordsL
            refine Nat.le_trans (List.length_filter_le _ _) ?_
            rw [List.length_map]
            have := segs_count 44 yv.data.toList
            rwa [size_len] at this
          rw [HLW.out, ← hps] at h1
          simp [lists] at h1
          omega
        have HPS := Lib.hid hps
        have HPZ := Lib.hid hpz
        have hbb3 := but_below hbb2 hb3 hbb2.size
        have A3 := A2.next hb3
        obtain ⟨_, _, hve, hlc, hlm, hra⟩ := own_reads hown
        injection hve with e1 _ e3
        subst e1 e3
        have hCw2 : C < w2.heap.size := A2.lt
        have HRA := Lib.hid hra
        obtain ⟨wo, hwo⟩ : ∃ wo : World, wo = wr := ⟨_, rfl⟩
        subst hwo
        clear hps hpz hra z1
        go_loopw [6] (fun jv wr2 => ∃ (j : Nat) (F : Dir), j ≤ ps.length ∧ jv = .int .i64 j ∧ AtL wr2 C (dirC F) ∧ Hid (F = ((lists ps).take j).foldl dirStep E) ∧ BelowBut w3.heap.size C w3 wr2) (fun jv _ => ps.length - (intOf jv).toNat)
        case atStart => exact ⟨0, E, Nat.zero_le _, rfl, A3, Lib.hid rfl, BelowBut.refl _ _ _⟩
        case round =>
          obtain ⟨j, F, hj, rfl, AC, HF, hbc⟩ := hrel
          by_cases hlj : j < ps.length
          · have hji : (j : Int) < (ps.length : Int) := by omega
            have hj0 : (0 : Int) ≤ (j : Int) := by omega
            rcases HRA.out with ⟨_, h0⟩ | ⟨g, rfl, hgB, hgw, hcg⟩
            · omega
            have c2 := (hbc.cell (p := ⟨g, j, none⟩) hgw (by show g ≠ C; omega)).trans (hcg j (.string ps[j]) (by simp [strsV, hlj]))
            have hx := HPZ.out _ (List.getElem_mem hlj)
            have hst := seg_words _ ps rfl j hlj E F HF.out
            obtain ⟨x, hxe⟩ : ∃ x, ps[j] = x := ⟨_, rfl⟩
            rw [hxe] at c2 hx
            have hst := fun D' h => hst x hxe D' h
            have hglt : g < wr.heap.size := Nat.lt_of_lt_of_le hgw hbc.size
            have hps1 := pre_size 61 x
            obtain ⟨N, hN⟩ : ∃ N, (pre 61 x.data.toList).length = N := ⟨_, rfl⟩
            have CF := Lib.hid (fun w => (show Calls Tryz.prog 45 #[.string x, .int .u8 61] w fun e w' => e = .returned (.int .i64 (N : Int)) ∧ w = w' by rw [← hN]; exact find_any 61 x w (by omega)))
            rw [hN] at hps1
            have hAl : (x.extract 0 N).data.toList = pre 61 x.data.toList := by rw [ext_from, ← hN]; exact pre_take 61 _
            have hAz : (x.extract 0 N).size ≤ 100000 := by simp; omega
            have cL := fun (T : ByteArray) (h : T.data.toList = lowL (pre 61 x.data.toList)) (w : World) => smallc_is (x.extract 0 N) T (by rw [hAl]; exact h) w (by omega)
            have hBl : (x.extract (N + 1) x.size).data.toList = post 61 x.data.toList := by rw [ext_to, ← hN]; exact post_drop 61 _
            have hBz : (x.extract (N + 1) x.size).size ≤ 100000 := by simp; omega
            have CN0 := Lib.hid (fun w R hR => num_is (x.extract (N + 1) x.size) w (by omega) R hR)
            have hNi : (N : Int) ≤ (x.size : Int) := by omega
            have hN0 : (0 : Int) ≤ (N : Int) := by omega
            have hNE := Lib.hid hN
            have HBL := Lib.hid hBl
            clear hN hAl hBl hxe hcg hBz hAz
            have hbb := hbc
            by_cases q1 : lowL (pre 61 x.data.toList) = nsN
            · have HST := Lib.hid (hst { F with ns := true } (by unfold dirStep; rw [if_pos q1]))
              have CL := Lib.hid (cL ⟨#[110, 111, 45, 115, 116, 111, 114, 101]⟩ q1.symm)
              clear hst cL q1 CN0
              have CN := CL
              go_wp2_with (first
                | (go_at_call 45; with_reducible refine (CF.out _).mono ?_; rintro e w4 ⟨rfl, rfl⟩)
                | (go_at_call 46; with_reducible refine (CL.out _).mono ?_; rintro e w5 ⟨rfl, hb5⟩; have A5 := AC.next hb5; have hbb5 := but_below hbb hb5 hbb.size; have q0 := A5.c 0 rfl; have q1 := A5.c 1 rfl; have q2 := A5.c 2 rfl; have q3 := A5.c 3 rfl; have f0 := A5.f 0 rfl; have f1 := A5.f 1 rfl; have f2 := A5.f 2 rfl; have f3 := A5.f 3 rfl; have al5 := A5.lt)
                | (go_at_call 47; with_reducible refine (CN.out _).mono ?_; rintro e w6 ⟨rfl, rfl⟩))
              have AX : AtL _ C (dirC { F with ns := true }) := A5.set 0 (.bool true)
              have hbX := hbb5.setCell ⟨C, 0, none⟩ (Or.inl rfl) (.bool true)
              go_roundw
              case rel => exact ⟨j + 1, _, by omega, by go_num, AX, Lib.hid HST.out, hbX⟩
              case measure => simp [intOf]; omega
            · by_cases q2 : lowL (pre 61 x.data.toList) = ncN
              · have HST := Lib.hid (hst { F with nc := true } (by unfold dirStep; rw [if_neg q1, if_pos q2]))
                have CL := Lib.hid (cL ⟨#[110, 111, 45, 99, 97, 99, 104, 101]⟩ q2.symm)
                clear hst cL q1 q2 CN0
                have CN := CL
                go_wp2_with (first
                  | (go_at_call 45; with_reducible refine (CF.out _).mono ?_; rintro e w4 ⟨rfl, rfl⟩)
                  | (go_at_call 46; with_reducible refine (CL.out _).mono ?_; rintro e w5 ⟨rfl, hb5⟩; have A5 := AC.next hb5; have hbb5 := but_below hbb hb5 hbb.size; have q0 := A5.c 0 rfl; have q1 := A5.c 1 rfl; have q2 := A5.c 2 rfl; have q3 := A5.c 3 rfl; have f0 := A5.f 0 rfl; have f1 := A5.f 1 rfl; have f2 := A5.f 2 rfl; have f3 := A5.f 3 rfl; have al5 := A5.lt)
                  | (go_at_call 47; with_reducible refine (CN.out _).mono ?_; rintro e w6 ⟨rfl, rfl⟩))
                have AX : AtL _ C (dirC { F with nc := true }) := A5.set 1 (.bool true)
                have hbX := hbb5.setCell ⟨C, 1, none⟩ (Or.inl rfl) (.bool true)
                go_roundw
                case rel => exact ⟨j + 1, _, by omega, by go_num, AX, Lib.hid HST.out, hbX⟩
                case measure => simp [intOf]; omega
              · by_cases q3 : lowL (pre 61 x.data.toList) = muN
                · have HST := Lib.hid (hst { F with mu := true } (by unfold dirStep; rw [if_neg q1, if_neg q2, if_pos q3]))
                  have CL := Lib.hid (cL ⟨#[109, 117, 115, 116, 45, 114, 101, 118, 97, 108, 105, 100, 97, 116, 101]⟩ q3.symm)
                  clear hst cL q1 q2 q3 CN0
                  have CN := CL
                  go_wp2_with (first
                    | (go_at_call 45; with_reducible refine (CF.out _).mono ?_; rintro e w4 ⟨rfl, rfl⟩)
                    | (go_at_call 46; with_reducible refine (CL.out _).mono ?_; rintro e w5 ⟨rfl, hb5⟩; have A5 := AC.next hb5; have hbb5 := but_below hbb hb5 hbb.size; have q0 := A5.c 0 rfl; have q1 := A5.c 1 rfl; have q2 := A5.c 2 rfl; have q3 := A5.c 3 rfl; have f0 := A5.f 0 rfl; have f1 := A5.f 1 rfl; have f2 := A5.f 2 rfl; have f3 := A5.f 3 rfl; have al5 := A5.lt)
                    | (go_at_call 47; with_reducible refine (CN.out _).mono ?_; rintro e w6 ⟨rfl, rfl⟩))
                  have AX : AtL _ C (dirC { F with mu := true }) := A5.set 2 (.bool true)
                  have hbX := hbb5.setCell ⟨C, 2, none⟩ (Or.inl rfl) (.bool true)
                  go_roundw
                  case rel => exact ⟨j + 1, _, by omega, by go_num, AX, Lib.hid HST.out, hbX⟩
                  case measure => simp [intOf]; omega
                · by_cases q4 : lowL (pre 61 x.data.toList) = maN
                  · have CL := Lib.hid (cL ⟨#[109, 97, 120, 45, 97, 103, 101]⟩ q4.symm)
                    obtain ⟨M, hM⟩ : ∃ M, secI (post 61 x.data.toList) = M := ⟨_, rfl⟩
                    have hM2 : secI (x.extract (N + 1) x.size).data.toList = M := by rw [HBL.out]; exact hM
                    have CN := Lib.hid (fun w => CN0.out w M hM2)
                    by_cases hNs : N < x.size
                    · have hNsi : (N : Int) < (x.size : Int) := by omega
                      by_cases h0 : 0 ≤ M
                      · have HST := Lib.hid (hst { F with ma := M } (by unfold dirStep; rw [if_neg q1, if_neg q2, if_neg q3, if_pos q4, hM, if_pos h0]))
                        clear hst cL q1 q2 q3 q4 CN0 hM hM2
                        go_wp2_with (first
                          | (go_at_call 45; with_reducible refine (CF.out _).mono ?_; rintro e w4 ⟨rfl, rfl⟩)
                          | (go_at_call 46; with_reducible refine (CL.out _).mono ?_; rintro e w5 ⟨rfl, hb5⟩; have A5 := AC.next hb5; have hbb5 := but_below hbb hb5 hbb.size; have q0 := A5.c 0 rfl; have q1 := A5.c 1 rfl; have q2 := A5.c 2 rfl; have q3 := A5.c 3 rfl; have f0 := A5.f 0 rfl; have f1 := A5.f 1 rfl; have f2 := A5.f 2 rfl; have f3 := A5.f 3 rfl; have al5 := A5.lt)
                          | (go_at_call 47; with_reducible refine (CN.out _).mono ?_; rintro e w6 ⟨rfl, rfl⟩))
                        have AX : AtL _ C (dirC { F with ma := M }) := A5.set 3 (.int .i64 M)
                        have hbX := hbb5.setCell ⟨C, 3, none⟩ (Or.inl rfl) (.int .i64 M)
                        go_roundw
                        case rel => exact ⟨j + 1, _, by omega, by go_num, AX, Lib.hid HST.out, hbX⟩
                        case measure => simp [intOf]; omega
                      · have HST := Lib.hid (hst F (by unfold dirStep; rw [if_neg q1, if_neg q2, if_neg q3, if_pos q4, hM, if_neg h0]))
                        clear hst cL q1 q2 q3 q4 CN0 hM hM2
                        go_wp2_with (first
                          | (go_at_call 45; with_reducible refine (CF.out _).mono ?_; rintro e w4 ⟨rfl, rfl⟩)
                          | (go_at_call 46; with_reducible refine (CL.out _).mono ?_; rintro e w5 ⟨rfl, hb5⟩; have A5 := AC.next hb5; have hbb5 := but_below hbb hb5 hbb.size; have q0 := A5.c 0 rfl; have q1 := A5.c 1 rfl; have q2 := A5.c 2 rfl; have q3 := A5.c 3 rfl; have f0 := A5.f 0 rfl; have f1 := A5.f 1 rfl; have f2 := A5.f 2 rfl; have f3 := A5.f 3 rfl; have al5 := A5.lt)
                          | (go_at_call 47; with_reducible refine (CN.out _).mono ?_; rintro e w6 ⟨rfl, rfl⟩))
                        have AX := A5
                        have hbX := hbb5
                        go_roundw
                        case rel => exact ⟨j + 1, _, by omega, by go_num, AX, Lib.hid HST.out, hbX⟩
                        case measure => simp [intOf]; omega
                    · have hNsi : ¬ (N : Int) < (x.size : Int) := by omega
                      have hMn : ¬ 0 ≤ M := by
                        have e : post 61 x.data.toList = [] := by rw [← post_drop 61, hNE.out, List.drop_eq_nil_of_le (by rw [size_len]; omega)]
                        rw [← hM, e]
                        decide
                      have HST := Lib.hid (hst F (by unfold dirStep; rw [if_neg q1, if_neg q2, if_neg q3, if_pos q4, hM, if_neg hMn]))
                      clear hst cL q1 q2 q3 q4 CN0 hM hM2 hMn
                      go_wp2_with (first
                        | (go_at_call 45; with_reducible refine (CF.out _).mono ?_; rintro e w4 ⟨rfl, rfl⟩)
                        | (go_at_call 46; with_reducible refine (CL.out _).mono ?_; rintro e w5 ⟨rfl, hb5⟩; have A5 := AC.next hb5; have hbb5 := but_below hbb hb5 hbb.size; have q0 := A5.c 0 rfl; have q1 := A5.c 1 rfl; have q2 := A5.c 2 rfl; have q3 := A5.c 3 rfl; have f0 := A5.f 0 rfl; have f1 := A5.f 1 rfl; have f2 := A5.f 2 rfl; have f3 := A5.f 3 rfl; have al5 := A5.lt)
                        | (go_at_call 47; with_reducible refine (CN.out _).mono ?_; rintro e w6 ⟨rfl, rfl⟩))
                      have AX := A5
                      have hbX := hbb5
                      go_roundw
                      case rel => exact ⟨j + 1, _, by omega, by go_num, AX, Lib.hid HST.out, hbX⟩
                      case measure => simp [intOf]; omega
                  · obtain ⟨T, hT⟩ : ∃ T, bs (lowL (pre 61 x.data.toList)) = T := ⟨_, rfl⟩
                    have hTl : T.toList = lowL (pre 61 x.data.toList) := by rw [ByteArray.toList_eq, ← hT]; rfl
                    have CL := Lib.hid (cL T (by rw [← hT]; rfl))
                    have HST := Lib.hid (hst F (by unfold dirStep; rw [if_neg q1, if_neg q2, if_neg q3, if_neg q4]))
                    rw [← hTl] at q1 q2 q3 q4
                    have b1 := beq_eq_false_iff_ne.2 q1
                    have b2 := beq_eq_false_iff_ne.2 q2
                    have b3 := beq_eq_false_iff_ne.2 q3
                    have b4 := beq_eq_false_iff_ne.2 q4
                    have CN := CL
                    clear hst cL CN0 hT hTl
                    go_wp2_with (first
                      | (go_at_call 45; with_reducible refine (CF.out _).mono ?_; rintro e w4 ⟨rfl, rfl⟩)
                      | (go_at_call 46; with_reducible refine (CL.out _).mono ?_; rintro e w5 ⟨rfl, hb5⟩; have A5 := AC.next hb5; have hbb5 := but_below hbb hb5 hbb.size; have q0 := A5.c 0 rfl; have q1 := A5.c 1 rfl; have q2 := A5.c 2 rfl; have q3 := A5.c 3 rfl; have f0 := A5.f 0 rfl; have f1 := A5.f 1 rfl; have f2 := A5.f 2 rfl; have f3 := A5.f 3 rfl; have al5 := A5.lt)
                      | (go_at_call 47; with_reducible refine (CN.out _).mono ?_; rintro e w6 ⟨rfl, rfl⟩))
                    have AX := A5
                    have hbX := hbb5
                    go_roundw
                    case rel => exact ⟨j + 1, _, by omega, by go_num, AX, Lib.hid HST.out, hbX⟩
                    case measure => simp [intOf]; omega
          · obtain rfl : j = ps.length := by omega
            have hFE : F = (hs.take (k + 1)).foldl dirOne ⟨false, false, false, -1⟩ := by
              rw [HFS.out, HF.out, List.take_of_length_le (by simp [lists]), HPS.out]
            have HFE := Lib.hid hFE
            clear hFE
            go_wp2_with fail
            go_roundw
            case rel => exact ⟨k + 1, F, by omega, by go_num, AC, HFE, hbb3.to_but hbc hbb3.size⟩
            case measure => simp [intOf]; omega
      · have C1 := Lib.hid (fun w => ralike_is yn ⟨#[99, 97, 99, 104, 101, 45, 99, 111, 110, 116, 114, 111, 108]⟩ false (beq_eq_false_iff_ne.2 hq) w (by omega) (by decide))
        have HFS := Lib.hid (show E = (hs.take (k + 1)).foldl dirOne ⟨false, false, false, -1⟩ by rw [hfs]; unfold dirOne; rw [if_neg hq])
        clear hfs hq
        go_wp2_with (go_at_call 40; with_reducible refine (C1.out _).mono ?_; rintro e w2 ⟨rfl, hb2⟩; have hbb2 := but_below hbb hb2 hwz; have A2 := AE.next hb2)
        go_roundw
        case rel => exact ⟨k + 1, E, by omega, by go_num, A2, HFS, hbb2⟩
        case measure => simp [intOf]; omega
    · obtain rfl : k = hs.length := by omega
      have hED : E = D := by rw [HE.out, List.take_length]; exact HD.out
      subst hED
      have RE : AtL wr R [.bool false, .bool false, .bool false, .int .i64 0] := R0.butk hbb hRl (by omega)
      have q0 := AE.c 0 rfl; have q1 := AE.c 1 rfl; have q2 := AE.c 2 rfl; have q3 := AE.c 3 rfl
      have p0 := RE.c 0 rfl; have p1 := RE.c 1 rfl; have p2 := RE.c 2 rfl; have p3 := RE.c 3 rfl; have g0 := RE.f 0 rfl; have g1 := RE.f 1 rfl; have g2 := RE.f 2 rfl; have g3 := RE.f 3 rfl
      have cl := AE.lt
      have rl := RE.lt
      go_wp2_with fail
      obtain rfl := HR.out
      have hbF := ((((hbb.to_below hb0 hb0.size (by omega)).setCell (p := ⟨w.heap.size, 0, none⟩) (Nat.le_refl _) (.bool E.ns)).setCell (p := ⟨w.heap.size, 1, none⟩) (Nat.le_refl _) (.bool E.nc)).setCell (p := ⟨w.heap.size, 2, none⟩) (Nat.le_refl _) (.bool E.mu)).setCell (p := ⟨w.heap.size, 3, none⟩) (Nat.le_refl _) (.int .i64 E.ma)
      exact bodyPost_ret (ret4_run Tryz.results15 Tryz.sizeOf28 Tryz.isAgg28 _ _ w.heap.size _ _ _ _ rfl ((((RE.set 0 _).set 1 _).set 2 _).set 3 _)) rfl ⟨rfl, hbF⟩
end Go.Proofs.YtkobhknggamejaaGreatDoor
