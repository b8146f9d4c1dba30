/- The walk of MetricsCover. -/
import Derived.Test.YtcpklmolofbopaaDoorV
namespace Go.Proofs.YtcpklmolofbopaaDoor
open Go.RowKit

/-- the four cells of a line's own block, and all old blocks, over a call that only makes memory -/
theorem snext4 {w1 wX w3 : World} {b : Nat} {v0 v1 v2 v3 : Value} (hb : b < w1.heap.size)
    (h : wX.cell? ⟨b, 0, none⟩ = some v0 ∧ wX.cell? ⟨b, 1, none⟩ = some v1 ∧ wX.cell? ⟨b, 2, none⟩ = some v2 ∧ wX.cell? ⟨b, 3, none⟩ = some v3 ∧ Below w1.heap.size w1 wX) (h3 : Below wX.heap.size wX w3) :
    w3.cell? ⟨b, 0, none⟩ = some v0 ∧ w3.cell? ⟨b, 1, none⟩ = some v1 ∧ w3.cell? ⟨b, 2, none⟩ = some v2 ∧ w3.cell? ⟨b, 3, none⟩ = some v3 ∧ Below w1.heap.size w1 w3 := by
  obtain ⟨h0, h1, h2, h4, hw⟩ := h
  have hb' := Nat.lt_of_lt_of_le hb hw.size
  exact ⟨(h3.cell (p := ⟨b, 0, none⟩) hb').trans h0, (h3.cell (p := ⟨b, 1, none⟩) hb').trans h1, (h3.cell (p := ⟨b, 2, none⟩) hb').trans h2, (h3.cell (p := ⟨b, 3, none⟩) hb').trans h4, hw.trans (h3.mono hw.size)⟩
theorem new4 (w : World) (a b c d : Value) (E : TypeId) : (w.alloc (.cells #[a, b, c, d] E)).cell? ⟨w.heap.size, 0, none⟩ = some a ∧ (w.alloc (.cells #[a, b, c, d] E)).cell? ⟨w.heap.size, 1, none⟩ = some b ∧
    (w.alloc (.cells #[a, b, c, d] E)).cell? ⟨w.heap.size, 2, none⟩ = some c ∧ (w.alloc (.cells #[a, b, c, d] E)).cell? ⟨w.heap.size, 3, none⟩ = some d := by simp

set_option maxRecDepth 20000 in
set_option maxHeartbeats 4000000 in
theorem cover_small (s : ByteArray) (n wd : Int) (w : World) (hs : s.size ≤ 400) : Calls Tryd.prog 6 #[.string s, .int .i64 n, .int .i64 wd] w fun e w' => e = .returned (.bool true) ∧ Below w.heap.size w w' := by
  have hi : (s.size : Int) ≤ 400 := by omega
  have hl := size_len s
  obtain ⟨G, hG⟩ : ∃ G, rgo s.data.toList n wd s.size 0 = G := ⟨_, rfl⟩
  obtain ⟨B, hB⟩ : ∃ B, breaks s.data.toList = B := ⟨_, rfl⟩
  have hGl : G.length ≤ s.size := by rw [← hG]; exact rgo_len _ _ _ _ _
  have hBl : B.length ≤ s.size + 1 := by have := ends_len s.data.toList; rw [← hB]; simp [ends] at this; omega
  have cA := fun wx => lines_all s n wd wx (by omega)
  have cB := fun wx => breaks_any s wx (by omega)
  rw [hG] at cA
  rw [hB] at cB
  have CA := Lib.hid cA
  have CB := Lib.hid cB
  have HG := Lib.hid hG
  have HB := Lib.hid hB
  clear cA cB hG hB
  go_enter Tryd.func6, Tryd.ntmps6
  go_wp2_with (first
    | (go_at_call 12; refine (fit_true _).mono ?_; rintro e w1 ⟨rfl, hb1⟩)
    | (go_at_call 18; refine (CB.out _).mono ?_; rintro e w2 ⟨v2, rfl, ho2, hb2⟩)
    | (go_at_call 20; refine (CA.out _).mono ?_; rintro e w3 ⟨v3, rfl, ho3, hb3⟩; have ho4 := own_below ho2 hb3 (Nat.le_refl _); obtain ⟨a2, cap2, rfl, hcap2, hmx2, hrd2⟩ := own_reads ho4; obtain ⟨a3, cap3, rfl, hcap3, hmx3, hrd3⟩ := own_reads ho3; clear ho2 ho3 ho4))
  have hbt : Below w.heap.size w w3 := (hb1.trans (hb2.mono hb1.size)).trans (hb3.mono (by have := hb1.size; have := hb2.size; omega))
  go_loopw [7, 26] (fun av iv wr => ∃ (k fr f : Nat), k ≤ G.length ∧ fr ≤ s.size ∧ av = .int .i64 fr ∧ iv = .int .i64 k ∧ Cut s.data.toList fr ∧ s.size ≤ fr + f ∧ rgo s.data.toList n wd f fr = G.drop k ∧ Below w3.heap.size w3 wr) (fun _ iv _ => G.length - (intOf iv).toNat)
  case atStart => exact ⟨0, 0, s.size, Nat.zero_le _, Nat.zero_le _, rfl, rfl, .zero _, by omega, HG.out, Below.refl _ _⟩
  case round =>
    obtain ⟨k, fr, f, hk, hfr, rfl, rfl, hcut, hf, hr, hbw⟩ := hrel
    by_cases hlt : k < G.length
    · have hfl : fr < s.data.toList.length := by
        rcases Nat.lt_or_ge fr s.data.toList.length with h | h
        · exact h
        · rw [rgo_end _ _ _ _ _ h] at hr
          have := congrArg List.length hr
          simp at this
          omega
      obtain ⟨nx, tt, wi, f', hok, hcut', hf', hr'⟩ := rgo_cons s.data.toList n wd f fr hfl hcut (by omega)
      rw [hr', List.drop_eq_getElem_cons hlt] at hr
      obtain ⟨hx, hrest⟩ := List.cons.inj hr
      rcases hrd3 with ⟨_, h0⟩ | ⟨b3, rfl, hb3', hbb3, hcell3⟩
      · omega
      have cc : ∀ j : Nat, j < 4 → (lnsV G)[k * 4 + j]? = (lnV (fr, tt, nx, wi))[j]? := fun j hj => by rw [lnsV_at G k hlt j hj, ← hx]
      have kk3 : ∀ j u, j < 4 → (lnV (fr, tt, nx, wi))[j]? = some u → wr.cell? ⟨b3, k * 4 + j, none⟩ = some u := fun j u hj hu => by
        rw [hbw.cell (p := ⟨b3, k * 4 + j, none⟩) hbb3]; exact hcell3 _ _ ((cc j hj).trans hu)
      have q0 := kk3 0 _ (by omega) rfl
      have q1 := kk3 1 _ (by omega) rfl
      have q2 := kk3 2 _ (by omega) rfl
      have q3 := kk3 3 _ (by omega) rfl
      rw [Nat.add_zero] at q0
      simp only at q0 q1 q2 q3
      have hz3 : b3 < wr.heap.size := by have := hbw.size; omega
      have hk0 : (0 : Int) ≤ (k : Int) := by omega
      have hk1 : (k : Int) < (G.length : Int) := by omega
      have HREST := Lib.hid hrest
      have HOK := Lib.hid hok
      have i1 : (fr : Int) ≤ (tt : Int) := by have := hok.h1; omega
      have i2 : (tt : Int) ≤ (nx : Int) := by have := hok.h2; omega
      have i3 : (fr : Int) < (nx : Int) := by have := hok.h3; omega
      have i4 : (nx : Int) ≤ (s.size : Int) := by have := hok.h4; omega
      have i5 : tt ≤ s.size := by omega
      have i6 : fr ≤ tt := by omega
      have cW : ∀ wx, Calls Tryd.prog 22 #[.string (s.extract fr tt), .int .i64 n] wx fun e w' => e = .returned (.int .i64 wi) ∧ Below wx.heap.size wx w' := fun wx => by
        have := width_any (s.extract fr tt) n wx (by simp only [ByteArray.size_extract]; omega)
        rwa [extract_sub, ← hok.hw] at this
      have CW := Lib.hid cW
      clear hcell3 cc kk3 hx hr hr' hok hrest cW
      go_wp2_with fail
      obtain ⟨bl, hbl⟩ : ∃ bl, wr.heap.size = bl := ⟨_, rfl⟩
      obtain ⟨wa, hwa⟩ : ∃ wa : World, wr.alloc (.cells #[.int .i64 (fr : Int), .int .i64 (tt : Int), .int .i64 (nx : Int), .int .i64 wi] 35) = wa := ⟨_, rfl⟩
      obtain ⟨d0, d1, d2, d3⟩ := new4 wr (.int .i64 (fr : Int)) (.int .i64 (tt : Int)) (.int .i64 (nx : Int)) (.int .i64 wi) 35
      rw [hwa, hbl] at d0 d1 d2 d3
      have hba : Below w3.heap.size w3 wa := by rw [← hwa]; exact hbw.alloc hbw.size _
      have hbl2 : bl < wa.heap.size := by rw [← hwa, ← hbl]; simp
      rw [hwa, hbl]
      clear q0 q1 q2 q3 hwa hbl hbw
      have j1 : ¬ (tt : Int) < (fr : Int) := by omega
      have j2 : ¬ (nx : Int) < (tt : Int) := by omega
      have j3 : ¬ (nx : Int) ≤ (fr : Int) := by omega
      have j4 : ¬ (s.size : Int) < (nx : Int) := by omega
      go_region_held3 (fun w' => w'.cell? ⟨bl, 0, none⟩ = some (.int .i64 (fr : Int)) ∧ w'.cell? ⟨bl, 1, none⟩ = some (.int .i64 (tt : Int)) ∧ w'.cell? ⟨bl, 2, none⟩ = some (.int .i64 (nx : Int)) ∧ w'.cell? ⟨bl, 3, none⟩ = some (.int .i64 wi) ∧ Below wa.heap.size wa w') (first | exact ⟨d0, d1, d2, d3, (Below.refl _ wa).drew⟩ | (apply snext4 hbl2; rotate_left; assumption; assumption) | go_keep) (first | (go_at_call 22; with_reducible refine (CW.out _).mono ?_; rintro e' w4 ⟨rfl, hb4⟩))
      obtain ⟨c0, c1, c2, c3, hb5⟩ : w4.cell? ⟨bl, 0, none⟩ = some (.int .i64 (fr : Int)) ∧ w4.cell? ⟨bl, 1, none⟩ = some (.int .i64 (tt : Int)) ∧ w4.cell? ⟨bl, 2, none⟩ = some (.int .i64 (nx : Int)) ∧ w4.cell? ⟨bl, 3, none⟩ = some (.int .i64 wi) ∧ Below wa.heap.size wa w4 := by assumption
      clear d0 d1 d2 d3
      have hb6 : Below w3.heap.size w3 w4 := hba.trans (hb5.mono hba.size)
      have hbl4 : bl < w4.heap.size := Nat.lt_of_lt_of_le hbl2 hb5.size
      clear hb5 hba hbl2
      rename_i hhx
      clear hhx
      go_wp2_with fail
      go_loopw [11] (fun iv wx => ∃ j : Nat, tt ≤ j ∧ j ≤ nx ∧ iv = .int .i64 j ∧ wx = w4) (fun iv _ => nx - (intOf iv).toNat)
      case atStart => exact ⟨tt, Nat.le_refl _, by omega, rfl, rfl⟩
      case round =>
        obtain ⟨j, hj1, hj2, rfl, rfl⟩ := hrel
        by_cases hjn : j < nx
        · have hjs : j < s.size := by omega
          have hwh := HOK.out.hwhite j hj1 hjn
          rw [getD_at s j hjs, ← wrap32_byte] at hwh
          have HWH := Lib.hid hwh
          have hji : (j : Int) < (nx : Int) := by omega
          clear hwh
          go_wp2_with (go_at_call 23; refine (rwhite_any _ _).mono ?_; rintro e w' ⟨rfl, rfl⟩)
          · have h := HWH.out
            simp_all
          · go_roundw
            case rel => refine ⟨j + 1, by omega, by omega, by go_num, ?_⟩; first | rfl | trivial
            case measure => simp [intOf]; omega
        · have hji : ¬ (j : Int) < (nx : Int) := by omega
          go_wp2_with fail
          obtain ⟨wo, rfl⟩ : ∃ wo : World, wo = wr := ⟨_, rfl⟩
          go_loopw [91] (fun iv wx => ∃ m : Nat, m ≤ B.length ∧ iv = .int .i64 m ∧ Below wo.heap.size wo wx) (fun iv _ => B.length - (intOf iv).toNat)
          case atStart => exact ⟨0, Nat.zero_le _, rfl, Below.refl _ _⟩
          case round =>
            obtain ⟨m, hm, rfl, hbo⟩ := hrel
            have c0 := (hbo.cell (p := ⟨bl, 0, none⟩) hbl4).trans c0
            have c1 := (hbo.cell (p := ⟨bl, 1, none⟩) hbl4).trans c1
            have c2 := (hbo.cell (p := ⟨bl, 2, none⟩) hbl4).trans c2
            have c3 := (hbo.cell (p := ⟨bl, 3, none⟩) hbl4).trans c3
            have hbw := hb6.trans (hbo.mono hb6.size)
            by_cases hmb : m < B.length
            · rcases hrd2 with ⟨_, h0⟩ | ⟨b2, rfl, hb2', hbb2, hcell2⟩
              · omega
              obtain ⟨b, hbb⟩ : ∃ b, B[m] = b := ⟨_, rfl⟩
              have hmem : b ∈ B := by rw [← hbb]; exact List.getElem_mem hmb
              have cb : wr.cell? ⟨b2, m, none⟩ = some (.int .i64 (b : Int)) := by
                rw [hbw.cell (p := ⟨b2, m, none⟩) hbb2, ← hbb]
                refine hcell2 m _ ?_
                simp [intV, hmb]
              have hbs : b < s.data.toList.length := (breaks_mem s.data.toList b (by rw [HB.out]; exact hmem)).2
              have hin := HOK.out.hin b (by rw [HB.out]; exact hmem)
              have hout := HOK.out.hout b (by rw [HB.out]; exact hmem)
              have hm0 : (0 : Int) ≤ (m : Int) ∧ (m : Int) < (B.length : Int) := by omega
              clear hcell2 hbb
              by_cases hnb : nx < b
              · have hW := hout hnb
                have hnbi : (nx : Int) < (b : Int) := by omega
                have hfbi : (fr : Int) < (b : Int) := by omega
                have hbni : ¬ (b : Int) < (nx : Int) := by omega
                clear hin hout
                have cT := fun wx => trim_any s fr b wx (by omega) (by omega) (by omega)
                have t1 := trimTo_le s.data.toList fr b
                have t2 := trimTo_ge s.data.toList fr b (by omega)
                obtain ⟨t, ht⟩ : ∃ t, trimTo s.data.toList fr b = t := ⟨_, rfl⟩
                rw [ht] at cT t1 t2 hW
                obtain ⟨W, hWW⟩ : ∃ W, width (sub s.data.toList fr t) n = W := ⟨_, rfl⟩
                rw [hWW] at hW
                have cU : ∀ wx, Calls Tryd.prog 22 #[.string (s.extract fr t), .int .i64 n] wx fun e w' => e = .returned (.int .i64 W) ∧ Below wx.heap.size wx w' := fun wx => by
                  have := width_any (s.extract fr t) n wx (by simp only [ByteArray.size_extract]; omega)
                  rwa [extract_sub, hWW] at this
                have CT := Lib.hid cT
                have CU := Lib.hid cU
                have u1 : (fr : Int) ≤ (t : Int) := by omega
                have u2 : (t : Int) ≤ (s.size : Int) := by omega
                have u3 : ¬ W ≤ wd := by omega
                clear cT cU ht hWW
                obtain ⟨wp, rfl⟩ : ∃ wp : World, wp = wr := ⟨_, rfl⟩
                have hblp : bl < wp.heap.size := Nat.lt_of_lt_of_le hbl4 hbo.size
                go_wp2_with fail
                go_region_held3 (fun w' => w'.cell? ⟨bl, 0, none⟩ = some (.int .i64 (fr : Int)) ∧ Below wp.heap.size wp w') (first | exact ⟨c0, (Below.refl _ wp).drew⟩ | (apply snext hblp; rotate_left; assumption; assumption) | go_keep) (first | (go_at_call 24; with_reducible refine (CT.out _).mono ?_; rintro e' w4 ⟨rfl, rfl⟩) | (go_at_call 22; with_reducible refine (CU.out _).mono ?_; rintro e' w5 ⟨rfl, hb9⟩))
                have hF := s_right (w1 := wp) (b2 := bl) (k := 0) (.int .i64 (fr : Int)) (by assumption)
                have c2 := (hF.cell (p := ⟨bl, 2, none⟩) hblp).trans c2
                have H1 := Lib.hid HREST.out
                go_wp2_with fail
                go_roundw
                case rel => exact ⟨k + 1, nx, f', by omega, by omega, by go_num, by go_num, hcut', by omega, H1.out, hbw.trans (hF.mono hbw.size)⟩
                case measure => simp [intOf]; omega
              · have hnbi : ¬ (nx : Int) < (b : Int) := by omega
                by_cases hfb : fr < b ∧ b < nx
                · have hwi := hin hfb.1 hfb.2
                  clear hin hout
                  obtain ⟨hfb1, hfb2⟩ := hfb
                  have g1 : (fr : Int) < (b : Int) := by omega
                  have g2 : (b : Int) < (nx : Int) := by omega
                  go_wp2_with fail
                  all_goals
                    go_roundw
                    case rel => exact ⟨m + 1, by omega, by go_num, hbo⟩
                    case measure => simp [intOf]; omega
                · clear hin hout
                  go_wp2_with fail
                  all_goals
                    go_roundw
                    case rel => exact ⟨m + 1, by omega, by go_num, hbo⟩
                    case measure => simp [intOf]; omega
            · obtain rfl : m = B.length := by omega
              have H1 := Lib.hid HREST.out
              clear hrd2 hm hmb hfl
              go_wp2_with fail
              have h1 := H1.out
              go_roundw
              case rel => exact ⟨k + 1, nx, f', by omega, by omega, by go_num, by go_num, hcut', by omega, h1, hbw⟩
              case measure => simp [intOf]; omega
    · have hfs : fr = s.size := by
        rw [List.drop_eq_nil_of_le (by omega)] at hr
        rcases Nat.lt_or_ge fr s.data.toList.length with h | h
        · obtain ⟨nx, tt, wi, f', _, _, _, h5⟩ := rgo_cons s.data.toList n wd f fr h hcut (by omega)
          rw [h5] at hr
          cases hr
        · omega
      subst hfs
      have hki : ¬ (k : Int) < (G.length : Int) := by omega
      go_wp2_with fail
      go_ret
      exact ⟨rfl, hbt.trans (hbw.mono hbt.size)⟩
theorem cover_law (s : ByteArray) (n wd : Int) (w : World) : Calls Tryd.prog 6 #[.string s, .int .i64 n, .int .i64 wd] w fun e w' => e = .returned (.bool true) ∧ Below w.heap.size w w' := by
  by_cases hs : s.size ≤ 400
  · exact cover_small s n wd w hs
  · have hi : 400 < (s.size : Int) := by omega
    go_enter Tryd.func6, Tryd.ntmps6
    go_wp2_with (go_at_call 12; refine (fit_true _).mono ?_; rintro e w1 ⟨rfl, hb1⟩)
    go_ret
    exact ⟨rfl, hb1⟩
end Go.Proofs.YtcpklmolofbopaaDoor
