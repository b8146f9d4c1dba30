/- Cache: the laws' copy of a cache. -/
import Derived.Test.YtkobhknggamejaaGreatDoorHR
namespace Go.Proofs.YtkobhknggamejaaGreatDoor
set_option linter.unusedVariables false
set_option linter.unusedSimpArgs false
open Go.RowKit

/-- a copy of a cache: it reads the same, and all its memory is new -/
def CloneQ (w : World) (es : List En) (x : Ending) (w' : World) : Prop := ∃ (jb : Nat) (a : Option Addr) (c : Nat) (lo : List Ee), x = .returned (.pointer (some ⟨jb, 0, none⟩)) ∧ w.heap.size ≤ jb ∧ CaIn w' jb w.heap.size (.slice a lo.length c) lo ∧ lo.map (·.2) = es ∧ Below w.heap.size w w'
def CpAt (w4 : World) (N : Nat) (r : Er) (e : En) (w5 : World) : Prop := ∃ (a b : Option Addr) (c d : Nat), AtL w5 N [.string r.u, .slice a e.va.length c, .int .i64 r.st, .slice b e.hd.length d, .string r.bo, .int .i64 r.ti] ∧ SlK hdC 2 w5 (.slice a e.va.length c) e.va ∧ SlK hdC 2 w5 (.slice b e.hd.length d) e.hd ∧ NewE (⟨r.u, .slice a e.va.length c, r.st, .slice b e.hd.length d, r.bo, r.ti⟩, e) w4.heap.size ∧ BelowBut w4.heap.size N w4 w5
theorem cpat_mk {w4 w6 w7 : World} {N : Nat} {u bo : ByteArray} {st ti : Int} {e : En} {vv hh : Value} {a b : Option Addr} {c d : Nat} (hN : N < w4.heap.size) (X : AtL w7 N [.string u, vv, .int .i64 st, hh, .string bo, .int .i64 ti]) (h6 : SlK hdC 2 w6 (.slice a e.va.length c) e.va) (n6 : ∀ b' off n k, Value.slice a e.va.length c = .slice (some ⟨b', off, none⟩) n k → w4.heap.size ≤ b') (b6 : Below w4.heap.size w4 w6) (h7 : SlK hdC 2 w7 (.slice b e.hd.length d) e.hd) (n7 : ∀ b' off n k, Value.slice b e.hd.length d = .slice (some ⟨b', off, none⟩) n k → w6.heap.size ≤ b') (b7 : Below w6.heap.size w6 w7) :
    CpAt w4 N ⟨u, vv, st, hh, bo, ti⟩ e ((w7.setCell ⟨N, 1, none⟩ (.slice a e.va.length c)).setCell ⟨N, 3, none⟩ (.slice b e.hd.length d)) := by
  have f6 : ∀ b' off n k, Value.slice a e.va.length c = .slice (some ⟨b', off, none⟩) n k → b' ≠ N := fun b' off n k h => by have := n6 b' off n k h; omega
  have f7 : ∀ b' off n k, Value.slice b e.hd.length d = .slice (some ⟨b', off, none⟩) n k → b' ≠ N := fun b' off n k h => by have := n7 b' off n k h; have := b6.size; omega
  refine ⟨a, b, c, d, (X.set 1 _).set 3 _, slk_cell (slk_cell (h6.below b7 (Nat.le_refl _)) ⟨N, 1, none⟩ _ f6) ⟨N, 3, none⟩ _ f6, slk_cell (slk_cell h7 ⟨N, 1, none⟩ _ f7) ⟨N, 3, none⟩ _ f7, ⟨fun b' off n k h => n6 b' off n k h, fun b' off n k h => Nat.le_trans b6.size (n7 b' off n k h)⟩, ?_⟩
  exact (((BelowBut.refl w4.heap.size N w4).below b6 (Nat.le_refl _)).below b7 b6.size).setCell ⟨N, 1, none⟩ (Or.inl rfl) _ |>.setCell ⟨N, 3, none⟩ (Or.inl rfl) _
set_option maxRecDepth 20000 in
set_option maxHeartbeats 4000000 in
theorem clone_is43 (l : List Ee) (v : Value) (w : World) (hv : SlK eeC 6 w v l) (hr : ∀ x ∈ l, Rd w x.1 x.2) (hz : ∀ x ∈ l, x.2.va.length ≤ 1000000 ∧ x.2.hd.length ≤ 1000000) (hl : l.length ≤ 1000) (es : List En) (hes : l.map (·.2) = es) :
    Calls Tryz.prog 23 #[.agg #[v]] w (CloneQ w es) := by
  have HES := Lib.hid hes
  have HZ := Lib.hid hz
  have HC : Hid (0 < l.length → ∃ b0 off cap : Nat, v = .slice (some ⟨b0, off, none⟩) l.length cap ∧ ∀ kk (h : kk < l.length) j u, (eeC l[kk])[j]? = some u → w.cell? ⟨b0, off + kk * 6 + j, none⟩ = some u) := Lib.hid (by
    intro h0
    rcases hv with ⟨rfl, _⟩ | ⟨_, b0, off, cap, he, hc1, hc2, hc3, hcell⟩
    · simp at h0
    · exact ⟨b0, off, cap, he, hcell⟩)
  have hB0 : Below w.heap.size w ((w.alloc (.cells [v].toArray 35)).alloc (.cells [.slice none 0 0].toArray 35)) := ((Below.refl _ w).alloc (Nat.le_refl _) _).alloc (by simp) _
  have K0 := AtL.new (w.alloc (.cells [v].toArray 35)) [.slice none 0 0] 35
  have J0 := (AtL.new w [v] 35).alloc (.cells [.slice none 0 0].toArray 35)
  rw [show (w.alloc (.cells [v].toArray 35)).heap.size = w.heap.size + 1 by simp] at K0
  have HRD := Lib.hid hr
  obtain ⟨sa, sc, rfl, _⟩ := hv.shape
  have hca : CaIn ((w.alloc (.cells [.slice sa l.length sc].toArray 35)).alloc (.cells [.slice none 0 0].toArray 35)) (w.heap.size + 1) w.heap.size (.slice none 0 0) [] := ⟨K0, World.ownsRow_nil _ _ _ _, by simp [Value.ownBlock], hB0.size, (fun x hx => by cases hx), (fun x hx => by cases hx)⟩
  clear hv hr hz hes
  have j0 := J0.c 0 rfl
  have jl := J0.lt
  go_enter Tryz.func23, Tryz.ntmps23
  go_wp2_with fail
  obtain ⟨w1, hw1⟩ : ∃ w1 : World, (w.alloc (.cells [.slice sa l.length sc].toArray 35)).alloc (.cells [.slice none 0 0].toArray 35) = w1 := ⟨_, rfl⟩
  obtain ⟨B, hB⟩ : ∃ B, w.heap.size = B := ⟨_, rfl⟩
  obtain ⟨K, hK⟩ : ∃ K, B + 1 = K := ⟨_, rfl⟩
  rw [hB] at hB0 hca
  rw [hK] at hca
  rw [hw1] at hB0 hca
  rw [hw1, hB, hK]
  have HBB := Lib.hid hB
  have hBK : B ≤ K := by omega
  clear hw1 hB hK K0 J0 j0 jl
  go_loopw [11] (fun iv wr => ∃ (k : Nat) (u : Value) (lo : List Ee), k ≤ l.length ∧ iv = .int .i64 k ∧ Hid (lo.map (·.2) = (l.take k).map (·.2)) ∧ CaIn wr K B u lo ∧ Below B w wr) (fun iv _ => l.length - (intOf iv).toNat)
  case atStart => exact ⟨0, _, [], Nat.zero_le _, rfl, Lib.hid rfl, hca, hB0⟩
  case round =>
    obtain ⟨kk, ur, lo, hk, rfl, HM, hJ, hbw⟩ := hrel
    have hlo : lo.length = kk := by
      have := congrArg List.length HM.out
      simp at this; omega
    have hjl := hJ.at_.lt
    have hwB := HBB.out
    by_cases hlt : kk < l.length
    · obtain ⟨b0, off, cap, he, hcell⟩ := HC.out (by omega)
      injection he with e1 e2 e3
      subst e1 e3
      have hmem : l[kk] ∈ l := List.getElem_mem hlt
      have hrd0 := HRD.out _ hmem
      have hzz := HZ.out _ hmem
      have cc : ∀ j u, (eeC l[kk])[j]? = some u → wr.cell? ⟨b0, off + kk * 6 + j, none⟩ = some u := fun j u hu => (hbw.cell (p := ⟨b0, off + kk * 6 + j, none⟩) (by have := cell_lt (hcell kk hlt j u hu); show b0 < B; omega)).trans (hcell kk hlt j u hu)
      have hst : (l.take (kk + 1)).map (·.2) = (l.take kk).map (·.2) ++ [l[kk].2] := by
        rw [List.take_succ_eq_append_getElem hlt, List.map_append]; rfl
      obtain ⟨y, hy⟩ : ∃ y, l[kk] = y := ⟨_, rfl⟩
      rw [hy] at cc hrd0 hzz hst
      have hrd := hrd0.below hbw (by omega)
      obtain ⟨⟨a1, n1, k1, f1⟩, a2, n2, k2, f2⟩ := hrd.shp
      clear hy hcell e2 hmem
      obtain ⟨⟨u, vv, st, hh, bo, ti⟩, ex⟩ := y
      have f1 : vv = .slice a1 n1 k1 := f1
      have f2 : hh = .slice a2 n2 k2 := f2
      subst f1 f2
      have c0 := cc 0 _ rfl
      have c1 := cc 1 _ rfl
      have c2 := cc 2 _ rfl
      have c3 := cc 3 _ rfl
      have c4 := cc 4 _ rfl
      have c5 := cc 5 _ rfl
      simp only [Nat.add_zero] at c0
      have HST := Lib.hid hst
      have hki : (kk : Int) < (l.length : Int) := by omega
      have hal := (Below.refl _ wr).alloc (Nat.le_refl _) (.cells [.string u, .slice a1 n1 k1, .int .i64 st, .slice a2 n2 k2, .string bo, .int .i64 ti].toArray 40)
      have X4 := AtL.new wr [.string u, .slice a1 n1 k1, .int .i64 st, .slice a2 n2 k2, .string bo, .int .i64 ti] 40
      have hva : SlK hdC 2 wr (.slice a1 n1 k1) ex.va := hrd.va
      have hhd : SlK hdC 2 wr (.slice a2 n2 k2) ex.hd := hrd.hd
      have hva4 := (hva.below hal (Nat.le_refl _)).below (Below.refl _ _).drew (Nat.le_refl _)
      have hhd4 := (hhd.below hal (Nat.le_refl _)).below (Below.refl _ _).drew (Nat.le_refl _)
      have C1 := Lib.hid (fun w hv => lcp_is ex.va (.slice a1 n1 k1) w hv hzz.1)
      have C2 := Lib.hid (fun w hv => lcp_is ex.hd (.slice a2 n2 k2) w hv hzz.2)
      have HJ := Lib.hid hJ
      have HRE : Hid (u = ex.u ∧ st = ex.st ∧ bo = ex.bo ∧ ti = ex.ti) := Lib.hid ⟨hrd.u, hrd.st, hrd.bo, hrd.ti⟩
      have HLO := Lib.hid hlo
      clear cc hst hva hhd hrd hrd0 hzz hJ hlo
      go_upto_region 5 with fail
      obtain ⟨w4, hw4⟩ : ∃ w4 : World, wr.alloc (.cells [.string u, .slice a1 n1 k1, .int .i64 st, .slice a2 n2 k2, .string bo, .int .i64 ti].toArray 40) = w4 := ⟨_, rfl⟩
      obtain ⟨N, hN⟩ : ∃ N, wr.heap.size = N := ⟨_, rfl⟩
      rw [hw4] at hal X4 hva4 hhd4
      rw [hN] at X4 hal
      rw [hw4, hN]
      have HNN := Lib.hid hN
      clear hw4 hN c0 c1 c2 c3 c4 c5
      have hN4 := X4.lt
      go_cut [] from 15 to 22 (fun w5 => CpAt w4 N ⟨u, .slice a1 n1 k1, st, .slice a2 n2 k2, bo, ti⟩ ex w5)
      case first =>
        have z0 := X4.c 0 rfl; have z1 := X4.c 1 rfl; have z2 := X4.c 2 rfl; have z3 := X4.c 3 rfl; have z4 := X4.c 4 rfl; have z5 := X4.c 5 rfl
        go_region_with (first
          | (go_at_call 30; (with_reducible refine (C1.out w4.drew hva4).mono ?_); rintro e w6 hq6; obtain ⟨a6, c6, rfl, hs6, hb6, hn6⟩ := cloq_open hq6; clear hq6; have X6 := X4.drew.next hb6; have y3 := X6.c 3 rfl; have y1 := X6.c 1 rfl; have xl6 := X6.lt; have hhd6 := hhd4.below hb6 (Nat.le_refl _))
          | (go_at_call 30; (with_reducible refine (C2.out w6 hhd6).mono ?_); rintro e w7 hq7; obtain ⟨a7, c7, rfl, hs7, hb7, hn7⟩ := cloq_open hq7; clear hq7 y3 y1; have X7 := X6.next hb7; have y1 := X7.c 1 rfl; have g1 := X7.f 1 rfl; have y3 := X7.c 3 rfl; have g3 := X7.f 3 rfl; have xl7 := X7.lt))
        all_goals
          go_wp2_with fail
          go_meet
          case rel => exact cpat_mk hN4 X7 hs6 hn6 ((Below.refl _ w4).drew.trans hb6) hs7 hn7 hb7
      case rest =>
        obtain ⟨a, b, c, d, X5, sva, shd, hnew, hbb⟩ := hcut
        have hjK := HJ.out.at_.lt
        have hwN := HNN.out
        have hb5 : Below N wr wc := BelowBut.to_below hbb hal (by omega) (Nat.le_refl _)
        have RS5 := HJ.out.below hb5 (Nat.le_of_eq hwN)
        have hown5 := hown_lt HJ.out.own
        have hfx : FarE (⟨u, .slice a ex.va.length c, st, .slice b ex.hd.length d, bo, ti⟩, ex) K ur.ownBlock := hnew.far (by omega) (fun b e => by have := hown5 b e; omega)
        have hrx : Rd wc (⟨u, .slice a ex.va.length c, st, .slice b ex.hd.length d, bo, ti⟩ : Er) ex := ⟨HRE.out.1, HRE.out.2.1, HRE.out.2.2.1, HRE.out.2.2.2, sva, shd⟩
        have HFX := Lib.hid hfx
        have HRX := Lib.hid hrx
        have HONE := Lib.hid (one6 (⟨u, .slice a ex.va.length c, st, .slice b ex.hd.length d, bo, ti⟩, ex) ⟨⟨_, _, _, rfl⟩, ⟨_, _, _, rfl⟩⟩)
        obtain ⟨ra, rc, rfl, _⟩ := own_reads RS5.own
        have HRS := Lib.hid RS5
        have hKN : K ≠ N := by omega
        have q0 := RS5.at_.c 0 rfl
        have g0 := RS5.at_.f 0 rfl
        have hK5 := RS5.at_.lt
        have hB5 := RS5.le
        have hll := HLO.out
        have z0 := X5.c 0 rfl; have z1 := X5.c 1 rfl; have z2 := X5.c 2 rfl; have z3 := X5.c 3 rfl; have z4 := X5.c 4 rfl; have z5 := X5.c 5 rfl
        have xl5 := X5.lt
        have hfin : Below B w wc := hbw.trans (hb5.mono (by have := hbw.size; omega))
        have HFIN := Lib.hid hfin
        clear RS5 hown5 hfx hrx hfin hnew sva shd hbb hll
        have hll : lo.length ≤ 1000 := by have := HLO.out; omega
        go_wp2_with fail
        have hal1 := (Below.refl _ wc).alloc (Nat.le_refl _) (.cells (eeC (⟨u, .slice a ex.va.length c, st, .slice b ex.hd.length d, bo, ti⟩, ex)).toArray 40)
        have R9 := (HRS.out.row.al (.cells (eeC (⟨u, .slice a ex.va.length c, st, .slice b ex.hd.length d, bo, ti⟩, ex)).toArray 40)).dr
        have X9 : Rd (wc.alloc (.cells (eeC (⟨u, .slice a ex.va.length c, st, .slice b ex.hd.length d, bo, ti⟩, ex)).toArray 40)).drew (⟨u, .slice a ex.va.length c, st, .slice b ex.hd.length d, bo, ti⟩ : Er) ex := HRX.out.below hal1.drew (Nat.le_refl _)
        have J9 := (HRS.out.at_.alloc (.cells (eeC (⟨u, .slice a ex.va.length c, st, .slice b ex.hd.length d, bo, ti⟩, ex)).toArray 40)).drew
        have B9 := (HFIN.out.alloc hB5 (.cells (eeC (⟨u, .slice a ex.va.length c, st, .slice b ex.hd.length d, bo, ti⟩, ex)).toArray 40)).drew
        have HR9 := Lib.hid R9
        have HX9 := Lib.hid X9
        have HJ9 := Lib.hid J9
        have HB9 := Lib.hid B9
        have hs9 : B ≤ (wc.alloc (.cells (eeC (⟨u, .slice a ex.va.length c, st, .slice b ex.hd.length d, bo, ti⟩, ex)).toArray 40)).drew.heap.size := by simp; omega
        have hk9 : K < (wc.alloc (.cells (eeC (⟨u, .slice a ex.va.length c, st, .slice b ex.hd.length d, bo, ti⟩, ex)).toArray 40)).drew.heap.size := by simp; omega
        have HS9 := Lib.hid hs9
        have HK9 := Lib.hid hk9
        clear R9 X9 J9 B9 hal1 hs9 hk9
        go_region_law (first
          | (refine step_appG slE (wc.alloc (.cells (eeC (⟨u, .slice a ex.va.length c, st, .slice b ex.hd.length d, bo, ti⟩, ex)).toArray 40)).drew (by rfl) (.tmp 27) (.tmp 29) (by rfl) B _ lo.length (cellsK eeC lo) (by rfl) HR9.out.own (eeC (⟨u, .slice a ex.va.length c, st, .slice b ex.hd.length d, bo, ti⟩, ex)) 1 wc.heap.size (by rfl) (AtL.new wc (eeC (⟨u, .slice a ex.va.length c, st, .slice b ex.hd.length d, bo, ti⟩, ex)) 40).drew rfl HONE.out (by decide) (by omega) (by omega) HS9.out ?_; intro g5 cap5 w8 hown8 hgrow hat hlt8; have F8 := RowIn.app HR9.out HX9.out HFX.out HK9.out rfl hown8 hgrow hat; have J8 := HJ9.out.grown hgrow HR9.out.ne; have B8 := below_own HB9.out HR9.out.own hgrow HS9.out (Nat.le_refl _); have t8 := J8.c 0 rfl; have s8 := J8.f 0 rfl; have jl8 := J8.lt))
        all_goals
          go_wp2_with fail
          go_roundw
          case rel => exact ⟨kk + 1, _, lo ++ [(⟨u, .slice a ex.va.length c, st, .slice b ex.hd.length d, bo, ti⟩, ex)], by omega, by go_num, Lib.hid (by rw [HST.out, List.map_append, HM.out]; rfl), F8.1.store J8, B8.setCell (p := ⟨K, 0, none⟩) hBK _⟩
          case measure => simp [intOf]; omega
    · obtain rfl : kk = l.length := by omega
      have hm := HM.out
      rw [List.take_length, HES.out] at hm
      obtain ⟨ra, rc, rfl, _⟩ := own_reads hJ.own
      have HJ := Lib.hid hJ
      have HMM := Lib.hid hm
      clear hm hJ HM hlo
      go_wp2_with fail
      go_ret
      exact ⟨K, ra, rc, lo, rfl, by omega, by rw [hwB]; exact HJ.out, HMM.out, by rw [hwB]; exact hbw⟩
end Go.Proofs.YtkobhknggamejaaGreatDoor
