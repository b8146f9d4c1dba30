/- Cache: Ask where an entry answers: chk1. -/
import Derived.Test.YtkobhknggamejaaGreatDoorHS
namespace Go.Proofs.YtkobhknggamejaaGreatDoor
set_option linter.unusedVariables false
set_option linter.unusedSimpArgs false
open Go.RowKit

set_option maxRecDepth 20000 in
set_option maxHeartbeats 4000000 in
theorem ask_chk1 (jb B : Nat) (v : Value) (l : List Ee) (w : World) (hM : MaxAt w) (hJ : CaIn w jb B v l) (hz : ∀ x ∈ l, HdSz x.2.va ∧ HdSz x.2.hd) (hl : l.length ≤ 1000) (url : ByteArray) (rq : List Hd) (vr : Value) (hq : SlK hdC 2 w vr rq) (hzq : HdSz rq) (now : Int) (i : Nat) (hi : i < l.length) (x : Ee) (hx : l[i] = x) (hR : LastAt (fun x => ansB x.2 url rq) l (i : Int)) (d2 d3 : Bool) (d4 : Int) (hD : dirL rq = ⟨false, d2, d3, d4⟩) (hu : useB ⟨false, d2, d3, d4⟩ x.2 now = false) (L : List Hd) (hL : chkL x.2.hd = L) (hL0 : L ≠ []) :
    Calls Tryz.prog 24 #[.pointer (some ⟨jb, 0, none⟩), .string url, vr, .int .i64 now] w (AskQ w jb B v 3 x.2 L l) := by
  obtain ⟨F, hF⟩ : ∃ F, freshE x.2 now = F := ⟨_, rfl⟩
  obtain ⟨A, hA⟩ : ∃ A, ageE x.2.ti now = A := ⟨_, rfl⟩
  have hu2 : (F && (!d2 && (decide (d4 < 0) || decide (A ≤ 1000 * d4)))) = false := by rw [← hu]; unfold useB; rw [hF, hA]
  have CK1 := Lib.hid (fun (w : World) (u : Value) (hv : SlK hdC 2 w u x.2.hd) => (chk_is x.2.hd u w hv (hz x (by rw [← hx]; exact List.getElem_mem hi)).2 _ hL).mono fun e w' h => (show ∃ g c, e = Ending.returned (.slice (some ⟨g, 0, none⟩) L.length c) ∧ SlK hdC 2 w' (.slice (some ⟨g, 0, none⟩) L.length c) L ∧ w.heap.size ≤ g ∧ Below w.heap.size w w' by
    rcases hdsq_open h with ⟨h1, _⟩ | ⟨_, g, c, h1, h2, h3⟩
    · exact absurd h1 hL0
    · obtain ⟨_, _, hve, _, _, ha⟩ := own_reads h2
      injection hve with e1 _ _
      rcases ha with ⟨rfl, _⟩ | ⟨g', rfl, hg, _⟩
      · cases e1
      · injection e1 with e1
        injection e1 with e1
        exact ⟨g, c, h1, SlK.of_own hdC_len h2, by omega, h3⟩))
  clear hL0
  clear hu hL
  cases F with
  | false =>
    clear hu2
    have hjl := hJ.at_.lt
    obtain ⟨a, cap, rfl, hcap, hcm, ha⟩ := own_reads hJ.own
    rcases ha with ⟨_, h0⟩ | ⟨g, rfl, hBg, hgw, hcell⟩
    · omega
    have hmx : x ∈ l := by rw [← hx]; exact List.getElem_mem hi
    have hrdx := hJ.rd x hmx
    have hzx := hz x hmx
    have hmem : ∀ y ∈ l.eraseIdx i ++ [x], y ∈ l := by rw [← hx]; exact erase_mem l i hi
    have cc : ∀ j u, (eeC x)[j]? = some u → w.cell? ⟨g, i * 6 + j, none⟩ = some u := fun j u hu => hcell _ _ (cellsK_get eelen l i hi j u (by rw [hx]; exact hu))
    have R0 := AtL.new w pl0 45
    have hB0 : Below w.heap.size w (w.alloc (.cells pl0.toArray 45)) := (Below.refl _ w).alloc (Nat.le_refl _) _
    have J0 := hJ.below hB0 (Nat.le_refl _)
    have q0 := hq.below hB0 (Nat.le_refl _)
    have CF := Lib.hid (find_is jb _ l _ J0.at_ J0.reads (fun x hx => ⟨J0.rd x hx, (hz x hx).1⟩) hl url rq vr q0 hzq _ hR)
    have CD := Lib.hid (fun (w : World) hM hv => (dir_is rq vr w hM hv hzq ⟨false, d2, d3, d4⟩ hD).mono fun e w' (h : e = Ending.returned (dirA ⟨false, d2, d3, d4⟩) ∧ Below w.heap.size w w') => (show e = Ending.returned (.agg #[.bool false, .bool d2, .bool d3, .int .i64 d4]) ∧ Below w.heap.size w w' from h))
    have CM := Lib.hid (fun (w : World) (hJ : CaIn w jb B (.slice (some ⟨g, 0, none⟩) l.length cap) l) => move_is jb B _ l w hJ i hi hl x hx)
    have CC := Lib.hid (fun (w : World) (hr : Rd w x.1 x.2) => cop_is x w hr hzx.1.1 hzx.2.1)
    have CFr := Lib.hid (fun (w : World) (r : Er) hM (hr : Rd w r x.2) => fresh_is r x.2 now w hM hr hzx.2 _ hF)
    have CAg := Lib.hid (fun (w : World) (r : Er) (h : r.ti = x.2.ti) => eage_is r now w A (by rw [h]; exact hA))
    have hdb := dirL_bd rq
    rw [hD] at hdb
    have hda : -1 ≤ d4 := hdb.1
    have hdc : d4 < 1000000000 := hdb.2
    have hab := ageE_bd x.2.ti now
    rw [hA] at hab
    have ha0 := hab.1
    have ha1 := hab.2
    have HM := Lib.hid hM
    have HQ := Lib.hid hq
    have HJ := Lib.hid hJ
    have HI := Lib.hid hi
    have HX := Lib.hid hx
    have HRD := Lib.hid hrdx
    have HMEM := Lib.hid hmem
    have hshp := hrdx.shp
    obtain ⟨sa, sc, rfl, _⟩ := hq.shape
    have hii : (i : Int) < (l.length : Int) := by omega
    have hi0 : (0 : Int) ≤ (i : Int) := by omega
    have hgj : g ≠ jb := fun e => hJ.ne (by rw [e]; rfl)
    obtain ⟨⟨u, vv, st, hh, bo, ti⟩, xe⟩ := x
    obtain ⟨⟨a1, n1, k1, e1⟩, a2, n2, k2, e2⟩ := hshp
    have e1 : vv = .slice a1 n1 k1 := e1
    have e2 : hh = .slice a2 n2 k2 := e2
    subst e1 e2
    have HCC := Lib.hid cc
    clear cc hcell hx hD hR hq hJ hz hM hrdx hmem hmx hF hA hab hdb hzx
    go_enter Tryz.func24, Tryz.ntmps24
    go_wp2_with (first
      | (go_at_call 55; with_reducible refine CF.out.mono ?_; rintro e w1 ⟨rfl, hb1⟩; have hB1 := hB0.trans (hb1.mono hB0.size))
      | (go_at_call 14; with_reducible refine (CD.out _ (HM.out.below hB1 (Nat.le_refl _)) (HQ.out.below hB1 (Nat.le_refl _))).mono ?_; rintro e w2 ⟨rfl, hb2⟩; have hB2 := hB1.trans (hb2.mono hB1.size); have hB3 := hB2.alloc hB2.size (.cells #[.bool false, .bool d2, .bool d3, .int .i64 d4] 28); have R3 := ((R0.next hb1).next hb2).alloc (.cells #[.bool false, .bool d2, .bool d3, .int .i64 d4] 28); have D3 := AtL.new w2 [.bool false, .bool d2, .bool d3, .int .i64 d4] 28; have J3 := HJ.out.below hB3 (Nat.le_refl _); have j0 := J3.at_.c 0 rfl; have jl3 := J3.at_.lt; have c0 := (brl hB3 _ _ hgw).trans (HCC.out 0 _ rfl); have c1 := (brl hB3 _ _ hgw).trans (HCC.out 1 _ rfl); have c2 := (brl hB3 _ _ hgw).trans (HCC.out 2 _ rfl); have c3 := (brl hB3 _ _ hgw).trans (HCC.out 3 _ rfl); have c4 := (brl hB3 _ _ hgw).trans (HCC.out 4 _ rfl); have c5 := (brl hB3 _ _ hgw).trans (HCC.out 5 _ rfl); simp only [Nat.add_zero] at c0)
      | (go_at_call 56; refine (CC.out _ (HRD.out.below hB3 (Nat.le_refl _))).mono ?_; rintro e w4 hq4; obtain ⟨⟨⟨pu, pv, ps, ph, pb, pt⟩, pe⟩, rfl, hxe, hrd4, hb4, hnv, hnh⟩ := hq4; obtain ⟨⟨a3, n3, k3, e3⟩, a4, n4, k4, e4⟩ := hrd4.shp; have e3 : pv = .slice a3 n3 k3 := e3; have e4 : ph = .slice a4 n4 k4 := e4; subst e3 e4; have hxe : pe = xe := hxe; subst hxe; have hrd4 : Rd w4 ⟨pu, .slice a3 n3 k3, ps, .slice a4 n4 k4, pb, pt⟩ pe := hrd4; have hnw : NewE (⟨pu, .slice a3 n3 k3, ps, .slice a4 n4 k4, pb, pt⟩, pe) (w2.heap.size + 1) := ⟨fun b off n k e => (by have := hnv b off n k e; simp at this; omega), fun b off n k e => (by have := hnh b off n k e; simp at this; omega)⟩; clear hnv hnh j0 c0 c1 c2 c3 c4 c5))
    obtain ⟨W5, hW5⟩ : ∃ W5 : World, w4.alloc (.cells (eeC (⟨pu, .slice a3 n3 k3, ps, .slice a4 n4 k4, pb, pt⟩, pe)).toArray 40) = W5 := ⟨_, rfl⟩
    have E5 := AtL.new w4 (eeC (⟨pu, .slice a3 n3 k3, ps, .slice a4 n4 k4, pb, pt⟩, pe)) 40
    have R5 := (R3.next hb4).alloc (.cells (eeC (⟨pu, .slice a3 n3 k3, ps, .slice a4 n4 k4, pb, pt⟩, pe)).toArray 40)
    have D5 := (D3.next hb4).alloc (.cells (eeC (⟨pu, .slice a3 n3 k3, ps, .slice a4 n4 k4, pb, pt⟩, pe)).toArray 40)
    have hB4 := hB3.trans (hb4.mono hB3.size)
    have hB5 := hB4.alloc hB4.size (.cells (eeC (⟨pu, .slice a3 n3 k3, ps, .slice a4 n4 k4, pb, pt⟩, pe)).toArray 40)
    have X5 := hrd4.below ((Below.refl _ w4).alloc (Nat.le_refl _) (.cells (eeC (⟨pu, .slice a3 n3 k3, ps, .slice a4 n4 k4, pb, pt⟩, pe)).toArray 40)) (Nat.le_refl _)
    rw [hW5] at E5 R5 D5 hB5 X5
    obtain ⟨Rb, hRb⟩ : ∃ Rb, w.heap.size = Rb := ⟨_, rfl⟩
    obtain ⟨Db, hDb⟩ : ∃ Db, w2.heap.size = Db := ⟨_, rfl⟩
    obtain ⟨Eb, hEb⟩ : ∃ Eb, w4.heap.size = Eb := ⟨_, rfl⟩
    have hRD : Rb < Db := by have := (R0.next hb1).next hb2; have := this.lt; omega
    have hDE : Db < Eb := by have := (D3.next hb4).lt; omega
    rw [hEb] at E5
    rw [hDb] at D5 hnw
    rw [hRb] at R5
    have hgR : g < Rb := by omega
    have hjR : jb < Rb := by omega
    rw [hW5, hRb, hDb, hEb]
    have HRb := Lib.hid hRb
    clear hW5 hRb hDb hEb R3 D3 J3 hB4 hrd4 hb4 hB3 hB2 hB1 hb1 hb2 R0 hB0 J0 q0
    have H5 := Lib.hid hB5
    have hz5 := hB5.size
    have X5 := Lib.hid X5
    clear hB5
    have z0 := E5.c 0 rfl; have z1 := E5.c 1 rfl; have z2 := E5.c 2 rfl; have z3 := E5.c 3 rfl; have z4 := E5.c 4 rfl; have z5 := E5.c 5 rfl
    have y0 := D5.c 0 rfl; have y1 := D5.c 1 rfl; have y2 := D5.c 2 rfl; have y3 := D5.c 3 rfl
    have el5 := E5.lt
    have dl5 := D5.lt
    have rl5 := R5.lt
    refine wp_region_held_drew (S := (fun w' => w'.cell? ⟨Eb, 0, none⟩ = some (.string pu) ∧ w'.cell? ⟨Eb, 1, none⟩ = some (.slice a3 n3 k3) ∧ w'.cell? ⟨Eb, 2, none⟩ = some (.int .i64 ps) ∧ w'.cell? ⟨Eb, 3, none⟩ = some (.slice a4 n4 k4) ∧ w'.cell? ⟨Eb, 4, none⟩ = some (.string pb) ∧ w'.cell? ⟨Eb, 5, none⟩ = some (.int .i64 pt) ∧ w'.cell? ⟨Db, 1, none⟩ = some (.bool d2) ∧ w'.cell? ⟨Db, 3, none⟩ = some (.int .i64 d4))) (by kernel_rfl) ?_ (fun hHeld => ?_)
    · exact ed_mk E5 D5 (Below.refl _ W5).drew
    refine wpAnyH_take (i := 0) (oi := _) (v := ?vq4_0) (by simp only [List.getElem?_toArray, List.getElem?_cons_succ, List.getElem?_cons_zero]; rfl) (by kernel_rfl) (by kernel_rfl) (by kernel_rfl) (by intro _ _ _ h; exact h) (Or.inl ⟨by rfl, ?hyq4_0⟩) (by assumption) ?restq4_0
    case hyq4_0 => ((intro w hSw; (try dsimp only at hSw); go_simp); try (with_reducible rfl))
    try simp only [Act.put, List.setIfInBounds_toArray, List.set_cons_zero, List.set_cons_succ]
    refine wpAnyH_take (i := 1) (oi := _) (v := ?vq4_1) (by simp only [List.getElem?_toArray, List.getElem?_cons_succ, List.getElem?_cons_zero]; rfl) (by kernel_rfl) (by kernel_rfl) (by kernel_rfl) (by intro _ _ _ h; exact h) (Or.inl ⟨by rfl, ?hyq4_1⟩) (by assumption) ?restq4_1
    case hyq4_1 => ((intro w hSw; (try dsimp only at hSw); go_simp); try (with_reducible rfl))
    try simp only [Act.put, List.setIfInBounds_toArray, List.set_cons_zero, List.set_cons_succ]
    refine wpAnyH_ready (rs := [2]) (by kernel_rfl) (by simp) ?_
    refine AllReadyH.cons rfl (fun K hK => ?_) AllReadyH.nil
    go_simp
    go_wp2_with (go_at_call 21; (with_reducible refine (CFr.out _ ⟨pu, .slice a3 n3 k3, ps, .slice a4 n4 k4, pb, pt⟩ (HM.out.below (H5.out.trans ((Below.refl _ W5).drew.mono hz5)) (Nat.le_refl _)) (X5.out.below (Below.refl _ W5).drew (Nat.le_refl _))).mono ?_); rintro e w6 ⟨rfl, hbb6⟩; have hb6 := (Below.refl _ W5).drew.trans hbb6)
    refine hK.out _ _ ?_ (fun hHeld2 => ?_)
    · exact ed_mk E5 D5 hb6
    clear hK K hHeld
    have hHeld := hHeld2
    clear hHeld2
    refine wpAnyH_take (i := 3) (oi := _) (v := ?vq4_3) (by simp only [List.getElem?_toArray, List.getElem?_cons_succ, List.getElem?_cons_zero]; rfl) (by kernel_rfl) (by kernel_rfl) (by kernel_rfl) (by intro _ _ _ h; exact h) (Or.inl ⟨by rfl, ?hyq4_3⟩) (by assumption) ?restq4_3
    case hyq4_3 => ((intro w hSw; (try dsimp only at hSw); go_simp); try (with_reducible rfl))
    try simp only [Act.put, List.setIfInBounds_toArray, List.set_cons_zero, List.set_cons_succ]
    refine wpAnyH_take (i := 4) (oi := _) (v := undef) (by simp only [List.getElem?_toArray, List.getElem?_cons_succ, List.getElem?_cons_zero]; rfl) (by kernel_rfl) (by kernel_rfl) (by kernel_rfl) (by intro _ _ _ h; exact h) (Or.inr ⟨by rfl, rfl⟩) (by assumption) ?_
    try simp only [Act.put, List.setIfInBounds_toArray, List.set_cons_zero, List.set_cons_succ]
    refine wpAnyH_take (i := 5) (oi := _) (v := undef) (by simp only [List.getElem?_toArray, List.getElem?_cons_succ, List.getElem?_cons_zero]; rfl) (by kernel_rfl) (by kernel_rfl) (by kernel_rfl) (by intro _ _ _ h; exact h) (Or.inr ⟨by rfl, rfl⟩) (by assumption) ?_
    try simp only [Act.put, List.setIfInBounds_toArray, List.set_cons_zero, List.set_cons_succ]
    refine wpAnyH_take (i := 6) (oi := _) (v := undef) (by simp only [List.getElem?_toArray, List.getElem?_cons_succ, List.getElem?_cons_zero]; rfl) (by kernel_rfl) (by kernel_rfl) (by kernel_rfl) (by intro _ _ _ h; exact h) (Or.inr ⟨by rfl, rfl⟩) (by assumption) ?_
    try simp only [Act.put, List.setIfInBounds_toArray, List.set_cons_zero, List.set_cons_succ]
    refine wpAnyH_take (i := 7) (oi := _) (v := ?vq4_7) (by simp only [List.getElem?_toArray, List.getElem?_cons_succ, List.getElem?_cons_zero]; rfl) (by kernel_rfl) (by kernel_rfl) (by kernel_rfl) (by intro _ _ _ h; exact h) (Or.inl ⟨by rfl, ?hyq4_7⟩) (by assumption) ?restq4_7
    case hyq4_7 => ((intro w hSw; (try dsimp only at hSw); go_simp); try (with_reducible rfl))
    try simp only [Act.put, List.setIfInBounds_toArray, List.set_cons_zero, List.set_cons_succ]
    refine wpAnyH_take (i := 8) (oi := _) (v := ?vq4_8) (by simp only [List.getElem?_toArray, List.getElem?_cons_succ, List.getElem?_cons_zero]; rfl) (by kernel_rfl) (by kernel_rfl) (by kernel_rfl) (by intro _ _ _ h; exact h) (Or.inl ⟨by rfl, ?hyq4_8⟩) (by assumption) ?restq4_8
    case hyq4_8 => ((intro w hSw; (try dsimp only at hSw); go_simp); try (with_reducible rfl))
    try simp only [Act.put, List.setIfInBounds_toArray, List.set_cons_zero, List.set_cons_succ]
    refine wpAnyH_take (i := 9) (oi := _) (v := undef) (by simp only [List.getElem?_toArray, List.getElem?_cons_succ, List.getElem?_cons_zero]; rfl) (by kernel_rfl) (by kernel_rfl) (by kernel_rfl) (by intro _ _ _ h; exact h) (Or.inr ⟨by rfl, rfl⟩) (by assumption) ?_
    try simp only [Act.put, List.setIfInBounds_toArray, List.set_cons_zero, List.set_cons_succ]
    refine wpAnyH_take (i := 10) (oi := _) (v := undef) (by simp only [List.getElem?_toArray, List.getElem?_cons_succ, List.getElem?_cons_zero]; rfl) (by kernel_rfl) (by kernel_rfl) (by kernel_rfl) (by intro _ _ _ h; exact h) (Or.inr ⟨by rfl, rfl⟩) (by assumption) ?_
    try simp only [Act.put, List.setIfInBounds_toArray, List.set_cons_zero, List.set_cons_succ]
    refine wpAnyH_take (i := 11) (oi := _) (v := undef) (by simp only [List.getElem?_toArray, List.getElem?_cons_succ, List.getElem?_cons_zero]; rfl) (by kernel_rfl) (by kernel_rfl) (by kernel_rfl) (by intro _ _ _ h; exact h) (Or.inr ⟨by rfl, rfl⟩) (by assumption) ?_
    try simp only [Act.put, List.setIfInBounds_toArray, List.set_cons_zero, List.set_cons_succ]
    refine wpAnyH_take (i := 12) (oi := _) (v := undef) (by simp only [List.getElem?_toArray, List.getElem?_cons_succ, List.getElem?_cons_zero]; rfl) (by kernel_rfl) (by kernel_rfl) (by kernel_rfl) (by intro _ _ _ h; exact h) (Or.inr ⟨by rfl, rfl⟩) (by assumption) ?_
    try simp only [Act.put, List.setIfInBounds_toArray, List.set_cons_zero, List.set_cons_succ]
    refine wpAnyH_take (i := 13) (oi := _) (v := undef) (by simp only [List.getElem?_toArray, List.getElem?_cons_succ, List.getElem?_cons_zero]; rfl) (by kernel_rfl) (by kernel_rfl) (by kernel_rfl) (by intro _ _ _ h; exact h) (Or.inr ⟨by rfl, rfl⟩) (by assumption) ?_
    try simp only [Act.put, List.setIfInBounds_toArray, List.set_cons_zero, List.set_cons_succ]
    refine wpAnyH_take (i := 14) (oi := _) (v := undef) (by simp only [List.getElem?_toArray, List.getElem?_cons_succ, List.getElem?_cons_zero]; rfl) (by kernel_rfl) (by kernel_rfl) (by kernel_rfl) (by intro _ _ _ h; exact h) (Or.inr ⟨by rfl, rfl⟩) (by assumption) ?_
    try simp only [Act.put, List.setIfInBounds_toArray, List.set_cons_zero, List.set_cons_succ]
    refine wpAnyH_take (i := 15) (oi := _) (v := undef) (by simp only [List.getElem?_toArray, List.getElem?_cons_succ, List.getElem?_cons_zero]; rfl) (by kernel_rfl) (by kernel_rfl) (by kernel_rfl) (by intro _ _ _ h; exact h) (Or.inr ⟨by rfl, rfl⟩) (by assumption) ?_
    try simp only [Act.put, List.setIfInBounds_toArray, List.set_cons_zero, List.set_cons_succ]
    refine wpAnyH_take (i := 16) (oi := _) (v := undef) (by simp only [List.getElem?_toArray, List.getElem?_cons_succ, List.getElem?_cons_zero]; rfl) (by kernel_rfl) (by kernel_rfl) (by kernel_rfl) (by intro _ _ _ h; exact h) (Or.inr ⟨by rfl, rfl⟩) (by assumption) ?_
    try simp only [Act.put, List.setIfInBounds_toArray, List.set_cons_zero, List.set_cons_succ]
    refine wpAnyH_take (i := 17) (oi := _) (v := undef) (by simp only [List.getElem?_toArray, List.getElem?_cons_succ, List.getElem?_cons_zero]; rfl) (by kernel_rfl) (by kernel_rfl) (by kernel_rfl) (by intro _ _ _ h; exact h) (Or.inr ⟨by rfl, rfl⟩) (by assumption) ?_
    try simp only [Act.put, List.setIfInBounds_toArray, List.set_cons_zero, List.set_cons_succ]
    refine wpAnyH_take (i := 18) (oi := _) (v := undef) (by simp only [List.getElem?_toArray, List.getElem?_cons_succ, List.getElem?_cons_zero]; rfl) (by kernel_rfl) (by kernel_rfl) (by kernel_rfl) (by intro _ _ _ h; exact h) (Or.inr ⟨by rfl, rfl⟩) (by assumption) ?_
    try simp only [Act.put, List.setIfInBounds_toArray, List.set_cons_zero, List.set_cons_succ]
    refine wpAnyH_take (i := 19) (oi := _) (v := undef) (by simp only [List.getElem?_toArray, List.getElem?_cons_succ, List.getElem?_cons_zero]; rfl) (by kernel_rfl) (by kernel_rfl) (by kernel_rfl) (by intro _ _ _ h; exact h) (Or.inr ⟨by rfl, rfl⟩) (by assumption) ?_
    try simp only [Act.put, List.setIfInBounds_toArray, List.set_cons_zero, List.set_cons_succ]
    refine wpAnyH_take (i := 20) (oi := _) (v := undef) (by simp only [List.getElem?_toArray, List.getElem?_cons_succ, List.getElem?_cons_zero]; rfl) (by kernel_rfl) (by kernel_rfl) (by kernel_rfl) (by intro _ _ _ h; exact h) (Or.inr ⟨by rfl, rfl⟩) (by assumption) ?_
    try simp only [Act.put, List.setIfInBounds_toArray, List.set_cons_zero, List.set_cons_succ]
    refine wpAnyH_take (i := 21) (oi := _) (v := ?vq4_21) (by simp only [List.getElem?_toArray, List.getElem?_cons_succ, List.getElem?_cons_zero]; rfl) (by kernel_rfl) (by kernel_rfl) (by kernel_rfl) (by intro _ _ _ h; exact h) (Or.inl ⟨by rfl, ?hyq4_21⟩) (by assumption) ?restq4_21
    case hyq4_21 => ((intro w hSw; (try dsimp only at hSw); go_simp); try (with_reducible rfl))
    try simp only [Act.put, List.setIfInBounds_toArray, List.set_cons_zero, List.set_cons_succ]
    refine wpAnyH_done (by kernel_rfl) ?_ _
    have hbL := hb6
    have EL := E5.next hbL
    have RL := R5.next hbL
    have HBL := H5.out.trans (hbL.mono hz5)
    have XL := X5.out.below hbL (Nat.le_refl _)
    have hzL := HBL.size
    have elL := EL.lt
    have rlL := RL.lt
    clear z0 z1 z2 z3 z4 z5 y0 y1 y2 y3 hHeld
    have z0 := EL.c 0 rfl; have z1 := EL.c 1 rfl; have z2 := EL.c 2 rfl; have z3 := EL.c 3 rfl; have z4 := EL.c 4 rfl; have z5 := EL.c 5 rfl
    go_wp2_with (go_at_call 51; refine (CK1.out _ _ XL.hd).mono ?_; rintro e w9 ⟨g9, c9, rfl, hs9, hg9, hb9⟩; have R9 := RL.next hb9; have E9 := EL.next hb9; clear z0 z1 z2 z3 z4 z5; have z0 := E9.c 0 rfl; have z1 := E9.c 1 rfl; have z2 := E9.c 2 rfl; have z3 := E9.c 3 rfl; have z4 := E9.c 4 rfl; have z5 := E9.c 5 rfl; have r0 := R9.c 0 rfl; have r1 := R9.c 1 rfl; have r2 := R9.c 2 rfl; have r3 := R9.c 3 rfl; have r4 := R9.c 4 rfl; have r5 := R9.c 5 rfl; have r6 := R9.c 6 rfl; have r7 := R9.c 7 rfl; have g0 := R9.f 0 rfl; have g1 := R9.f 1 rfl; have g2 := R9.f 2 rfl; have g3 := R9.f 3 rfl; have g4 := R9.f 4 rfl; have g5 := R9.f 5 rfl; have g6 := R9.f 6 rfl; have g7 := R9.f 7 rfl; have rl9 := R9.lt; have el9 := E9.lt)
    have X9 : Rd w9 ⟨pu, .slice a3 n3 k3, ps, .slice a4 n4 k4, pb, pt⟩ pe := XL.below hb9 (Nat.le_refl _)
    have hB9 := HBL.trans (hb9.mono hzL)
    exact bodyPost_ret (ret8_run Tryz.results24 Tryz.sizeOf45 Tryz.isAgg45 _ _ Rb _ _ _ _ _ _ _ _ rfl (R9.set8 rfl _ _ _ _ _ _ _ _)) rfl ⟨_, _, rfl, rd_set8 (x := (⟨pu, .slice a3 n3 k3, ps, .slice a4 n4 k4, pb, pt⟩, pe)) X9 (hnw.far (by omega) (fun b h => by cases h)) _ _ _ _ _ _ _ _, slk_set8 hs9 (fun b off n k e => by injection e with e1 _ _; injection e1 with e1; injection e1 with e1; omega) _ _ _ _ _ _ _ _, cato_fin HJ.out hB9 (CaTo.refl (HJ.out.below hB9 (Nat.le_refl _))) (fun _ h => h) (Nat.le_of_eq HRb.out) rl9 _ _ _ _ _ _ _ _⟩
  | true =>
    cases d2 with
    | true =>
      clear hu2
      have hjl := hJ.at_.lt
      obtain ⟨a, cap, rfl, hcap, hcm, ha⟩ := own_reads hJ.own
      rcases ha with ⟨_, h0⟩ | ⟨g, rfl, hBg, hgw, hcell⟩
      · omega
      have hmx : x ∈ l := by rw [← hx]; exact List.getElem_mem hi
      have hrdx := hJ.rd x hmx
      have hzx := hz x hmx
      have hmem : ∀ y ∈ l.eraseIdx i ++ [x], y ∈ l := by rw [← hx]; exact erase_mem l i hi
      have cc : ∀ j u, (eeC x)[j]? = some u → w.cell? ⟨g, i * 6 + j, none⟩ = some u := fun j u hu => hcell _ _ (cellsK_get eelen l i hi j u (by rw [hx]; exact hu))
      have R0 := AtL.new w pl0 45
      have hB0 : Below w.heap.size w (w.alloc (.cells pl0.toArray 45)) := (Below.refl _ w).alloc (Nat.le_refl _) _
      have J0 := hJ.below hB0 (Nat.le_refl _)
      have q0 := hq.below hB0 (Nat.le_refl _)
      have CF := Lib.hid (find_is jb _ l _ J0.at_ J0.reads (fun x hx => ⟨J0.rd x hx, (hz x hx).1⟩) hl url rq vr q0 hzq _ hR)
      have CD := Lib.hid (fun (w : World) hM hv => (dir_is rq vr w hM hv hzq ⟨false, true, d3, d4⟩ hD).mono fun e w' (h : e = Ending.returned (dirA ⟨false, true, d3, d4⟩) ∧ Below w.heap.size w w') => (show e = Ending.returned (.agg #[.bool false, .bool true, .bool d3, .int .i64 d4]) ∧ Below w.heap.size w w' from h))
      have CM := Lib.hid (fun (w : World) (hJ : CaIn w jb B (.slice (some ⟨g, 0, none⟩) l.length cap) l) => move_is jb B _ l w hJ i hi hl x hx)
      have CC := Lib.hid (fun (w : World) (hr : Rd w x.1 x.2) => cop_is x w hr hzx.1.1 hzx.2.1)
      have CFr := Lib.hid (fun (w : World) (r : Er) hM (hr : Rd w r x.2) => fresh_is r x.2 now w hM hr hzx.2 _ hF)
      have CAg := Lib.hid (fun (w : World) (r : Er) (h : r.ti = x.2.ti) => eage_is r now w A (by rw [h]; exact hA))
      have hdb := dirL_bd rq
      rw [hD] at hdb
      have hda : -1 ≤ d4 := hdb.1
      have hdc : d4 < 1000000000 := hdb.2
      have hab := ageE_bd x.2.ti now
      rw [hA] at hab
      have ha0 := hab.1
      have ha1 := hab.2
      have HM := Lib.hid hM
      have HQ := Lib.hid hq
      have HJ := Lib.hid hJ
      have HI := Lib.hid hi
      have HX := Lib.hid hx
      have HRD := Lib.hid hrdx
      have HMEM := Lib.hid hmem
      have hshp := hrdx.shp
      obtain ⟨sa, sc, rfl, _⟩ := hq.shape
      have hii : (i : Int) < (l.length : Int) := by omega
      have hi0 : (0 : Int) ≤ (i : Int) := by omega
      have hgj : g ≠ jb := fun e => hJ.ne (by rw [e]; rfl)
      obtain ⟨⟨u, vv, st, hh, bo, ti⟩, xe⟩ := x
      obtain ⟨⟨a1, n1, k1, e1⟩, a2, n2, k2, e2⟩ := hshp
      have e1 : vv = .slice a1 n1 k1 := e1
      have e2 : hh = .slice a2 n2 k2 := e2
      subst e1 e2
      have HCC := Lib.hid cc
      clear cc hcell hx hD hR hq hJ hz hM hrdx hmem hmx hF hA hab hdb hzx
      go_enter Tryz.func24, Tryz.ntmps24
      go_wp2_with (first
        | (go_at_call 55; with_reducible refine CF.out.mono ?_; rintro e w1 ⟨rfl, hb1⟩; have hB1 := hB0.trans (hb1.mono hB0.size))
        | (go_at_call 14; with_reducible refine (CD.out _ (HM.out.below hB1 (Nat.le_refl _)) (HQ.out.below hB1 (Nat.le_refl _))).mono ?_; rintro e w2 ⟨rfl, hb2⟩; have hB2 := hB1.trans (hb2.mono hB1.size); have hB3 := hB2.alloc hB2.size (.cells #[.bool false, .bool true, .bool d3, .int .i64 d4] 28); have R3 := ((R0.next hb1).next hb2).alloc (.cells #[.bool false, .bool true, .bool d3, .int .i64 d4] 28); have D3 := AtL.new w2 [.bool false, .bool true, .bool d3, .int .i64 d4] 28; have J3 := HJ.out.below hB3 (Nat.le_refl _); have j0 := J3.at_.c 0 rfl; have jl3 := J3.at_.lt; have c0 := (brl hB3 _ _ hgw).trans (HCC.out 0 _ rfl); have c1 := (brl hB3 _ _ hgw).trans (HCC.out 1 _ rfl); have c2 := (brl hB3 _ _ hgw).trans (HCC.out 2 _ rfl); have c3 := (brl hB3 _ _ hgw).trans (HCC.out 3 _ rfl); have c4 := (brl hB3 _ _ hgw).trans (HCC.out 4 _ rfl); have c5 := (brl hB3 _ _ hgw).trans (HCC.out 5 _ rfl); simp only [Nat.add_zero] at c0)
        | (go_at_call 56; refine (CC.out _ (HRD.out.below hB3 (Nat.le_refl _))).mono ?_; rintro e w4 hq4; obtain ⟨⟨⟨pu, pv, ps, ph, pb, pt⟩, pe⟩, rfl, hxe, hrd4, hb4, hnv, hnh⟩ := hq4; obtain ⟨⟨a3, n3, k3, e3⟩, a4, n4, k4, e4⟩ := hrd4.shp; have e3 : pv = .slice a3 n3 k3 := e3; have e4 : ph = .slice a4 n4 k4 := e4; subst e3 e4; have hxe : pe = xe := hxe; subst hxe; have hrd4 : Rd w4 ⟨pu, .slice a3 n3 k3, ps, .slice a4 n4 k4, pb, pt⟩ pe := hrd4; have hnw : NewE (⟨pu, .slice a3 n3 k3, ps, .slice a4 n4 k4, pb, pt⟩, pe) (w2.heap.size + 1) := ⟨fun b off n k e => (by have := hnv b off n k e; simp at this; omega), fun b off n k e => (by have := hnh b off n k e; simp at this; omega)⟩; clear hnv hnh j0 c0 c1 c2 c3 c4 c5))
      obtain ⟨W5, hW5⟩ : ∃ W5 : World, w4.alloc (.cells (eeC (⟨pu, .slice a3 n3 k3, ps, .slice a4 n4 k4, pb, pt⟩, pe)).toArray 40) = W5 := ⟨_, rfl⟩
      have E5 := AtL.new w4 (eeC (⟨pu, .slice a3 n3 k3, ps, .slice a4 n4 k4, pb, pt⟩, pe)) 40
      have R5 := (R3.next hb4).alloc (.cells (eeC (⟨pu, .slice a3 n3 k3, ps, .slice a4 n4 k4, pb, pt⟩, pe)).toArray 40)
      have D5 := (D3.next hb4).alloc (.cells (eeC (⟨pu, .slice a3 n3 k3, ps, .slice a4 n4 k4, pb, pt⟩, pe)).toArray 40)
      have hB4 := hB3.trans (hb4.mono hB3.size)
      have hB5 := hB4.alloc hB4.size (.cells (eeC (⟨pu, .slice a3 n3 k3, ps, .slice a4 n4 k4, pb, pt⟩, pe)).toArray 40)
      have X5 := hrd4.below ((Below.refl _ w4).alloc (Nat.le_refl _) (.cells (eeC (⟨pu, .slice a3 n3 k3, ps, .slice a4 n4 k4, pb, pt⟩, pe)).toArray 40)) (Nat.le_refl _)
      rw [hW5] at E5 R5 D5 hB5 X5
      obtain ⟨Rb, hRb⟩ : ∃ Rb, w.heap.size = Rb := ⟨_, rfl⟩
      obtain ⟨Db, hDb⟩ : ∃ Db, w2.heap.size = Db := ⟨_, rfl⟩
      obtain ⟨Eb, hEb⟩ : ∃ Eb, w4.heap.size = Eb := ⟨_, rfl⟩
      have hRD : Rb < Db := by have := (R0.next hb1).next hb2; have := this.lt; omega
      have hDE : Db < Eb := by have := (D3.next hb4).lt; omega
      rw [hEb] at E5
      rw [hDb] at D5 hnw
      rw [hRb] at R5
      have hgR : g < Rb := by omega
      have hjR : jb < Rb := by omega
      rw [hW5, hRb, hDb, hEb]
      have HRb := Lib.hid hRb
      clear hW5 hRb hDb hEb R3 D3 J3 hB4 hrd4 hb4 hB3 hB2 hB1 hb1 hb2 R0 hB0 J0 q0
      have H5 := Lib.hid hB5
      have hz5 := hB5.size
      have X5 := Lib.hid X5
      clear hB5
      have z0 := E5.c 0 rfl; have z1 := E5.c 1 rfl; have z2 := E5.c 2 rfl; have z3 := E5.c 3 rfl; have z4 := E5.c 4 rfl; have z5 := E5.c 5 rfl
      have y0 := D5.c 0 rfl; have y1 := D5.c 1 rfl; have y2 := D5.c 2 rfl; have y3 := D5.c 3 rfl
      have el5 := E5.lt
      have dl5 := D5.lt
      have rl5 := R5.lt
      refine wp_region_held_drew (S := (fun w' => w'.cell? ⟨Eb, 0, none⟩ = some (.string pu) ∧ w'.cell? ⟨Eb, 1, none⟩ = some (.slice a3 n3 k3) ∧ w'.cell? ⟨Eb, 2, none⟩ = some (.int .i64 ps) ∧ w'.cell? ⟨Eb, 3, none⟩ = some (.slice a4 n4 k4) ∧ w'.cell? ⟨Eb, 4, none⟩ = some (.string pb) ∧ w'.cell? ⟨Eb, 5, none⟩ = some (.int .i64 pt) ∧ w'.cell? ⟨Db, 1, none⟩ = some (.bool true) ∧ w'.cell? ⟨Db, 3, none⟩ = some (.int .i64 d4))) (by kernel_rfl) ?_ (fun hHeld => ?_)
      · exact ed_mk E5 D5 (Below.refl _ W5).drew
      refine wpAnyH_take (i := 0) (oi := _) (v := ?vq5_0) (by simp only [List.getElem?_toArray, List.getElem?_cons_succ, List.getElem?_cons_zero]; rfl) (by kernel_rfl) (by kernel_rfl) (by kernel_rfl) (by intro _ _ _ h; exact h) (Or.inl ⟨by rfl, ?hyq5_0⟩) (by assumption) ?restq5_0
      case hyq5_0 => ((intro w hSw; (try dsimp only at hSw); go_simp); try (with_reducible rfl))
      try simp only [Act.put, List.setIfInBounds_toArray, List.set_cons_zero, List.set_cons_succ]
      refine wpAnyH_take (i := 1) (oi := _) (v := ?vq5_1) (by simp only [List.getElem?_toArray, List.getElem?_cons_succ, List.getElem?_cons_zero]; rfl) (by kernel_rfl) (by kernel_rfl) (by kernel_rfl) (by intro _ _ _ h; exact h) (Or.inl ⟨by rfl, ?hyq5_1⟩) (by assumption) ?restq5_1
      case hyq5_1 => ((intro w hSw; (try dsimp only at hSw); go_simp); try (with_reducible rfl))
      try simp only [Act.put, List.setIfInBounds_toArray, List.set_cons_zero, List.set_cons_succ]
      refine wpAnyH_ready (rs := [2]) (by kernel_rfl) (by simp) ?_
      refine AllReadyH.cons rfl (fun K hK => ?_) AllReadyH.nil
      go_simp
      go_wp2_with (go_at_call 21; (with_reducible refine (CFr.out _ ⟨pu, .slice a3 n3 k3, ps, .slice a4 n4 k4, pb, pt⟩ (HM.out.below (H5.out.trans ((Below.refl _ W5).drew.mono hz5)) (Nat.le_refl _)) (X5.out.below (Below.refl _ W5).drew (Nat.le_refl _))).mono ?_); rintro e w6 ⟨rfl, hbb6⟩; have hb6 := (Below.refl _ W5).drew.trans hbb6)
      refine hK.out _ _ ?_ (fun hHeld2 => ?_)
      · exact ed_mk E5 D5 hb6
      clear hK K hHeld
      have hHeld := hHeld2
      clear hHeld2
      refine wpAnyH_take (i := 3) (oi := _) (v := ?vq5_3) (by simp only [List.getElem?_toArray, List.getElem?_cons_succ, List.getElem?_cons_zero]; rfl) (by kernel_rfl) (by kernel_rfl) (by kernel_rfl) (by intro _ _ _ h; exact h) (Or.inl ⟨by rfl, ?hyq5_3⟩) (by assumption) ?restq5_3
      case hyq5_3 => ((intro w hSw; (try dsimp only at hSw); go_simp); try (with_reducible rfl))
      try simp only [Act.put, List.setIfInBounds_toArray, List.set_cons_zero, List.set_cons_succ]
      refine wpAnyH_take (i := 4) (oi := _) (v := ?vq5_4) (by simp only [List.getElem?_toArray, List.getElem?_cons_succ, List.getElem?_cons_zero]; rfl) (by kernel_rfl) (by kernel_rfl) (by kernel_rfl) (by intro _ _ _ h; exact h) (Or.inl ⟨by rfl, ?hyq5_4⟩) (by assumption) ?restq5_4
      case hyq5_4 => ((intro w hSw; (try dsimp only at hSw); go_simp); try (with_reducible rfl))
      try simp only [Act.put, List.setIfInBounds_toArray, List.set_cons_zero, List.set_cons_succ]
      refine wpAnyH_take (i := 5) (oi := _) (v := ?vq5_5) (by simp only [List.getElem?_toArray, List.getElem?_cons_succ, List.getElem?_cons_zero]; rfl) (by kernel_rfl) (by kernel_rfl) (by kernel_rfl) (by intro _ _ _ h; exact h) (Or.inl ⟨by rfl, ?hyq5_5⟩) (by assumption) ?restq5_5
      case hyq5_5 => ((intro w hSw; (try dsimp only at hSw); go_simp); try (with_reducible rfl))
      try simp only [Act.put, List.setIfInBounds_toArray, List.set_cons_zero, List.set_cons_succ]
      refine wpAnyH_take (i := 6) (oi := _) (v := ?vq5_6) (by simp only [List.getElem?_toArray, List.getElem?_cons_succ, List.getElem?_cons_zero]; rfl) (by kernel_rfl) (by kernel_rfl) (by kernel_rfl) (by intro _ _ _ h; exact h) (Or.inl ⟨by rfl, ?hyq5_6⟩) (by assumption) ?restq5_6
      case hyq5_6 => ((intro w hSw; (try dsimp only at hSw); go_simp); try (with_reducible rfl))
      try simp only [Act.put, List.setIfInBounds_toArray, List.set_cons_zero, List.set_cons_succ]
      refine wpAnyH_take (i := 7) (oi := _) (v := ?vq5_7) (by simp only [List.getElem?_toArray, List.getElem?_cons_succ, List.getElem?_cons_zero]; rfl) (by kernel_rfl) (by kernel_rfl) (by kernel_rfl) (by intro _ _ _ h; exact h) (Or.inl ⟨by rfl, ?hyq5_7⟩) (by assumption) ?restq5_7
      case hyq5_7 => ((intro w hSw; (try dsimp only at hSw); go_simp); try (with_reducible rfl))
      try simp only [Act.put, List.setIfInBounds_toArray, List.set_cons_zero, List.set_cons_succ]
      refine wpAnyH_take (i := 8) (oi := _) (v := ?vq5_8) (by simp only [List.getElem?_toArray, List.getElem?_cons_succ, List.getElem?_cons_zero]; rfl) (by kernel_rfl) (by kernel_rfl) (by kernel_rfl) (by intro _ _ _ h; exact h) (Or.inl ⟨by rfl, ?hyq5_8⟩) (by assumption) ?restq5_8
      case hyq5_8 => ((intro w hSw; (try dsimp only at hSw); go_simp); try (with_reducible rfl))
      try simp only [Act.put, List.setIfInBounds_toArray, List.set_cons_zero, List.set_cons_succ]
      refine wpAnyH_take (i := 9) (oi := _) (v := undef) (by simp only [List.getElem?_toArray, List.getElem?_cons_succ, List.getElem?_cons_zero]; rfl) (by kernel_rfl) (by kernel_rfl) (by kernel_rfl) (by intro _ _ _ h; exact h) (Or.inr ⟨by rfl, rfl⟩) (by assumption) ?_
      try simp only [Act.put, List.setIfInBounds_toArray, List.set_cons_zero, List.set_cons_succ]
      refine wpAnyH_take (i := 10) (oi := _) (v := undef) (by simp only [List.getElem?_toArray, List.getElem?_cons_succ, List.getElem?_cons_zero]; rfl) (by kernel_rfl) (by kernel_rfl) (by kernel_rfl) (by intro _ _ _ h; exact h) (Or.inr ⟨by rfl, rfl⟩) (by assumption) ?_
      try simp only [Act.put, List.setIfInBounds_toArray, List.set_cons_zero, List.set_cons_succ]
      refine wpAnyH_take (i := 11) (oi := _) (v := undef) (by simp only [List.getElem?_toArray, List.getElem?_cons_succ, List.getElem?_cons_zero]; rfl) (by kernel_rfl) (by kernel_rfl) (by kernel_rfl) (by intro _ _ _ h; exact h) (Or.inr ⟨by rfl, rfl⟩) (by assumption) ?_
      try simp only [Act.put, List.setIfInBounds_toArray, List.set_cons_zero, List.set_cons_succ]
      refine wpAnyH_take (i := 12) (oi := _) (v := undef) (by simp only [List.getElem?_toArray, List.getElem?_cons_succ, List.getElem?_cons_zero]; rfl) (by kernel_rfl) (by kernel_rfl) (by kernel_rfl) (by intro _ _ _ h; exact h) (Or.inr ⟨by rfl, rfl⟩) (by assumption) ?_
      try simp only [Act.put, List.setIfInBounds_toArray, List.set_cons_zero, List.set_cons_succ]
      refine wpAnyH_take (i := 13) (oi := _) (v := undef) (by simp only [List.getElem?_toArray, List.getElem?_cons_succ, List.getElem?_cons_zero]; rfl) (by kernel_rfl) (by kernel_rfl) (by kernel_rfl) (by intro _ _ _ h; exact h) (Or.inr ⟨by rfl, rfl⟩) (by assumption) ?_
      try simp only [Act.put, List.setIfInBounds_toArray, List.set_cons_zero, List.set_cons_succ]
      refine wpAnyH_take (i := 14) (oi := _) (v := undef) (by simp only [List.getElem?_toArray, List.getElem?_cons_succ, List.getElem?_cons_zero]; rfl) (by kernel_rfl) (by kernel_rfl) (by kernel_rfl) (by intro _ _ _ h; exact h) (Or.inr ⟨by rfl, rfl⟩) (by assumption) ?_
      try simp only [Act.put, List.setIfInBounds_toArray, List.set_cons_zero, List.set_cons_succ]
      refine wpAnyH_take (i := 15) (oi := _) (v := undef) (by simp only [List.getElem?_toArray, List.getElem?_cons_succ, List.getElem?_cons_zero]; rfl) (by kernel_rfl) (by kernel_rfl) (by kernel_rfl) (by intro _ _ _ h; exact h) (Or.inr ⟨by rfl, rfl⟩) (by assumption) ?_
      try simp only [Act.put, List.setIfInBounds_toArray, List.set_cons_zero, List.set_cons_succ]
      refine wpAnyH_take (i := 16) (oi := _) (v := undef) (by simp only [List.getElem?_toArray, List.getElem?_cons_succ, List.getElem?_cons_zero]; rfl) (by kernel_rfl) (by kernel_rfl) (by kernel_rfl) (by intro _ _ _ h; exact h) (Or.inr ⟨by rfl, rfl⟩) (by assumption) ?_
      try simp only [Act.put, List.setIfInBounds_toArray, List.set_cons_zero, List.set_cons_succ]
      refine wpAnyH_take (i := 17) (oi := _) (v := undef) (by simp only [List.getElem?_toArray, List.getElem?_cons_succ, List.getElem?_cons_zero]; rfl) (by kernel_rfl) (by kernel_rfl) (by kernel_rfl) (by intro _ _ _ h; exact h) (Or.inr ⟨by rfl, rfl⟩) (by assumption) ?_
      try simp only [Act.put, List.setIfInBounds_toArray, List.set_cons_zero, List.set_cons_succ]
      refine wpAnyH_take (i := 18) (oi := _) (v := undef) (by simp only [List.getElem?_toArray, List.getElem?_cons_succ, List.getElem?_cons_zero]; rfl) (by kernel_rfl) (by kernel_rfl) (by kernel_rfl) (by intro _ _ _ h; exact h) (Or.inr ⟨by rfl, rfl⟩) (by assumption) ?_
      try simp only [Act.put, List.setIfInBounds_toArray, List.set_cons_zero, List.set_cons_succ]
      refine wpAnyH_take (i := 19) (oi := _) (v := undef) (by simp only [List.getElem?_toArray, List.getElem?_cons_succ, List.getElem?_cons_zero]; rfl) (by kernel_rfl) (by kernel_rfl) (by kernel_rfl) (by intro _ _ _ h; exact h) (Or.inr ⟨by rfl, rfl⟩) (by assumption) ?_
      try simp only [Act.put, List.setIfInBounds_toArray, List.set_cons_zero, List.set_cons_succ]
      refine wpAnyH_take (i := 20) (oi := _) (v := undef) (by simp only [List.getElem?_toArray, List.getElem?_cons_succ, List.getElem?_cons_zero]; rfl) (by kernel_rfl) (by kernel_rfl) (by kernel_rfl) (by intro _ _ _ h; exact h) (Or.inr ⟨by rfl, rfl⟩) (by assumption) ?_
      try simp only [Act.put, List.setIfInBounds_toArray, List.set_cons_zero, List.set_cons_succ]
      refine wpAnyH_take (i := 21) (oi := _) (v := ?vq5_21) (by simp only [List.getElem?_toArray, List.getElem?_cons_succ, List.getElem?_cons_zero]; rfl) (by kernel_rfl) (by kernel_rfl) (by kernel_rfl) (by intro _ _ _ h; exact h) (Or.inl ⟨by rfl, ?hyq5_21⟩) (by assumption) ?restq5_21
      case hyq5_21 => ((intro w hSw; (try dsimp only at hSw); go_simp); try (with_reducible rfl))
      try simp only [Act.put, List.setIfInBounds_toArray, List.set_cons_zero, List.set_cons_succ]
      refine wpAnyH_done (by kernel_rfl) ?_ _
      have hbL := hb6
      have EL := E5.next hbL
      have RL := R5.next hbL
      have HBL := H5.out.trans (hbL.mono hz5)
      have XL := X5.out.below hbL (Nat.le_refl _)
      have hzL := HBL.size
      have elL := EL.lt
      have rlL := RL.lt
      clear z0 z1 z2 z3 z4 z5 y0 y1 y2 y3 hHeld
      have z0 := EL.c 0 rfl; have z1 := EL.c 1 rfl; have z2 := EL.c 2 rfl; have z3 := EL.c 3 rfl; have z4 := EL.c 4 rfl; have z5 := EL.c 5 rfl
      go_wp2_with (go_at_call 51; refine (CK1.out _ _ XL.hd).mono ?_; rintro e w9 ⟨g9, c9, rfl, hs9, hg9, hb9⟩; have R9 := RL.next hb9; have E9 := EL.next hb9; clear z0 z1 z2 z3 z4 z5; have z0 := E9.c 0 rfl; have z1 := E9.c 1 rfl; have z2 := E9.c 2 rfl; have z3 := E9.c 3 rfl; have z4 := E9.c 4 rfl; have z5 := E9.c 5 rfl; have r0 := R9.c 0 rfl; have r1 := R9.c 1 rfl; have r2 := R9.c 2 rfl; have r3 := R9.c 3 rfl; have r4 := R9.c 4 rfl; have r5 := R9.c 5 rfl; have r6 := R9.c 6 rfl; have r7 := R9.c 7 rfl; have g0 := R9.f 0 rfl; have g1 := R9.f 1 rfl; have g2 := R9.f 2 rfl; have g3 := R9.f 3 rfl; have g4 := R9.f 4 rfl; have g5 := R9.f 5 rfl; have g6 := R9.f 6 rfl; have g7 := R9.f 7 rfl; have rl9 := R9.lt; have el9 := E9.lt)
      have X9 : Rd w9 ⟨pu, .slice a3 n3 k3, ps, .slice a4 n4 k4, pb, pt⟩ pe := XL.below hb9 (Nat.le_refl _)
      have hB9 := HBL.trans (hb9.mono hzL)
      exact bodyPost_ret (ret8_run Tryz.results24 Tryz.sizeOf45 Tryz.isAgg45 _ _ Rb _ _ _ _ _ _ _ _ rfl (R9.set8 rfl _ _ _ _ _ _ _ _)) rfl ⟨_, _, rfl, rd_set8 (x := (⟨pu, .slice a3 n3 k3, ps, .slice a4 n4 k4, pb, pt⟩, pe)) X9 (hnw.far (by omega) (fun b h => by cases h)) _ _ _ _ _ _ _ _, slk_set8 hs9 (fun b off n k e => by injection e with e1 _ _; injection e1 with e1; injection e1 with e1; omega) _ _ _ _ _ _ _ _, cato_fin HJ.out hB9 (CaTo.refl (HJ.out.below hB9 (Nat.le_refl _))) (fun _ h => h) (Nat.le_of_eq HRb.out) rl9 _ _ _ _ _ _ _ _⟩
    | false =>
      simp only [Bool.true_and, Bool.not_false, Bool.or_eq_false_iff, decide_eq_false_iff_not] at hu2
      have h4 : decide (d4 < 0) = false := decide_eq_false hu2.1
      have h5 : decide (A ≤ 1000 * d4) = false := decide_eq_false hu2.2
      have h40 : 0 ≤ d4 := by omega
      clear hu2
      have hjl := hJ.at_.lt
      obtain ⟨a, cap, rfl, hcap, hcm, ha⟩ := own_reads hJ.own
      rcases ha with ⟨_, h0⟩ | ⟨g, rfl, hBg, hgw, hcell⟩
      · omega
      have hmx : x ∈ l := by rw [← hx]; exact List.getElem_mem hi
      have hrdx := hJ.rd x hmx
      have hzx := hz x hmx
      have hmem : ∀ y ∈ l.eraseIdx i ++ [x], y ∈ l := by rw [← hx]; exact erase_mem l i hi
      have cc : ∀ j u, (eeC x)[j]? = some u → w.cell? ⟨g, i * 6 + j, none⟩ = some u := fun j u hu => hcell _ _ (cellsK_get eelen l i hi j u (by rw [hx]; exact hu))
      have R0 := AtL.new w pl0 45
      have hB0 : Below w.heap.size w (w.alloc (.cells pl0.toArray 45)) := (Below.refl _ w).alloc (Nat.le_refl _) _
      have J0 := hJ.below hB0 (Nat.le_refl _)
      have q0 := hq.below hB0 (Nat.le_refl _)
      have CF := Lib.hid (find_is jb _ l _ J0.at_ J0.reads (fun x hx => ⟨J0.rd x hx, (hz x hx).1⟩) hl url rq vr q0 hzq _ hR)
      have CD := Lib.hid (fun (w : World) hM hv => (dir_is rq vr w hM hv hzq ⟨false, false, d3, d4⟩ hD).mono fun e w' (h : e = Ending.returned (dirA ⟨false, false, d3, d4⟩) ∧ Below w.heap.size w w') => (show e = Ending.returned (.agg #[.bool false, .bool false, .bool d3, .int .i64 d4]) ∧ Below w.heap.size w w' from h))
      have CM := Lib.hid (fun (w : World) (hJ : CaIn w jb B (.slice (some ⟨g, 0, none⟩) l.length cap) l) => move_is jb B _ l w hJ i hi hl x hx)
      have CC := Lib.hid (fun (w : World) (hr : Rd w x.1 x.2) => cop_is x w hr hzx.1.1 hzx.2.1)
      have CFr := Lib.hid (fun (w : World) (r : Er) hM (hr : Rd w r x.2) => fresh_is r x.2 now w hM hr hzx.2 _ hF)
      have CAg := Lib.hid (fun (w : World) (r : Er) (h : r.ti = x.2.ti) => eage_is r now w A (by rw [h]; exact hA))
      have hdb := dirL_bd rq
      rw [hD] at hdb
      have hda : -1 ≤ d4 := hdb.1
      have hdc : d4 < 1000000000 := hdb.2
      have hab := ageE_bd x.2.ti now
      rw [hA] at hab
      have ha0 := hab.1
      have ha1 := hab.2
      have HM := Lib.hid hM
      have HQ := Lib.hid hq
      have HJ := Lib.hid hJ
      have HI := Lib.hid hi
      have HX := Lib.hid hx
      have HRD := Lib.hid hrdx
      have HMEM := Lib.hid hmem
      have hshp := hrdx.shp
      obtain ⟨sa, sc, rfl, _⟩ := hq.shape
      have hii : (i : Int) < (l.length : Int) := by omega
      have hi0 : (0 : Int) ≤ (i : Int) := by omega
      have hgj : g ≠ jb := fun e => hJ.ne (by rw [e]; rfl)
      obtain ⟨⟨u, vv, st, hh, bo, ti⟩, xe⟩ := x
      obtain ⟨⟨a1, n1, k1, e1⟩, a2, n2, k2, e2⟩ := hshp
      have e1 : vv = .slice a1 n1 k1 := e1
      have e2 : hh = .slice a2 n2 k2 := e2
      subst e1 e2
      have HCC := Lib.hid cc
      clear cc hcell hx hD hR hq hJ hz hM hrdx hmem hmx hF hA hab hdb hzx
      go_enter Tryz.func24, Tryz.ntmps24
      go_wp2_with (first
        | (go_at_call 55; with_reducible refine CF.out.mono ?_; rintro e w1 ⟨rfl, hb1⟩; have hB1 := hB0.trans (hb1.mono hB0.size))
        | (go_at_call 14; with_reducible refine (CD.out _ (HM.out.below hB1 (Nat.le_refl _)) (HQ.out.below hB1 (Nat.le_refl _))).mono ?_; rintro e w2 ⟨rfl, hb2⟩; have hB2 := hB1.trans (hb2.mono hB1.size); have hB3 := hB2.alloc hB2.size (.cells #[.bool false, .bool false, .bool d3, .int .i64 d4] 28); have R3 := ((R0.next hb1).next hb2).alloc (.cells #[.bool false, .bool false, .bool d3, .int .i64 d4] 28); have D3 := AtL.new w2 [.bool false, .bool false, .bool d3, .int .i64 d4] 28; have J3 := HJ.out.below hB3 (Nat.le_refl _); have j0 := J3.at_.c 0 rfl; have jl3 := J3.at_.lt; have c0 := (brl hB3 _ _ hgw).trans (HCC.out 0 _ rfl); have c1 := (brl hB3 _ _ hgw).trans (HCC.out 1 _ rfl); have c2 := (brl hB3 _ _ hgw).trans (HCC.out 2 _ rfl); have c3 := (brl hB3 _ _ hgw).trans (HCC.out 3 _ rfl); have c4 := (brl hB3 _ _ hgw).trans (HCC.out 4 _ rfl); have c5 := (brl hB3 _ _ hgw).trans (HCC.out 5 _ rfl); simp only [Nat.add_zero] at c0)
        | (go_at_call 56; refine (CC.out _ (HRD.out.below hB3 (Nat.le_refl _))).mono ?_; rintro e w4 hq4; obtain ⟨⟨⟨pu, pv, ps, ph, pb, pt⟩, pe⟩, rfl, hxe, hrd4, hb4, hnv, hnh⟩ := hq4; obtain ⟨⟨a3, n3, k3, e3⟩, a4, n4, k4, e4⟩ := hrd4.shp; have e3 : pv = .slice a3 n3 k3 := e3; have e4 : ph = .slice a4 n4 k4 := e4; subst e3 e4; have hxe : pe = xe := hxe; subst hxe; have hrd4 : Rd w4 ⟨pu, .slice a3 n3 k3, ps, .slice a4 n4 k4, pb, pt⟩ pe := hrd4; have hnw : NewE (⟨pu, .slice a3 n3 k3, ps, .slice a4 n4 k4, pb, pt⟩, pe) (w2.heap.size + 1) := ⟨fun b off n k e => (by have := hnv b off n k e; simp at this; omega), fun b off n k e => (by have := hnh b off n k e; simp at this; omega)⟩; clear hnv hnh j0 c0 c1 c2 c3 c4 c5))
      obtain ⟨W5, hW5⟩ : ∃ W5 : World, w4.alloc (.cells (eeC (⟨pu, .slice a3 n3 k3, ps, .slice a4 n4 k4, pb, pt⟩, pe)).toArray 40) = W5 := ⟨_, rfl⟩
      have E5 := AtL.new w4 (eeC (⟨pu, .slice a3 n3 k3, ps, .slice a4 n4 k4, pb, pt⟩, pe)) 40
      have R5 := (R3.next hb4).alloc (.cells (eeC (⟨pu, .slice a3 n3 k3, ps, .slice a4 n4 k4, pb, pt⟩, pe)).toArray 40)
      have D5 := (D3.next hb4).alloc (.cells (eeC (⟨pu, .slice a3 n3 k3, ps, .slice a4 n4 k4, pb, pt⟩, pe)).toArray 40)
      have hB4 := hB3.trans (hb4.mono hB3.size)
      have hB5 := hB4.alloc hB4.size (.cells (eeC (⟨pu, .slice a3 n3 k3, ps, .slice a4 n4 k4, pb, pt⟩, pe)).toArray 40)
      have X5 := hrd4.below ((Below.refl _ w4).alloc (Nat.le_refl _) (.cells (eeC (⟨pu, .slice a3 n3 k3, ps, .slice a4 n4 k4, pb, pt⟩, pe)).toArray 40)) (Nat.le_refl _)
      rw [hW5] at E5 R5 D5 hB5 X5
      obtain ⟨Rb, hRb⟩ : ∃ Rb, w.heap.size = Rb := ⟨_, rfl⟩
      obtain ⟨Db, hDb⟩ : ∃ Db, w2.heap.size = Db := ⟨_, rfl⟩
      obtain ⟨Eb, hEb⟩ : ∃ Eb, w4.heap.size = Eb := ⟨_, rfl⟩
      have hRD : Rb < Db := by have := (R0.next hb1).next hb2; have := this.lt; omega
      have hDE : Db < Eb := by have := (D3.next hb4).lt; omega
      rw [hEb] at E5
      rw [hDb] at D5 hnw
      rw [hRb] at R5
      have hgR : g < Rb := by omega
      have hjR : jb < Rb := by omega
      rw [hW5, hRb, hDb, hEb]
      have HRb := Lib.hid hRb
      clear hW5 hRb hDb hEb R3 D3 J3 hB4 hrd4 hb4 hB3 hB2 hB1 hb1 hb2 R0 hB0 J0 q0
      have H5 := Lib.hid hB5
      have hz5 := hB5.size
      have X5 := Lib.hid X5
      clear hB5
      have z0 := E5.c 0 rfl; have z1 := E5.c 1 rfl; have z2 := E5.c 2 rfl; have z3 := E5.c 3 rfl; have z4 := E5.c 4 rfl; have z5 := E5.c 5 rfl
      have y0 := D5.c 0 rfl; have y1 := D5.c 1 rfl; have y2 := D5.c 2 rfl; have y3 := D5.c 3 rfl
      have el5 := E5.lt
      have dl5 := D5.lt
      have rl5 := R5.lt
      have hwr : IntKind.i64.wrap (1000 * d4) = 1000 * d4 := IntWalk.i64_in _ (by omega)
      refine wp_region_held_drew (S := (fun w' => w'.cell? ⟨Eb, 0, none⟩ = some (.string pu) ∧ w'.cell? ⟨Eb, 1, none⟩ = some (.slice a3 n3 k3) ∧ w'.cell? ⟨Eb, 2, none⟩ = some (.int .i64 ps) ∧ w'.cell? ⟨Eb, 3, none⟩ = some (.slice a4 n4 k4) ∧ w'.cell? ⟨Eb, 4, none⟩ = some (.string pb) ∧ w'.cell? ⟨Eb, 5, none⟩ = some (.int .i64 pt) ∧ w'.cell? ⟨Db, 1, none⟩ = some (.bool false) ∧ w'.cell? ⟨Db, 3, none⟩ = some (.int .i64 d4))) (by kernel_rfl) ?_ (fun hHeld => ?_)
      · exact ed_mk E5 D5 (Below.refl _ W5).drew
      refine wpAnyH_take (i := 0) (oi := _) (v := ?vq6_0) (by simp only [List.getElem?_toArray, List.getElem?_cons_succ, List.getElem?_cons_zero]; rfl) (by kernel_rfl) (by kernel_rfl) (by kernel_rfl) (by intro _ _ _ h; exact h) (Or.inl ⟨by rfl, ?hyq6_0⟩) (by assumption) ?restq6_0
      case hyq6_0 => ((intro w hSw; (try dsimp only at hSw); go_simp); try (with_reducible rfl))
      try simp only [Act.put, List.setIfInBounds_toArray, List.set_cons_zero, List.set_cons_succ]
      refine wpAnyH_take (i := 1) (oi := _) (v := ?vq6_1) (by simp only [List.getElem?_toArray, List.getElem?_cons_succ, List.getElem?_cons_zero]; rfl) (by kernel_rfl) (by kernel_rfl) (by kernel_rfl) (by intro _ _ _ h; exact h) (Or.inl ⟨by rfl, ?hyq6_1⟩) (by assumption) ?restq6_1
      case hyq6_1 => ((intro w hSw; (try dsimp only at hSw); go_simp); try (with_reducible rfl))
      try simp only [Act.put, List.setIfInBounds_toArray, List.set_cons_zero, List.set_cons_succ]
      refine wpAnyH_ready (rs := [2]) (by kernel_rfl) (by simp) ?_
      refine AllReadyH.cons rfl (fun K hK => ?_) AllReadyH.nil
      go_simp
      go_wp2_with (go_at_call 21; (with_reducible refine (CFr.out _ ⟨pu, .slice a3 n3 k3, ps, .slice a4 n4 k4, pb, pt⟩ (HM.out.below (H5.out.trans ((Below.refl _ W5).drew.mono hz5)) (Nat.le_refl _)) (X5.out.below (Below.refl _ W5).drew (Nat.le_refl _))).mono ?_); rintro e w6 ⟨rfl, hbb6⟩; have hb6 := (Below.refl _ W5).drew.trans hbb6)
      refine hK.out _ _ ?_ (fun hHeld2 => ?_)
      · exact ed_mk E5 D5 hb6
      clear hK K hHeld
      have hHeld := hHeld2
      clear hHeld2
      refine wpAnyH_take (i := 3) (oi := _) (v := ?vq6_3) (by simp only [List.getElem?_toArray, List.getElem?_cons_succ, List.getElem?_cons_zero]; rfl) (by kernel_rfl) (by kernel_rfl) (by kernel_rfl) (by intro _ _ _ h; exact h) (Or.inl ⟨by rfl, ?hyq6_3⟩) (by assumption) ?restq6_3
      case hyq6_3 => ((intro w hSw; (try dsimp only at hSw); go_simp); try (with_reducible rfl))
      try simp only [Act.put, List.setIfInBounds_toArray, List.set_cons_zero, List.set_cons_succ]
      refine wpAnyH_take (i := 4) (oi := _) (v := ?vq6_4) (by simp only [List.getElem?_toArray, List.getElem?_cons_succ, List.getElem?_cons_zero]; rfl) (by kernel_rfl) (by kernel_rfl) (by kernel_rfl) (by intro _ _ _ h; exact h) (Or.inl ⟨by rfl, ?hyq6_4⟩) (by assumption) ?restq6_4
      case hyq6_4 => ((intro w hSw; (try dsimp only at hSw); go_simp); try (with_reducible rfl))
      try simp only [Act.put, List.setIfInBounds_toArray, List.set_cons_zero, List.set_cons_succ]
      refine wpAnyH_take (i := 5) (oi := _) (v := ?vq6_5) (by simp only [List.getElem?_toArray, List.getElem?_cons_succ, List.getElem?_cons_zero]; rfl) (by kernel_rfl) (by kernel_rfl) (by kernel_rfl) (by intro _ _ _ h; exact h) (Or.inl ⟨by rfl, ?hyq6_5⟩) (by assumption) ?restq6_5
      case hyq6_5 => ((intro w hSw; (try dsimp only at hSw); go_simp); try (with_reducible rfl))
      try simp only [Act.put, List.setIfInBounds_toArray, List.set_cons_zero, List.set_cons_succ]
      refine wpAnyH_take (i := 6) (oi := _) (v := ?vq6_6) (by simp only [List.getElem?_toArray, List.getElem?_cons_succ, List.getElem?_cons_zero]; rfl) (by kernel_rfl) (by kernel_rfl) (by kernel_rfl) (by intro _ _ _ h; exact h) (Or.inl ⟨by rfl, ?hyq6_6⟩) (by assumption) ?restq6_6
      case hyq6_6 => ((intro w hSw; (try dsimp only at hSw); go_simp); try (with_reducible rfl))
      try simp only [Act.put, List.setIfInBounds_toArray, List.set_cons_zero, List.set_cons_succ]
      refine wpAnyH_take (i := 7) (oi := _) (v := ?vq6_7) (by simp only [List.getElem?_toArray, List.getElem?_cons_succ, List.getElem?_cons_zero]; rfl) (by kernel_rfl) (by kernel_rfl) (by kernel_rfl) (by intro _ _ _ h; exact h) (Or.inl ⟨by rfl, ?hyq6_7⟩) (by assumption) ?restq6_7
      case hyq6_7 => ((intro w hSw; (try dsimp only at hSw); go_simp); try (with_reducible rfl))
      try simp only [Act.put, List.setIfInBounds_toArray, List.set_cons_zero, List.set_cons_succ]
      refine wpAnyH_take (i := 8) (oi := _) (v := ?vq6_8) (by simp only [List.getElem?_toArray, List.getElem?_cons_succ, List.getElem?_cons_zero]; rfl) (by kernel_rfl) (by kernel_rfl) (by kernel_rfl) (by intro _ _ _ h; exact h) (Or.inl ⟨by rfl, ?hyq6_8⟩) (by assumption) ?restq6_8
      case hyq6_8 => ((intro w hSw; (try dsimp only at hSw); go_simp); try (with_reducible rfl))
      try simp only [Act.put, List.setIfInBounds_toArray, List.set_cons_zero, List.set_cons_succ]
      refine wpAnyH_take (i := 9) (oi := _) (v := ?vq6_9) (by simp only [List.getElem?_toArray, List.getElem?_cons_succ, List.getElem?_cons_zero]; rfl) (by kernel_rfl) (by kernel_rfl) (by kernel_rfl) (by intro _ _ _ h; exact h) (Or.inl ⟨by rfl, ?hyq6_9⟩) (by assumption) ?restq6_9
      case hyq6_9 => ((intro w hSw; (try dsimp only at hSw); go_simp); try (with_reducible rfl))
      try simp only [Act.put, List.setIfInBounds_toArray, List.set_cons_zero, List.set_cons_succ]
      refine wpAnyH_take (i := 10) (oi := _) (v := ?vq6_10) (by simp only [List.getElem?_toArray, List.getElem?_cons_succ, List.getElem?_cons_zero]; rfl) (by kernel_rfl) (by kernel_rfl) (by kernel_rfl) (by intro _ _ _ h; exact h) (Or.inl ⟨by rfl, ?hyq6_10⟩) (by assumption) ?restq6_10
      case hyq6_10 => ((intro w hSw; (try dsimp only at hSw); go_simp); try (with_reducible rfl))
      try simp only [Act.put, List.setIfInBounds_toArray, List.set_cons_zero, List.set_cons_succ]
      refine wpAnyH_take (i := 11) (oi := _) (v := ?vq6_11) (by simp only [List.getElem?_toArray, List.getElem?_cons_succ, List.getElem?_cons_zero]; rfl) (by kernel_rfl) (by kernel_rfl) (by kernel_rfl) (by intro _ _ _ h; exact h) (Or.inl ⟨by rfl, ?hyq6_11⟩) (by assumption) ?restq6_11
      case hyq6_11 => ((intro w hSw; (try dsimp only at hSw); go_simp); try (with_reducible rfl))
      try simp only [Act.put, List.setIfInBounds_toArray, List.set_cons_zero, List.set_cons_succ]
      refine wpAnyH_take (i := 12) (oi := _) (v := ?vq6_12) (by simp only [List.getElem?_toArray, List.getElem?_cons_succ, List.getElem?_cons_zero]; rfl) (by kernel_rfl) (by kernel_rfl) (by kernel_rfl) (by intro _ _ _ h; exact h) (Or.inl ⟨by rfl, ?hyq6_12⟩) (by assumption) ?restq6_12
      case hyq6_12 => ((intro w hSw; (try dsimp only at hSw); go_simp); try (with_reducible rfl))
      try simp only [Act.put, List.setIfInBounds_toArray, List.set_cons_zero, List.set_cons_succ]
      refine wpAnyH_take (i := 13) (oi := _) (v := ?vq6_13) (by simp only [List.getElem?_toArray, List.getElem?_cons_succ, List.getElem?_cons_zero]; rfl) (by kernel_rfl) (by kernel_rfl) (by kernel_rfl) (by intro _ _ _ h; exact h) (Or.inl ⟨by rfl, ?hyq6_13⟩) (by assumption) ?restq6_13
      case hyq6_13 => ((intro w hSw; (try dsimp only at hSw); go_simp); try (with_reducible rfl))
      try simp only [Act.put, List.setIfInBounds_toArray, List.set_cons_zero, List.set_cons_succ]
      refine wpAnyH_take (i := 14) (oi := _) (v := ?vq6_14) (by simp only [List.getElem?_toArray, List.getElem?_cons_succ, List.getElem?_cons_zero]; rfl) (by kernel_rfl) (by kernel_rfl) (by kernel_rfl) (by intro _ _ _ h; exact h) (Or.inl ⟨by rfl, ?hyq6_14⟩) (by assumption) ?restq6_14
      case hyq6_14 => ((intro w hSw; (try dsimp only at hSw); go_simp); try (with_reducible rfl))
      try simp only [Act.put, List.setIfInBounds_toArray, List.set_cons_zero, List.set_cons_succ]
      refine wpAnyH_take (i := 16) (oi := _) (v := ?vq6_16) (by simp only [List.getElem?_toArray, List.getElem?_cons_succ, List.getElem?_cons_zero]; rfl) (by kernel_rfl) (by kernel_rfl) (by kernel_rfl) (by intro _ _ _ h; exact h) (Or.inl ⟨by rfl, ?hyq6_16⟩) (by assumption) ?restq6_16
      case hyq6_16 => ((intro w hSw; (try dsimp only at hSw); go_simp); try (with_reducible rfl))
      try simp only [Act.put, List.setIfInBounds_toArray, List.set_cons_zero, List.set_cons_succ]
      refine wpAnyH_take (i := 17) (oi := _) (v := ?vq6_17) (by simp only [List.getElem?_toArray, List.getElem?_cons_succ, List.getElem?_cons_zero]; rfl) (by kernel_rfl) (by kernel_rfl) (by kernel_rfl) (by intro _ _ _ h; exact h) (Or.inl ⟨by rfl, ?hyq6_17⟩) (by assumption) ?restq6_17
      case hyq6_17 => ((intro w hSw; (try dsimp only at hSw); go_simp); try (with_reducible rfl))
      try simp only [Act.put, List.setIfInBounds_toArray, List.set_cons_zero, List.set_cons_succ]
      refine wpAnyH_take (i := 18) (oi := _) (v := ?vq6_18) (by simp only [List.getElem?_toArray, List.getElem?_cons_succ, List.getElem?_cons_zero]; rfl) (by kernel_rfl) (by kernel_rfl) (by kernel_rfl) (by intro _ _ _ h; exact h) (Or.inl ⟨by rfl, ?hyq6_18⟩) (by assumption) ?restq6_18
      case hyq6_18 => ((intro w hSw; (try dsimp only at hSw); go_simp); try (with_reducible rfl))
      try simp only [Act.put, List.setIfInBounds_toArray, List.set_cons_zero, List.set_cons_succ]
      refine wpAnyH_ready (rs := [15]) (by kernel_rfl) (by simp) ?_
      refine AllReadyH.cons rfl (fun K hK => ?_) AllReadyH.nil
      go_simp
      go_wp2_with (go_at_call 53; (with_reducible refine (CAg.out _ ⟨pu, .slice a3 n3 k3, ps, .slice a4 n4 k4, pb, pt⟩ X5.out.ti).mono ?_); rintro e w7 ⟨rfl, hbb7⟩; have hb7 := hb6.trans (hbb7.mono hb6.size))
      refine hK.out _ _ ?_ (fun hHeld2 => ?_)
      · exact ed_mk E5 D5 hb7
      clear hK K hHeld
      have hHeld := hHeld2
      clear hHeld2
      refine wpAnyH_take (i := 19) (oi := _) (v := ?vq6_19) (by simp only [List.getElem?_toArray, List.getElem?_cons_succ, List.getElem?_cons_zero]; rfl) (by kernel_rfl) (by kernel_rfl) (by kernel_rfl) (by intro _ _ _ h; exact h) (Or.inl ⟨by rfl, ?hyq6_19⟩) (by assumption) ?restq6_19
      case hyq6_19 => ((intro w hSw; (try dsimp only at hSw); go_simp); try (with_reducible rfl))
      try simp only [Act.put, List.setIfInBounds_toArray, List.set_cons_zero, List.set_cons_succ]
      refine wpAnyH_take (i := 20) (oi := _) (v := ?vq6_20) (by simp only [List.getElem?_toArray, List.getElem?_cons_succ, List.getElem?_cons_zero]; rfl) (by kernel_rfl) (by kernel_rfl) (by kernel_rfl) (by intro _ _ _ h; exact h) (Or.inl ⟨by rfl, ?hyq6_20⟩) (by assumption) ?restq6_20
      case hyq6_20 => ((intro w hSw; (try dsimp only at hSw); go_simp); try (with_reducible rfl))
      try simp only [Act.put, List.setIfInBounds_toArray, List.set_cons_zero, List.set_cons_succ]
      refine wpAnyH_take (i := 21) (oi := _) (v := ?vq6_21) (by simp only [List.getElem?_toArray, List.getElem?_cons_succ, List.getElem?_cons_zero]; rfl) (by kernel_rfl) (by kernel_rfl) (by kernel_rfl) (by intro _ _ _ h; exact h) (Or.inl ⟨by rfl, ?hyq6_21⟩) (by assumption) ?restq6_21
      case hyq6_21 => ((intro w hSw; (try dsimp only at hSw); go_simp); try (with_reducible rfl))
      try simp only [Act.put, List.setIfInBounds_toArray, List.set_cons_zero, List.set_cons_succ]
      refine wpAnyH_done (by kernel_rfl) ?_ _
      clear hwr
      have hbL := hb7
      have EL := E5.next hbL
      have RL := R5.next hbL
      have HBL := H5.out.trans (hbL.mono hz5)
      have XL := X5.out.below hbL (Nat.le_refl _)
      have hzL := HBL.size
      have elL := EL.lt
      have rlL := RL.lt
      clear z0 z1 z2 z3 z4 z5 y0 y1 y2 y3 hHeld
      have z0 := EL.c 0 rfl; have z1 := EL.c 1 rfl; have z2 := EL.c 2 rfl; have z3 := EL.c 3 rfl; have z4 := EL.c 4 rfl; have z5 := EL.c 5 rfl
      go_wp2_with (go_at_call 51; refine (CK1.out _ _ XL.hd).mono ?_; rintro e w9 ⟨g9, c9, rfl, hs9, hg9, hb9⟩; have R9 := RL.next hb9; have E9 := EL.next hb9; clear z0 z1 z2 z3 z4 z5; have z0 := E9.c 0 rfl; have z1 := E9.c 1 rfl; have z2 := E9.c 2 rfl; have z3 := E9.c 3 rfl; have z4 := E9.c 4 rfl; have z5 := E9.c 5 rfl; have r0 := R9.c 0 rfl; have r1 := R9.c 1 rfl; have r2 := R9.c 2 rfl; have r3 := R9.c 3 rfl; have r4 := R9.c 4 rfl; have r5 := R9.c 5 rfl; have r6 := R9.c 6 rfl; have r7 := R9.c 7 rfl; have g0 := R9.f 0 rfl; have g1 := R9.f 1 rfl; have g2 := R9.f 2 rfl; have g3 := R9.f 3 rfl; have g4 := R9.f 4 rfl; have g5 := R9.f 5 rfl; have g6 := R9.f 6 rfl; have g7 := R9.f 7 rfl; have rl9 := R9.lt; have el9 := E9.lt)
      have X9 : Rd w9 ⟨pu, .slice a3 n3 k3, ps, .slice a4 n4 k4, pb, pt⟩ pe := XL.below hb9 (Nat.le_refl _)
      have hB9 := HBL.trans (hb9.mono hzL)
      exact bodyPost_ret (ret8_run Tryz.results24 Tryz.sizeOf45 Tryz.isAgg45 _ _ Rb _ _ _ _ _ _ _ _ rfl (R9.set8 rfl _ _ _ _ _ _ _ _)) rfl ⟨_, _, rfl, rd_set8 (x := (⟨pu, .slice a3 n3 k3, ps, .slice a4 n4 k4, pb, pt⟩, pe)) X9 (hnw.far (by omega) (fun b h => by cases h)) _ _ _ _ _ _ _ _, slk_set8 hs9 (fun b off n k e => by injection e with e1 _ _; injection e1 with e1; injection e1 with e1; omega) _ _ _ _ _ _ _ _, cato_fin HJ.out hB9 (CaTo.refl (HJ.out.below hB9 (Nat.le_refl _))) (fun _ h => h) (Nat.le_of_eq HRb.out) rl9 _ _ _ _ _ _ _ _⟩
end Go.Proofs.YtkobhknggamejaaGreatDoor
