/- Cache: the reference's Ask where an entry answers and must be checked. -/
import Derived.Test.YtkobhknggamejaaGreatDoorJI
import Derived.Test.YtkobhknggamejaaGreatDoorJD
namespace Go.Proofs.YtkobhknggamejaaGreatDoor
set_option linter.unusedVariables false
set_option linter.unusedSimpArgs false
open Go.RowKit

theorem far_old0 {w : World} {hs : List Hd} {u : Value} {k : Nat} (h : SlK hdC 2 w u hs) (h1 : w.heap.size ≤ k) : FarV hs u k none := slk_new h h1
set_option maxRecDepth 20000 in
set_option maxHeartbeats 8000000 in
theorem rask_chk (l : List Ee) (v : Value) (url : ByteArray) (rq : List Hd) (vr : Value) (now : Int) (w : World) (hM : MaxAt w) (hv : SlK eeC 6 w v l) (hr : ∀ x ∈ l, Rd w x.1 x.2) (hz : ∀ x ∈ l, HdSz x.2.va ∧ HdSz x.2.hd) (hl : l.length ≤ 1000) (hq : SlK hdC 2 w vr rq) (hzq : HdSz rq) (i : Nat) (hi : i < l.length) (x : Ee) (hx : l[i] = x) (hR : LastAt (fun x => ansB x.2 url rq) l (i : Int)) (d2 d3 : Bool) (d4 : Int) (hD : dirL rq = ⟨false, d2, d3, d4⟩) (U : Bool) (hU : useB ⟨false, d2, d3, d4⟩ x.2 now = U) (hUt : U = false) (L : List Hd) (hL : chkL x.2.hd = L) (k : Int) (en : En) (hke : (L = [] ∧ k = 1 ∧ en = en0) ∨ (L ≠ [] ∧ k = 3 ∧ en = x.2)) :
    Calls Tryz.prog 25 #[v, .string url, vr, .int .i64 now] w (RAskQ w k en L l) := by
  have HUT := Lib.hid hUt
  have HKE := Lib.hid hke
  have HLK := Lib.hid hL
  clear hUt hke hL
  obtain ⟨lo, hlo⟩ : ∃ lo, l.eraseIdx i ++ [x] = lo := ⟨_, rfl⟩
  try rw [hlo]
  obtain ⟨F, hF⟩ : ∃ F, freshE x.2 now = F := ⟨_, rfl⟩
  obtain ⟨A, hA⟩ : ∃ A, ageE x.2.ti now = A := ⟨_, rfl⟩
  have hu2 : (F && (!d2 && (decide (d4 < 0) || decide (A ≤ 1000 * d4)))) = U := by rw [← hU]; unfold useB; rw [hF, hA]
  have hdb := dirL_bd rq
  rw [hD] at hdb
  have hda : -1 ≤ d4 := hdb.1
  have hdc : d4 < 1000000000 := hdb.2
  have hab := ageE_bd x.2.ti now
  rw [hA] at hab
  have ha0 := hab.1
  have ha1 := hab.2
  obtain ⟨R, hRi⟩ : ∃ R : Int, (i : Int) = R := ⟨_, rfl⟩
  have hR0 : 0 ≤ R := by omega
  have hRn : ¬ R < 0 := by omega
  have hRd : decide (R < 0) = false := decide_eq_false hRn
  rw [hRi] at hR
  obtain ⟨D, hDD⟩ : ∃ D : Dir, (⟨false, d2, d3, d4⟩ : Dir) = D := ⟨_, rfl⟩
  rw [hDD] at hD
  have R0 := AtL.new w pl0 45
  have hB0 : Below w.heap.size w (w.alloc (.cells pl0.toArray 45)) := (Below.refl _ w).alloc (Nat.le_refl _) _
  have CD := Lib.hid (fun (w' : World) (hb : Below w.heap.size w w') => (rdir_is rq vr w' (hq.below hb (Nat.le_refl _)) hzq D hD))
  have CLa := Lib.hid (fun (w' : World) (hb : Below w.heap.size w w') => rlast_is l v url rq vr w' (hv.below hb (Nat.le_refl _)) (fun x hx => (hr x hx).below hb (Nat.le_refl _)) (fun x hx => (hz x hx).1) (hq.below hb (Nat.le_refl _)) hzq (by omega) R hR)
  have HV := Lib.hid hv
  have HRD := Lib.hid hr
  have HQ := Lib.hid hq
  obtain ⟨va, vc, rfl, _⟩ := hv.shape
  obtain ⟨qa, qc, rfl, _⟩ := hq.shape
  subst hDD
  have HCC := Lib.hid (ee_cells hv rfl)
  have hmem : x ∈ l := by rw [← hx]; exact List.getElem_mem hi
  have hrd := hr x hmem
  have hzx := hz x hmem
  have CBk := Lib.hid (fun (w' : World) (hb : Below w.heap.size w w') => by have := rback_is l (.slice va l.length vc) w' (hv.below hb (Nat.le_refl _)) (fun y hy => (hr y hy).below hb (Nat.le_refl _)) hl i hi x hx; rw [hRi, hlo] at this; exact this)
  have CFr := Lib.hid (fun (w : World) (r : Er) hM (hr : Rd w r x.2) => rfresh_is r x.2 now w hM hr hzx.2 _ hF)
  have CAg := Lib.hid (fun (w : World) (r : Er) (h : r.ti = x.2.ti) => reage_is r now w A (by rw [h]; exact hA))
  have HX := Lib.hid hx
  have HRX := Lib.hid hrd
  have HM := Lib.hid hM
  have HMEM : Hid (∀ y ∈ lo, y ∈ l) := Lib.hid (by rw [← hlo, ← hx]; exact erase_mem l i hi)
  clear hlo
  have HZX := Lib.hid hzx
  have HUU := Lib.hid hu2
  obtain ⟨b0, off, rfl, hb0l, hcell⟩ := ee_cells hv rfl (by omega)
  have cw : ∀ j u, (eeC x)[j]? = some u → w.cell? ⟨b0, off + i * 6 + j, none⟩ = some u := fun j u hu => hcell i hi j u (by rw [hx]; exact hu)
  obtain ⟨⟨a1, n1, k1, e1⟩, a2, n2, k2, e2⟩ := hrd.shp
  obtain ⟨⟨u, vv, st, hh, bo, ti⟩, xe⟩ := x
  have e1 : vv = .slice a1 n1 k1 := e1
  have e2 : hh = .slice a2 n2 k2 := e2
  subst e1 e2
  have HCW := Lib.hid cw
  have hii : R < (l.length : Int) := by omega
  have hRt : R.toNat = i := by omega
  have HRI := Lib.hid hRi
  clear cw hcell hx hD hR hq hv hz hr hM hrd hmem hF hA hab hdb hzx hu2 hRi hU
  go_enter Tryz.func25, Tryz.ntmps25
  go_upto_region 5 with (first
    | (go_at_call 15; (with_reducible refine (CD.out _ hB0).mono ?_); rintro e w1 ⟨rfl, hb1⟩; have hB1 := hB0.trans (hb1.mono hB0.size); have hB2 := hB1.alloc hB1.size (.cells #[.bool false, .bool d2, .bool d3, .int .i64 d4] 28); have D2 := AtL.new w1 [.bool false, .bool d2, .bool d3, .int .i64 d4] 28; have R2 := (R0.next hb1).alloc (.cells #[.bool false, .bool d2, .bool d3, .int .i64 d4] 28))
    | (go_at_call 36; (with_reducible refine (CLa.out _ hB2).mono ?_); rintro e w3 ⟨rfl, hb3⟩; have hB3 := hB2.trans (hb3.mono hB2.size); have D3 := D2.next hb3; have R3 := R2.next hb3; have y0 := D3.c 0 rfl; have y1 := D3.c 1 rfl; have y2 := D3.c 2 rfl; have y3 := D3.c 3 rfl; have dl3 := D3.lt; have r0 := R3.c 0 rfl; have r1 := R3.c 1 rfl; have r2 := R3.c 2 rfl; have r3 := R3.c 3 rfl; have r4 := R3.c 4 rfl; have r5 := R3.c 5 rfl; have r6 := R3.c 6 rfl; have r7 := R3.c 7 rfl; have g0 := R3.f 0 rfl; have g1 := R3.f 1 rfl; have g2 := R3.f 2 rfl; have g3 := R3.f 3 rfl; have g4 := R3.f 4 rfl; have g5 := R3.f 5 rfl; have g6 := R3.f 6 rfl; have g7 := R3.f 7 rfl; have rl3 := R3.lt)
    )
  obtain ⟨c0, c1, c2, c3, c4, c5⟩ := e6_mk (fun j u hu => (brl hB3 _ _ hb0l).trans (HCW.out j u hu))
  go_upto_region 6 with fail
  obtain ⟨W5, hW5⟩ : ∃ W5 : World, w3.alloc (.cells (eeC (⟨u, .slice a1 n1 k1, st, .slice a2 n2 k2, bo, ti⟩, xe)).toArray 40) = W5 := ⟨_, rfl⟩
  have E5 := AtL.new w3 (eeC (⟨u, .slice a1 n1 k1, st, .slice a2 n2 k2, bo, ti⟩, xe)) 40
  have R5 := R3.alloc (.cells (eeC (⟨u, .slice a1 n1 k1, st, .slice a2 n2 k2, bo, ti⟩, xe)).toArray 40)
  have D5 := D3.alloc (.cells (eeC (⟨u, .slice a1 n1 k1, st, .slice a2 n2 k2, bo, ti⟩, xe)).toArray 40)
  have B5 := hB3.alloc hB3.size (.cells (eeC (⟨u, .slice a1 n1 k1, st, .slice a2 n2 k2, bo, ti⟩, xe)).toArray 40)
  rw [hW5] at E5 R5 D5 B5
  obtain ⟨Rb, hRb⟩ : ∃ Rb, w.heap.size = Rb := ⟨_, rfl⟩
  obtain ⟨Db, hDb⟩ : ∃ Db, w1.heap.size = Db := ⟨_, rfl⟩
  obtain ⟨Eb, hEb⟩ : ∃ Eb, w3.heap.size = Eb := ⟨_, rfl⟩
  rw [hEb] at E5
  rw [hDb] at D5
  rw [hRb] at R5
  have hRDE : Rb < Eb := by have := R3.lt; omega
  rw [hW5, hRb, hDb, hEb]
  have HRb := Lib.hid hRb
  have HMd := Lib.hid ((HM.out.below B5 (Nat.le_refl _)).below (Below.refl _ W5).drew (Nat.le_refl _))
  have HXd := Lib.hid ((HRX.out.below B5 (Nat.le_refl _)).below (Below.refl _ W5).drew (Nat.le_refl _))
  have HTI := Lib.hid HRX.out.ti
  have H5 := Lib.hid B5
  have hz5 := B5.size
  clear hW5 hRb hDb hEb R3 D3 hB3 hb3 hb1 hB1 hB2 D2 R2 R0 hB0 B5 c0 c1 c2 c3 c4 c5 y0 y1 y2 y3 r0 r1 r2 r3 r4 r5 r6 r7 g0 g1 g2 g3 g4 g5 g6 g7 dl3 rl3
  have z0 := E5.c 0 rfl; have z1 := E5.c 1 rfl; have z2 := E5.c 2 rfl; have z3 := E5.c 3 rfl; have z4 := E5.c 4 rfl; have z5 := E5.c 5 rfl
  have y0 := D5.c 0 rfl; have y1 := D5.c 1 rfl; have y2 := D5.c 2 rfl; have y3 := D5.c 3 rfl
  have el5 := E5.lt
  have dl5 := D5.lt
  have rl5 := R5.lt
  go_cut [53] from 32 to 53 (fun c53 w6 => c53 = .bool U ∧ Below W5.heap.size W5 w6)
  case first =>
    cases F with
    | false =>
      obtain rfl : U = false := by rw [← HUU.out]; rfl
      clear HUU
      refine wp_region_held_drew (S := (fun w' => w'.cell? ⟨Eb, 0, none⟩ = some (.string u) ∧ w'.cell? ⟨Eb, 1, none⟩ = some (.slice a1 n1 k1) ∧ w'.cell? ⟨Eb, 2, none⟩ = some (.int .i64 st) ∧ w'.cell? ⟨Eb, 3, none⟩ = some (.slice a2 n2 k2) ∧ w'.cell? ⟨Eb, 4, none⟩ = some (.string bo) ∧ w'.cell? ⟨Eb, 5, none⟩ = some (.int .i64 ti) ∧ w'.cell? ⟨Db, 1, none⟩ = some (.bool d2) ∧ w'.cell? ⟨Db, 3, none⟩ = some (.int .i64 d4))) (by kernel_rfl) ?_ (fun hHeld => ?_)
      · exact ed_mk E5 D5 (Below.refl _ W5).drew
      refine wpAnyH_take (i := 0) (oi := _) (v := ?vq1_0) (by simp only [List.getElem?_toArray, List.getElem?_cons_succ, List.getElem?_cons_zero]; rfl) (by kernel_rfl) (by kernel_rfl) (by kernel_rfl) (by intro _ _ _ h; exact h) (Or.inl ⟨by rfl, ?hyq1_0⟩) (by assumption) ?restq1_0
      case hyq1_0 => ((intro w hSw; (try dsimp only at hSw); go_simp); try (with_reducible rfl))
      try simp only [Act.put, List.setIfInBounds_toArray, List.set_cons_zero, List.set_cons_succ]
      refine wpAnyH_take (i := 1) (oi := _) (v := ?vq1_1) (by simp only [List.getElem?_toArray, List.getElem?_cons_succ, List.getElem?_cons_zero]; rfl) (by kernel_rfl) (by kernel_rfl) (by kernel_rfl) (by intro _ _ _ h; exact h) (Or.inl ⟨by rfl, ?hyq1_1⟩) (by assumption) ?restq1_1
      case hyq1_1 => ((intro w hSw; (try dsimp only at hSw); go_simp); try (with_reducible rfl))
      try simp only [Act.put, List.setIfInBounds_toArray, List.set_cons_zero, List.set_cons_succ]
      refine wpAnyH_ready (rs := [2]) (by kernel_rfl) (by simp) ?_
      refine AllReadyH.cons rfl (fun K hK => ?_) AllReadyH.nil
      go_simp
      go_wp2_with (go_at_call 22; (with_reducible refine (CFr.out W5.drew ⟨u, .slice a1 n1 k1, st, .slice a2 n2 k2, bo, ti⟩ HMd.out HXd.out).mono ?_); rintro e w6 ⟨rfl, hbb6⟩; have hb6 := (Below.refl _ W5).drew.trans hbb6)
      refine hK.out _ _ ?_ (fun hHeld2 => ?_)
      · exact ed_mk E5 D5 hb6
      clear hK K hHeld
      have hHeld := hHeld2
      clear hHeld2
      refine wpAnyH_take (i := 3) (oi := _) (v := ?vq1_3) (by simp only [List.getElem?_toArray, List.getElem?_cons_succ, List.getElem?_cons_zero]; rfl) (by kernel_rfl) (by kernel_rfl) (by kernel_rfl) (by intro _ _ _ h; exact h) (Or.inl ⟨by rfl, ?hyq1_3⟩) (by assumption) ?restq1_3
      case hyq1_3 => ((intro w hSw; (try dsimp only at hSw); go_simp); try (with_reducible rfl))
      try simp only [Act.put, List.setIfInBounds_toArray, List.set_cons_zero, List.set_cons_succ]
      refine wpAnyH_take (i := 4) (oi := _) (v := undef) (by simp only [List.getElem?_toArray, List.getElem?_cons_succ, List.getElem?_cons_zero]; rfl) (by kernel_rfl) (by kernel_rfl) (by kernel_rfl) (by intro _ _ _ h; exact h) (Or.inr ⟨by rfl, rfl⟩) (by assumption) ?_
      try simp only [Act.put, List.setIfInBounds_toArray, List.set_cons_zero, List.set_cons_succ]
      refine wpAnyH_take (i := 5) (oi := _) (v := undef) (by simp only [List.getElem?_toArray, List.getElem?_cons_succ, List.getElem?_cons_zero]; rfl) (by kernel_rfl) (by kernel_rfl) (by kernel_rfl) (by intro _ _ _ h; exact h) (Or.inr ⟨by rfl, rfl⟩) (by assumption) ?_
      try simp only [Act.put, List.setIfInBounds_toArray, List.set_cons_zero, List.set_cons_succ]
      refine wpAnyH_take (i := 6) (oi := _) (v := undef) (by simp only [List.getElem?_toArray, List.getElem?_cons_succ, List.getElem?_cons_zero]; rfl) (by kernel_rfl) (by kernel_rfl) (by kernel_rfl) (by intro _ _ _ h; exact h) (Or.inr ⟨by rfl, rfl⟩) (by assumption) ?_
      try simp only [Act.put, List.setIfInBounds_toArray, List.set_cons_zero, List.set_cons_succ]
      refine wpAnyH_take (i := 7) (oi := _) (v := ?vq1_7) (by simp only [List.getElem?_toArray, List.getElem?_cons_succ, List.getElem?_cons_zero]; rfl) (by kernel_rfl) (by kernel_rfl) (by kernel_rfl) (by intro _ _ _ h; exact h) (Or.inl ⟨by rfl, ?hyq1_7⟩) (by assumption) ?restq1_7
      case hyq1_7 => ((intro w hSw; (try dsimp only at hSw); go_simp); try (with_reducible rfl))
      try simp only [Act.put, List.setIfInBounds_toArray, List.set_cons_zero, List.set_cons_succ]
      refine wpAnyH_take (i := 8) (oi := _) (v := ?vq1_8) (by simp only [List.getElem?_toArray, List.getElem?_cons_succ, List.getElem?_cons_zero]; rfl) (by kernel_rfl) (by kernel_rfl) (by kernel_rfl) (by intro _ _ _ h; exact h) (Or.inl ⟨by rfl, ?hyq1_8⟩) (by assumption) ?restq1_8
      case hyq1_8 => ((intro w hSw; (try dsimp only at hSw); go_simp); try (with_reducible rfl))
      try simp only [Act.put, List.setIfInBounds_toArray, List.set_cons_zero, List.set_cons_succ]
      refine wpAnyH_take (i := 9) (oi := _) (v := undef) (by simp only [List.getElem?_toArray, List.getElem?_cons_succ, List.getElem?_cons_zero]; rfl) (by kernel_rfl) (by kernel_rfl) (by kernel_rfl) (by intro _ _ _ h; exact h) (Or.inr ⟨by rfl, rfl⟩) (by assumption) ?_
      try simp only [Act.put, List.setIfInBounds_toArray, List.set_cons_zero, List.set_cons_succ]
      refine wpAnyH_take (i := 10) (oi := _) (v := undef) (by simp only [List.getElem?_toArray, List.getElem?_cons_succ, List.getElem?_cons_zero]; rfl) (by kernel_rfl) (by kernel_rfl) (by kernel_rfl) (by intro _ _ _ h; exact h) (Or.inr ⟨by rfl, rfl⟩) (by assumption) ?_
      try simp only [Act.put, List.setIfInBounds_toArray, List.set_cons_zero, List.set_cons_succ]
      refine wpAnyH_take (i := 11) (oi := _) (v := undef) (by simp only [List.getElem?_toArray, List.getElem?_cons_succ, List.getElem?_cons_zero]; rfl) (by kernel_rfl) (by kernel_rfl) (by kernel_rfl) (by intro _ _ _ h; exact h) (Or.inr ⟨by rfl, rfl⟩) (by assumption) ?_
      try simp only [Act.put, List.setIfInBounds_toArray, List.set_cons_zero, List.set_cons_succ]
      refine wpAnyH_take (i := 12) (oi := _) (v := undef) (by simp only [List.getElem?_toArray, List.getElem?_cons_succ, List.getElem?_cons_zero]; rfl) (by kernel_rfl) (by kernel_rfl) (by kernel_rfl) (by intro _ _ _ h; exact h) (Or.inr ⟨by rfl, rfl⟩) (by assumption) ?_
      try simp only [Act.put, List.setIfInBounds_toArray, List.set_cons_zero, List.set_cons_succ]
      refine wpAnyH_take (i := 13) (oi := _) (v := undef) (by simp only [List.getElem?_toArray, List.getElem?_cons_succ, List.getElem?_cons_zero]; rfl) (by kernel_rfl) (by kernel_rfl) (by kernel_rfl) (by intro _ _ _ h; exact h) (Or.inr ⟨by rfl, rfl⟩) (by assumption) ?_
      try simp only [Act.put, List.setIfInBounds_toArray, List.set_cons_zero, List.set_cons_succ]
      refine wpAnyH_take (i := 14) (oi := _) (v := undef) (by simp only [List.getElem?_toArray, List.getElem?_cons_succ, List.getElem?_cons_zero]; rfl) (by kernel_rfl) (by kernel_rfl) (by kernel_rfl) (by intro _ _ _ h; exact h) (Or.inr ⟨by rfl, rfl⟩) (by assumption) ?_
      try simp only [Act.put, List.setIfInBounds_toArray, List.set_cons_zero, List.set_cons_succ]
      refine wpAnyH_take (i := 15) (oi := _) (v := undef) (by simp only [List.getElem?_toArray, List.getElem?_cons_succ, List.getElem?_cons_zero]; rfl) (by kernel_rfl) (by kernel_rfl) (by kernel_rfl) (by intro _ _ _ h; exact h) (Or.inr ⟨by rfl, rfl⟩) (by assumption) ?_
      try simp only [Act.put, List.setIfInBounds_toArray, List.set_cons_zero, List.set_cons_succ]
      refine wpAnyH_take (i := 16) (oi := _) (v := undef) (by simp only [List.getElem?_toArray, List.getElem?_cons_succ, List.getElem?_cons_zero]; rfl) (by kernel_rfl) (by kernel_rfl) (by kernel_rfl) (by intro _ _ _ h; exact h) (Or.inr ⟨by rfl, rfl⟩) (by assumption) ?_
      try simp only [Act.put, List.setIfInBounds_toArray, List.set_cons_zero, List.set_cons_succ]
      refine wpAnyH_take (i := 17) (oi := _) (v := undef) (by simp only [List.getElem?_toArray, List.getElem?_cons_succ, List.getElem?_cons_zero]; rfl) (by kernel_rfl) (by kernel_rfl) (by kernel_rfl) (by intro _ _ _ h; exact h) (Or.inr ⟨by rfl, rfl⟩) (by assumption) ?_
      try simp only [Act.put, List.setIfInBounds_toArray, List.set_cons_zero, List.set_cons_succ]
      refine wpAnyH_take (i := 18) (oi := _) (v := undef) (by simp only [List.getElem?_toArray, List.getElem?_cons_succ, List.getElem?_cons_zero]; rfl) (by kernel_rfl) (by kernel_rfl) (by kernel_rfl) (by intro _ _ _ h; exact h) (Or.inr ⟨by rfl, rfl⟩) (by assumption) ?_
      try simp only [Act.put, List.setIfInBounds_toArray, List.set_cons_zero, List.set_cons_succ]
      refine wpAnyH_take (i := 19) (oi := _) (v := undef) (by simp only [List.getElem?_toArray, List.getElem?_cons_succ, List.getElem?_cons_zero]; rfl) (by kernel_rfl) (by kernel_rfl) (by kernel_rfl) (by intro _ _ _ h; exact h) (Or.inr ⟨by rfl, rfl⟩) (by assumption) ?_
      try simp only [Act.put, List.setIfInBounds_toArray, List.set_cons_zero, List.set_cons_succ]
      refine wpAnyH_take (i := 20) (oi := _) (v := undef) (by simp only [List.getElem?_toArray, List.getElem?_cons_succ, List.getElem?_cons_zero]; rfl) (by kernel_rfl) (by kernel_rfl) (by kernel_rfl) (by intro _ _ _ h; exact h) (Or.inr ⟨by rfl, rfl⟩) (by assumption) ?_
      try simp only [Act.put, List.setIfInBounds_toArray, List.set_cons_zero, List.set_cons_succ]
      refine wpAnyH_take (i := 21) (oi := _) (v := ?vq1_21) (by simp only [List.getElem?_toArray, List.getElem?_cons_succ, List.getElem?_cons_zero]; rfl) (by kernel_rfl) (by kernel_rfl) (by kernel_rfl) (by intro _ _ _ h; exact h) (Or.inl ⟨by rfl, ?hyq1_21⟩) (by assumption) ?restq1_21
      case hyq1_21 => ((intro w hSw; (try dsimp only at hSw); go_simp); try (with_reducible rfl))
      try simp only [Act.put, List.setIfInBounds_toArray, List.set_cons_zero, List.set_cons_succ]
      refine wpAnyH_done (by kernel_rfl) ?_ _
      go_wp2_with fail
      go_meet
      case rel => exact ⟨rfl, hb6⟩
    | true =>
      cases d2 with
      | true =>
        obtain rfl : U = false := by rw [← HUU.out]; rfl
        clear HUU
        refine wp_region_held_drew (S := (fun w' => w'.cell? ⟨Eb, 0, none⟩ = some (.string u) ∧ w'.cell? ⟨Eb, 1, none⟩ = some (.slice a1 n1 k1) ∧ w'.cell? ⟨Eb, 2, none⟩ = some (.int .i64 st) ∧ w'.cell? ⟨Eb, 3, none⟩ = some (.slice a2 n2 k2) ∧ w'.cell? ⟨Eb, 4, none⟩ = some (.string bo) ∧ w'.cell? ⟨Eb, 5, none⟩ = some (.int .i64 ti) ∧ w'.cell? ⟨Db, 1, none⟩ = some (.bool true) ∧ w'.cell? ⟨Db, 3, none⟩ = some (.int .i64 d4))) (by kernel_rfl) ?_ (fun hHeld => ?_)
        · exact ed_mk E5 D5 (Below.refl _ W5).drew
        refine wpAnyH_take (i := 0) (oi := _) (v := ?vq2_0) (by simp only [List.getElem?_toArray, List.getElem?_cons_succ, List.getElem?_cons_zero]; rfl) (by kernel_rfl) (by kernel_rfl) (by kernel_rfl) (by intro _ _ _ h; exact h) (Or.inl ⟨by rfl, ?hyq2_0⟩) (by assumption) ?restq2_0
        case hyq2_0 => ((intro w hSw; (try dsimp only at hSw); go_simp); try (with_reducible rfl))
        try simp only [Act.put, List.setIfInBounds_toArray, List.set_cons_zero, List.set_cons_succ]
        refine wpAnyH_take (i := 1) (oi := _) (v := ?vq2_1) (by simp only [List.getElem?_toArray, List.getElem?_cons_succ, List.getElem?_cons_zero]; rfl) (by kernel_rfl) (by kernel_rfl) (by kernel_rfl) (by intro _ _ _ h; exact h) (Or.inl ⟨by rfl, ?hyq2_1⟩) (by assumption) ?restq2_1
        case hyq2_1 => ((intro w hSw; (try dsimp only at hSw); go_simp); try (with_reducible rfl))
        try simp only [Act.put, List.setIfInBounds_toArray, List.set_cons_zero, List.set_cons_succ]
        refine wpAnyH_ready (rs := [2]) (by kernel_rfl) (by simp) ?_
        refine AllReadyH.cons rfl (fun K hK => ?_) AllReadyH.nil
        go_simp
        go_wp2_with (go_at_call 22; (with_reducible refine (CFr.out W5.drew ⟨u, .slice a1 n1 k1, st, .slice a2 n2 k2, bo, ti⟩ HMd.out HXd.out).mono ?_); rintro e w6 ⟨rfl, hbb6⟩; have hb6 := (Below.refl _ W5).drew.trans hbb6)
        refine hK.out _ _ ?_ (fun hHeld2 => ?_)
        · exact ed_mk E5 D5 hb6
        clear hK K hHeld
        have hHeld := hHeld2
        clear hHeld2
        refine wpAnyH_take (i := 3) (oi := _) (v := ?vq2_3) (by simp only [List.getElem?_toArray, List.getElem?_cons_succ, List.getElem?_cons_zero]; rfl) (by kernel_rfl) (by kernel_rfl) (by kernel_rfl) (by intro _ _ _ h; exact h) (Or.inl ⟨by rfl, ?hyq2_3⟩) (by assumption) ?restq2_3
        case hyq2_3 => ((intro w hSw; (try dsimp only at hSw); go_simp); try (with_reducible rfl))
        try simp only [Act.put, List.setIfInBounds_toArray, List.set_cons_zero, List.set_cons_succ]
        refine wpAnyH_take (i := 4) (oi := _) (v := ?vq2_4) (by simp only [List.getElem?_toArray, List.getElem?_cons_succ, List.getElem?_cons_zero]; rfl) (by kernel_rfl) (by kernel_rfl) (by kernel_rfl) (by intro _ _ _ h; exact h) (Or.inl ⟨by rfl, ?hyq2_4⟩) (by assumption) ?restq2_4
        case hyq2_4 => ((intro w hSw; (try dsimp only at hSw); go_simp); try (with_reducible rfl))
        try simp only [Act.put, List.setIfInBounds_toArray, List.set_cons_zero, List.set_cons_succ]
        refine wpAnyH_take (i := 5) (oi := _) (v := ?vq2_5) (by simp only [List.getElem?_toArray, List.getElem?_cons_succ, List.getElem?_cons_zero]; rfl) (by kernel_rfl) (by kernel_rfl) (by kernel_rfl) (by intro _ _ _ h; exact h) (Or.inl ⟨by rfl, ?hyq2_5⟩) (by assumption) ?restq2_5
        case hyq2_5 => ((intro w hSw; (try dsimp only at hSw); go_simp); try (with_reducible rfl))
        try simp only [Act.put, List.setIfInBounds_toArray, List.set_cons_zero, List.set_cons_succ]
        refine wpAnyH_take (i := 6) (oi := _) (v := ?vq2_6) (by simp only [List.getElem?_toArray, List.getElem?_cons_succ, List.getElem?_cons_zero]; rfl) (by kernel_rfl) (by kernel_rfl) (by kernel_rfl) (by intro _ _ _ h; exact h) (Or.inl ⟨by rfl, ?hyq2_6⟩) (by assumption) ?restq2_6
        case hyq2_6 => ((intro w hSw; (try dsimp only at hSw); go_simp); try (with_reducible rfl))
        try simp only [Act.put, List.setIfInBounds_toArray, List.set_cons_zero, List.set_cons_succ]
        refine wpAnyH_take (i := 7) (oi := _) (v := ?vq2_7) (by simp only [List.getElem?_toArray, List.getElem?_cons_succ, List.getElem?_cons_zero]; rfl) (by kernel_rfl) (by kernel_rfl) (by kernel_rfl) (by intro _ _ _ h; exact h) (Or.inl ⟨by rfl, ?hyq2_7⟩) (by assumption) ?restq2_7
        case hyq2_7 => ((intro w hSw; (try dsimp only at hSw); go_simp); try (with_reducible rfl))
        try simp only [Act.put, List.setIfInBounds_toArray, List.set_cons_zero, List.set_cons_succ]
        refine wpAnyH_take (i := 8) (oi := _) (v := ?vq2_8) (by simp only [List.getElem?_toArray, List.getElem?_cons_succ, List.getElem?_cons_zero]; rfl) (by kernel_rfl) (by kernel_rfl) (by kernel_rfl) (by intro _ _ _ h; exact h) (Or.inl ⟨by rfl, ?hyq2_8⟩) (by assumption) ?restq2_8
        case hyq2_8 => ((intro w hSw; (try dsimp only at hSw); go_simp); try (with_reducible rfl))
        try simp only [Act.put, List.setIfInBounds_toArray, List.set_cons_zero, List.set_cons_succ]
        refine wpAnyH_take (i := 9) (oi := _) (v := undef) (by simp only [List.getElem?_toArray, List.getElem?_cons_succ, List.getElem?_cons_zero]; rfl) (by kernel_rfl) (by kernel_rfl) (by kernel_rfl) (by intro _ _ _ h; exact h) (Or.inr ⟨by rfl, rfl⟩) (by assumption) ?_
        try simp only [Act.put, List.setIfInBounds_toArray, List.set_cons_zero, List.set_cons_succ]
        refine wpAnyH_take (i := 10) (oi := _) (v := undef) (by simp only [List.getElem?_toArray, List.getElem?_cons_succ, List.getElem?_cons_zero]; rfl) (by kernel_rfl) (by kernel_rfl) (by kernel_rfl) (by intro _ _ _ h; exact h) (Or.inr ⟨by rfl, rfl⟩) (by assumption) ?_
        try simp only [Act.put, List.setIfInBounds_toArray, List.set_cons_zero, List.set_cons_succ]
        refine wpAnyH_take (i := 11) (oi := _) (v := undef) (by simp only [List.getElem?_toArray, List.getElem?_cons_succ, List.getElem?_cons_zero]; rfl) (by kernel_rfl) (by kernel_rfl) (by kernel_rfl) (by intro _ _ _ h; exact h) (Or.inr ⟨by rfl, rfl⟩) (by assumption) ?_
        try simp only [Act.put, List.setIfInBounds_toArray, List.set_cons_zero, List.set_cons_succ]
        refine wpAnyH_take (i := 12) (oi := _) (v := undef) (by simp only [List.getElem?_toArray, List.getElem?_cons_succ, List.getElem?_cons_zero]; rfl) (by kernel_rfl) (by kernel_rfl) (by kernel_rfl) (by intro _ _ _ h; exact h) (Or.inr ⟨by rfl, rfl⟩) (by assumption) ?_
        try simp only [Act.put, List.setIfInBounds_toArray, List.set_cons_zero, List.set_cons_succ]
        refine wpAnyH_take (i := 13) (oi := _) (v := undef) (by simp only [List.getElem?_toArray, List.getElem?_cons_succ, List.getElem?_cons_zero]; rfl) (by kernel_rfl) (by kernel_rfl) (by kernel_rfl) (by intro _ _ _ h; exact h) (Or.inr ⟨by rfl, rfl⟩) (by assumption) ?_
        try simp only [Act.put, List.setIfInBounds_toArray, List.set_cons_zero, List.set_cons_succ]
        refine wpAnyH_take (i := 14) (oi := _) (v := undef) (by simp only [List.getElem?_toArray, List.getElem?_cons_succ, List.getElem?_cons_zero]; rfl) (by kernel_rfl) (by kernel_rfl) (by kernel_rfl) (by intro _ _ _ h; exact h) (Or.inr ⟨by rfl, rfl⟩) (by assumption) ?_
        try simp only [Act.put, List.setIfInBounds_toArray, List.set_cons_zero, List.set_cons_succ]
        refine wpAnyH_take (i := 15) (oi := _) (v := undef) (by simp only [List.getElem?_toArray, List.getElem?_cons_succ, List.getElem?_cons_zero]; rfl) (by kernel_rfl) (by kernel_rfl) (by kernel_rfl) (by intro _ _ _ h; exact h) (Or.inr ⟨by rfl, rfl⟩) (by assumption) ?_
        try simp only [Act.put, List.setIfInBounds_toArray, List.set_cons_zero, List.set_cons_succ]
        refine wpAnyH_take (i := 16) (oi := _) (v := undef) (by simp only [List.getElem?_toArray, List.getElem?_cons_succ, List.getElem?_cons_zero]; rfl) (by kernel_rfl) (by kernel_rfl) (by kernel_rfl) (by intro _ _ _ h; exact h) (Or.inr ⟨by rfl, rfl⟩) (by assumption) ?_
        try simp only [Act.put, List.setIfInBounds_toArray, List.set_cons_zero, List.set_cons_succ]
        refine wpAnyH_take (i := 17) (oi := _) (v := undef) (by simp only [List.getElem?_toArray, List.getElem?_cons_succ, List.getElem?_cons_zero]; rfl) (by kernel_rfl) (by kernel_rfl) (by kernel_rfl) (by intro _ _ _ h; exact h) (Or.inr ⟨by rfl, rfl⟩) (by assumption) ?_
        try simp only [Act.put, List.setIfInBounds_toArray, List.set_cons_zero, List.set_cons_succ]
        refine wpAnyH_take (i := 18) (oi := _) (v := undef) (by simp only [List.getElem?_toArray, List.getElem?_cons_succ, List.getElem?_cons_zero]; rfl) (by kernel_rfl) (by kernel_rfl) (by kernel_rfl) (by intro _ _ _ h; exact h) (Or.inr ⟨by rfl, rfl⟩) (by assumption) ?_
        try simp only [Act.put, List.setIfInBounds_toArray, List.set_cons_zero, List.set_cons_succ]
        refine wpAnyH_take (i := 19) (oi := _) (v := undef) (by simp only [List.getElem?_toArray, List.getElem?_cons_succ, List.getElem?_cons_zero]; rfl) (by kernel_rfl) (by kernel_rfl) (by kernel_rfl) (by intro _ _ _ h; exact h) (Or.inr ⟨by rfl, rfl⟩) (by assumption) ?_
        try simp only [Act.put, List.setIfInBounds_toArray, List.set_cons_zero, List.set_cons_succ]
        refine wpAnyH_take (i := 20) (oi := _) (v := undef) (by simp only [List.getElem?_toArray, List.getElem?_cons_succ, List.getElem?_cons_zero]; rfl) (by kernel_rfl) (by kernel_rfl) (by kernel_rfl) (by intro _ _ _ h; exact h) (Or.inr ⟨by rfl, rfl⟩) (by assumption) ?_
        try simp only [Act.put, List.setIfInBounds_toArray, List.set_cons_zero, List.set_cons_succ]
        refine wpAnyH_take (i := 21) (oi := _) (v := ?vq2_21) (by simp only [List.getElem?_toArray, List.getElem?_cons_succ, List.getElem?_cons_zero]; rfl) (by kernel_rfl) (by kernel_rfl) (by kernel_rfl) (by intro _ _ _ h; exact h) (Or.inl ⟨by rfl, ?hyq2_21⟩) (by assumption) ?restq2_21
        case hyq2_21 => ((intro w hSw; (try dsimp only at hSw); go_simp); try (with_reducible rfl))
        try simp only [Act.put, List.setIfInBounds_toArray, List.set_cons_zero, List.set_cons_succ]
        refine wpAnyH_done (by kernel_rfl) ?_ _
        go_wp2_with fail
        go_meet
        case rel => exact ⟨rfl, hb6⟩
      | false =>
        have hu2 : (decide (d4 < 0) || decide (A ≤ 1000 * d4)) = U := by rw [← HUU.out]; rfl
        clear HUU
        by_cases h0 : d4 < 0
        · have h4 : decide (d4 < 0) = true := decide_eq_true h0
          obtain rfl : U = true := by rw [← hu2, h4]; rfl
          clear hu2 h0
          refine wp_region_held_drew (S := (fun w' => w'.cell? ⟨Eb, 0, none⟩ = some (.string u) ∧ w'.cell? ⟨Eb, 1, none⟩ = some (.slice a1 n1 k1) ∧ w'.cell? ⟨Eb, 2, none⟩ = some (.int .i64 st) ∧ w'.cell? ⟨Eb, 3, none⟩ = some (.slice a2 n2 k2) ∧ w'.cell? ⟨Eb, 4, none⟩ = some (.string bo) ∧ w'.cell? ⟨Eb, 5, none⟩ = some (.int .i64 ti) ∧ w'.cell? ⟨Db, 1, none⟩ = some (.bool false) ∧ w'.cell? ⟨Db, 3, none⟩ = some (.int .i64 d4))) (by kernel_rfl) ?_ (fun hHeld => ?_)
          · exact ed_mk E5 D5 (Below.refl _ W5).drew
          refine wpAnyH_take (i := 0) (oi := _) (v := ?vq3_0) (by simp only [List.getElem?_toArray, List.getElem?_cons_succ, List.getElem?_cons_zero]; rfl) (by kernel_rfl) (by kernel_rfl) (by kernel_rfl) (by intro _ _ _ h; exact h) (Or.inl ⟨by rfl, ?hyq3_0⟩) (by assumption) ?restq3_0
          case hyq3_0 => ((intro w hSw; (try dsimp only at hSw); go_simp); try (with_reducible rfl))
          try simp only [Act.put, List.setIfInBounds_toArray, List.set_cons_zero, List.set_cons_succ]
          refine wpAnyH_take (i := 1) (oi := _) (v := ?vq3_1) (by simp only [List.getElem?_toArray, List.getElem?_cons_succ, List.getElem?_cons_zero]; rfl) (by kernel_rfl) (by kernel_rfl) (by kernel_rfl) (by intro _ _ _ h; exact h) (Or.inl ⟨by rfl, ?hyq3_1⟩) (by assumption) ?restq3_1
          case hyq3_1 => ((intro w hSw; (try dsimp only at hSw); go_simp); try (with_reducible rfl))
          try simp only [Act.put, List.setIfInBounds_toArray, List.set_cons_zero, List.set_cons_succ]
          refine wpAnyH_ready (rs := [2]) (by kernel_rfl) (by simp) ?_
          refine AllReadyH.cons rfl (fun K hK => ?_) AllReadyH.nil
          go_simp
          go_wp2_with (go_at_call 22; (with_reducible refine (CFr.out W5.drew ⟨u, .slice a1 n1 k1, st, .slice a2 n2 k2, bo, ti⟩ HMd.out HXd.out).mono ?_); rintro e w6 ⟨rfl, hbb6⟩; have hb6 := (Below.refl _ W5).drew.trans hbb6)
          refine hK.out _ _ ?_ (fun hHeld2 => ?_)
          · exact ed_mk E5 D5 hb6
          clear hK K hHeld
          have hHeld := hHeld2
          clear hHeld2
          refine wpAnyH_take (i := 3) (oi := _) (v := ?vq3_3) (by simp only [List.getElem?_toArray, List.getElem?_cons_succ, List.getElem?_cons_zero]; rfl) (by kernel_rfl) (by kernel_rfl) (by kernel_rfl) (by intro _ _ _ h; exact h) (Or.inl ⟨by rfl, ?hyq3_3⟩) (by assumption) ?restq3_3
          case hyq3_3 => ((intro w hSw; (try dsimp only at hSw); go_simp); try (with_reducible rfl))
          try simp only [Act.put, List.setIfInBounds_toArray, List.set_cons_zero, List.set_cons_succ]
          refine wpAnyH_take (i := 4) (oi := _) (v := ?vq3_4) (by simp only [List.getElem?_toArray, List.getElem?_cons_succ, List.getElem?_cons_zero]; rfl) (by kernel_rfl) (by kernel_rfl) (by kernel_rfl) (by intro _ _ _ h; exact h) (Or.inl ⟨by rfl, ?hyq3_4⟩) (by assumption) ?restq3_4
          case hyq3_4 => ((intro w hSw; (try dsimp only at hSw); go_simp); try (with_reducible rfl))
          try simp only [Act.put, List.setIfInBounds_toArray, List.set_cons_zero, List.set_cons_succ]
          refine wpAnyH_take (i := 5) (oi := _) (v := ?vq3_5) (by simp only [List.getElem?_toArray, List.getElem?_cons_succ, List.getElem?_cons_zero]; rfl) (by kernel_rfl) (by kernel_rfl) (by kernel_rfl) (by intro _ _ _ h; exact h) (Or.inl ⟨by rfl, ?hyq3_5⟩) (by assumption) ?restq3_5
          case hyq3_5 => ((intro w hSw; (try dsimp only at hSw); go_simp); try (with_reducible rfl))
          try simp only [Act.put, List.setIfInBounds_toArray, List.set_cons_zero, List.set_cons_succ]
          refine wpAnyH_take (i := 6) (oi := _) (v := ?vq3_6) (by simp only [List.getElem?_toArray, List.getElem?_cons_succ, List.getElem?_cons_zero]; rfl) (by kernel_rfl) (by kernel_rfl) (by kernel_rfl) (by intro _ _ _ h; exact h) (Or.inl ⟨by rfl, ?hyq3_6⟩) (by assumption) ?restq3_6
          case hyq3_6 => ((intro w hSw; (try dsimp only at hSw); go_simp); try (with_reducible rfl))
          try simp only [Act.put, List.setIfInBounds_toArray, List.set_cons_zero, List.set_cons_succ]
          refine wpAnyH_take (i := 7) (oi := _) (v := ?vq3_7) (by simp only [List.getElem?_toArray, List.getElem?_cons_succ, List.getElem?_cons_zero]; rfl) (by kernel_rfl) (by kernel_rfl) (by kernel_rfl) (by intro _ _ _ h; exact h) (Or.inl ⟨by rfl, ?hyq3_7⟩) (by assumption) ?restq3_7
          case hyq3_7 => ((intro w hSw; (try dsimp only at hSw); go_simp); try (with_reducible rfl))
          try simp only [Act.put, List.setIfInBounds_toArray, List.set_cons_zero, List.set_cons_succ]
          refine wpAnyH_take (i := 8) (oi := _) (v := ?vq3_8) (by simp only [List.getElem?_toArray, List.getElem?_cons_succ, List.getElem?_cons_zero]; rfl) (by kernel_rfl) (by kernel_rfl) (by kernel_rfl) (by intro _ _ _ h; exact h) (Or.inl ⟨by rfl, ?hyq3_8⟩) (by assumption) ?restq3_8
          case hyq3_8 => ((intro w hSw; (try dsimp only at hSw); go_simp); try (with_reducible rfl))
          try simp only [Act.put, List.setIfInBounds_toArray, List.set_cons_zero, List.set_cons_succ]
          refine wpAnyH_take (i := 9) (oi := _) (v := ?vq3_9) (by simp only [List.getElem?_toArray, List.getElem?_cons_succ, List.getElem?_cons_zero]; rfl) (by kernel_rfl) (by kernel_rfl) (by kernel_rfl) (by intro _ _ _ h; exact h) (Or.inl ⟨by rfl, ?hyq3_9⟩) (by assumption) ?restq3_9
          case hyq3_9 => ((intro w hSw; (try dsimp only at hSw); go_simp); try (with_reducible rfl))
          try simp only [Act.put, List.setIfInBounds_toArray, List.set_cons_zero, List.set_cons_succ]
          refine wpAnyH_take (i := 10) (oi := _) (v := ?vq3_10) (by simp only [List.getElem?_toArray, List.getElem?_cons_succ, List.getElem?_cons_zero]; rfl) (by kernel_rfl) (by kernel_rfl) (by kernel_rfl) (by intro _ _ _ h; exact h) (Or.inl ⟨by rfl, ?hyq3_10⟩) (by assumption) ?restq3_10
          case hyq3_10 => ((intro w hSw; (try dsimp only at hSw); go_simp); try (with_reducible rfl))
          try simp only [Act.put, List.setIfInBounds_toArray, List.set_cons_zero, List.set_cons_succ]
          refine wpAnyH_take (i := 11) (oi := _) (v := ?vq3_11) (by simp only [List.getElem?_toArray, List.getElem?_cons_succ, List.getElem?_cons_zero]; rfl) (by kernel_rfl) (by kernel_rfl) (by kernel_rfl) (by intro _ _ _ h; exact h) (Or.inl ⟨by rfl, ?hyq3_11⟩) (by assumption) ?restq3_11
          case hyq3_11 => ((intro w hSw; (try dsimp only at hSw); go_simp); try (with_reducible rfl))
          try simp only [Act.put, List.setIfInBounds_toArray, List.set_cons_zero, List.set_cons_succ]
          refine wpAnyH_take (i := 12) (oi := _) (v := ?vq3_12) (by simp only [List.getElem?_toArray, List.getElem?_cons_succ, List.getElem?_cons_zero]; rfl) (by kernel_rfl) (by kernel_rfl) (by kernel_rfl) (by intro _ _ _ h; exact h) (Or.inl ⟨by rfl, ?hyq3_12⟩) (by assumption) ?restq3_12
          case hyq3_12 => ((intro w hSw; (try dsimp only at hSw); go_simp); try (with_reducible rfl))
          try simp only [Act.put, List.setIfInBounds_toArray, List.set_cons_zero, List.set_cons_succ]
          refine wpAnyH_take (i := 13) (oi := _) (v := undef) (by simp only [List.getElem?_toArray, List.getElem?_cons_succ, List.getElem?_cons_zero]; rfl) (by kernel_rfl) (by kernel_rfl) (by kernel_rfl) (by intro _ _ _ h; exact h) (Or.inr ⟨by rfl, rfl⟩) (by assumption) ?_
          try simp only [Act.put, List.setIfInBounds_toArray, List.set_cons_zero, List.set_cons_succ]
          refine wpAnyH_take (i := 14) (oi := _) (v := undef) (by simp only [List.getElem?_toArray, List.getElem?_cons_succ, List.getElem?_cons_zero]; rfl) (by kernel_rfl) (by kernel_rfl) (by kernel_rfl) (by intro _ _ _ h; exact h) (Or.inr ⟨by rfl, rfl⟩) (by assumption) ?_
          try simp only [Act.put, List.setIfInBounds_toArray, List.set_cons_zero, List.set_cons_succ]
          refine wpAnyH_take (i := 15) (oi := _) (v := undef) (by simp only [List.getElem?_toArray, List.getElem?_cons_succ, List.getElem?_cons_zero]; rfl) (by kernel_rfl) (by kernel_rfl) (by kernel_rfl) (by intro _ _ _ h; exact h) (Or.inr ⟨by rfl, rfl⟩) (by assumption) ?_
          try simp only [Act.put, List.setIfInBounds_toArray, List.set_cons_zero, List.set_cons_succ]
          refine wpAnyH_take (i := 16) (oi := _) (v := undef) (by simp only [List.getElem?_toArray, List.getElem?_cons_succ, List.getElem?_cons_zero]; rfl) (by kernel_rfl) (by kernel_rfl) (by kernel_rfl) (by intro _ _ _ h; exact h) (Or.inr ⟨by rfl, rfl⟩) (by assumption) ?_
          try simp only [Act.put, List.setIfInBounds_toArray, List.set_cons_zero, List.set_cons_succ]
          refine wpAnyH_take (i := 17) (oi := _) (v := undef) (by simp only [List.getElem?_toArray, List.getElem?_cons_succ, List.getElem?_cons_zero]; rfl) (by kernel_rfl) (by kernel_rfl) (by kernel_rfl) (by intro _ _ _ h; exact h) (Or.inr ⟨by rfl, rfl⟩) (by assumption) ?_
          try simp only [Act.put, List.setIfInBounds_toArray, List.set_cons_zero, List.set_cons_succ]
          refine wpAnyH_take (i := 18) (oi := _) (v := undef) (by simp only [List.getElem?_toArray, List.getElem?_cons_succ, List.getElem?_cons_zero]; rfl) (by kernel_rfl) (by kernel_rfl) (by kernel_rfl) (by intro _ _ _ h; exact h) (Or.inr ⟨by rfl, rfl⟩) (by assumption) ?_
          try simp only [Act.put, List.setIfInBounds_toArray, List.set_cons_zero, List.set_cons_succ]
          refine wpAnyH_take (i := 19) (oi := _) (v := undef) (by simp only [List.getElem?_toArray, List.getElem?_cons_succ, List.getElem?_cons_zero]; rfl) (by kernel_rfl) (by kernel_rfl) (by kernel_rfl) (by intro _ _ _ h; exact h) (Or.inr ⟨by rfl, rfl⟩) (by assumption) ?_
          try simp only [Act.put, List.setIfInBounds_toArray, List.set_cons_zero, List.set_cons_succ]
          refine wpAnyH_take (i := 20) (oi := _) (v := ?vq3_20) (by simp only [List.getElem?_toArray, List.getElem?_cons_succ, List.getElem?_cons_zero]; rfl) (by kernel_rfl) (by kernel_rfl) (by kernel_rfl) (by intro _ _ _ h; exact h) (Or.inl ⟨by rfl, ?hyq3_20⟩) (by assumption) ?restq3_20
          case hyq3_20 => ((intro w hSw; (try dsimp only at hSw); go_simp); try (with_reducible rfl))
          try simp only [Act.put, List.setIfInBounds_toArray, List.set_cons_zero, List.set_cons_succ]
          refine wpAnyH_take (i := 21) (oi := _) (v := ?vq3_21) (by simp only [List.getElem?_toArray, List.getElem?_cons_succ, List.getElem?_cons_zero]; rfl) (by kernel_rfl) (by kernel_rfl) (by kernel_rfl) (by intro _ _ _ h; exact h) (Or.inl ⟨by rfl, ?hyq3_21⟩) (by assumption) ?restq3_21
          case hyq3_21 => ((intro w hSw; (try dsimp only at hSw); go_simp); try (with_reducible rfl))
          try simp only [Act.put, List.setIfInBounds_toArray, List.set_cons_zero, List.set_cons_succ]
          refine wpAnyH_done (by kernel_rfl) ?_ _
          go_wp2_with fail
          go_meet
          case rel => exact ⟨rfl, hb6⟩
        · have h4 : decide (d4 < 0) = false := decide_eq_false h0
          have h40 : 0 ≤ d4 := by omega
          have hwr : IntKind.i64.wrap (1000 * d4) = 1000 * d4 := IntWalk.i64_in _ (by omega)
          by_cases h1 : A ≤ 1000 * d4
          · have h5 : decide (A ≤ 1000 * d4) = true := decide_eq_true h1
            obtain rfl : U = true := by rw [← hu2, h4, h5]; rfl
            clear hu2 h0 h1
            refine wp_region_held_drew (S := (fun w' => w'.cell? ⟨Eb, 0, none⟩ = some (.string u) ∧ w'.cell? ⟨Eb, 1, none⟩ = some (.slice a1 n1 k1) ∧ w'.cell? ⟨Eb, 2, none⟩ = some (.int .i64 st) ∧ w'.cell? ⟨Eb, 3, none⟩ = some (.slice a2 n2 k2) ∧ w'.cell? ⟨Eb, 4, none⟩ = some (.string bo) ∧ w'.cell? ⟨Eb, 5, none⟩ = some (.int .i64 ti) ∧ w'.cell? ⟨Db, 1, none⟩ = some (.bool false) ∧ w'.cell? ⟨Db, 3, none⟩ = some (.int .i64 d4))) (by kernel_rfl) ?_ (fun hHeld => ?_)
            · exact ed_mk E5 D5 (Below.refl _ W5).drew
            refine wpAnyH_take (i := 0) (oi := _) (v := ?vq4_0) (by simp only [List.getElem?_toArray, List.getElem?_cons_succ, List.getElem?_cons_zero]; rfl) (by kernel_rfl) (by kernel_rfl) (by kernel_rfl) (by intro _ _ _ h; exact h) (Or.inl ⟨by rfl, ?hyq4_0⟩) (by assumption) ?restq4_0
            case hyq4_0 => ((intro w hSw; (try dsimp only at hSw); go_simp); try (with_reducible rfl))
            try simp only [Act.put, List.setIfInBounds_toArray, List.set_cons_zero, List.set_cons_succ]
            refine wpAnyH_take (i := 1) (oi := _) (v := ?vq4_1) (by simp only [List.getElem?_toArray, List.getElem?_cons_succ, List.getElem?_cons_zero]; rfl) (by kernel_rfl) (by kernel_rfl) (by kernel_rfl) (by intro _ _ _ h; exact h) (Or.inl ⟨by rfl, ?hyq4_1⟩) (by assumption) ?restq4_1
            case hyq4_1 => ((intro w hSw; (try dsimp only at hSw); go_simp); try (with_reducible rfl))
            try simp only [Act.put, List.setIfInBounds_toArray, List.set_cons_zero, List.set_cons_succ]
            refine wpAnyH_ready (rs := [2]) (by kernel_rfl) (by simp) ?_
            refine AllReadyH.cons rfl (fun K hK => ?_) AllReadyH.nil
            go_simp
            go_wp2_with (go_at_call 22; (with_reducible refine (CFr.out W5.drew ⟨u, .slice a1 n1 k1, st, .slice a2 n2 k2, bo, ti⟩ HMd.out HXd.out).mono ?_); rintro e w6 ⟨rfl, hbb6⟩; have hb6 := (Below.refl _ W5).drew.trans hbb6)
            refine hK.out _ _ ?_ (fun hHeld2 => ?_)
            · exact ed_mk E5 D5 hb6
            clear hK K hHeld
            have hHeld := hHeld2
            clear hHeld2
            refine wpAnyH_take (i := 3) (oi := _) (v := ?vq4_3) (by simp only [List.getElem?_toArray, List.getElem?_cons_succ, List.getElem?_cons_zero]; rfl) (by kernel_rfl) (by kernel_rfl) (by kernel_rfl) (by intro _ _ _ h; exact h) (Or.inl ⟨by rfl, ?hyq4_3⟩) (by assumption) ?restq4_3
            case hyq4_3 => ((intro w hSw; (try dsimp only at hSw); go_simp); try (with_reducible rfl))
            try simp only [Act.put, List.setIfInBounds_toArray, List.set_cons_zero, List.set_cons_succ]
            refine wpAnyH_take (i := 4) (oi := _) (v := ?vq4_4) (by simp only [List.getElem?_toArray, List.getElem?_cons_succ, List.getElem?_cons_zero]; rfl) (by kernel_rfl) (by kernel_rfl) (by kernel_rfl) (by intro _ _ _ h; exact h) (Or.inl ⟨by rfl, ?hyq4_4⟩) (by assumption) ?restq4_4
            case hyq4_4 => ((intro w hSw; (try dsimp only at hSw); go_simp); try (with_reducible rfl))
            try simp only [Act.put, List.setIfInBounds_toArray, List.set_cons_zero, List.set_cons_succ]
            refine wpAnyH_take (i := 5) (oi := _) (v := ?vq4_5) (by simp only [List.getElem?_toArray, List.getElem?_cons_succ, List.getElem?_cons_zero]; rfl) (by kernel_rfl) (by kernel_rfl) (by kernel_rfl) (by intro _ _ _ h; exact h) (Or.inl ⟨by rfl, ?hyq4_5⟩) (by assumption) ?restq4_5
            case hyq4_5 => ((intro w hSw; (try dsimp only at hSw); go_simp); try (with_reducible rfl))
            try simp only [Act.put, List.setIfInBounds_toArray, List.set_cons_zero, List.set_cons_succ]
            refine wpAnyH_take (i := 6) (oi := _) (v := ?vq4_6) (by simp only [List.getElem?_toArray, List.getElem?_cons_succ, List.getElem?_cons_zero]; rfl) (by kernel_rfl) (by kernel_rfl) (by kernel_rfl) (by intro _ _ _ h; exact h) (Or.inl ⟨by rfl, ?hyq4_6⟩) (by assumption) ?restq4_6
            case hyq4_6 => ((intro w hSw; (try dsimp only at hSw); go_simp); try (with_reducible rfl))
            try simp only [Act.put, List.setIfInBounds_toArray, List.set_cons_zero, List.set_cons_succ]
            refine wpAnyH_take (i := 7) (oi := _) (v := ?vq4_7) (by simp only [List.getElem?_toArray, List.getElem?_cons_succ, List.getElem?_cons_zero]; rfl) (by kernel_rfl) (by kernel_rfl) (by kernel_rfl) (by intro _ _ _ h; exact h) (Or.inl ⟨by rfl, ?hyq4_7⟩) (by assumption) ?restq4_7
            case hyq4_7 => ((intro w hSw; (try dsimp only at hSw); go_simp); try (with_reducible rfl))
            try simp only [Act.put, List.setIfInBounds_toArray, List.set_cons_zero, List.set_cons_succ]
            refine wpAnyH_take (i := 8) (oi := _) (v := ?vq4_8) (by simp only [List.getElem?_toArray, List.getElem?_cons_succ, List.getElem?_cons_zero]; rfl) (by kernel_rfl) (by kernel_rfl) (by kernel_rfl) (by intro _ _ _ h; exact h) (Or.inl ⟨by rfl, ?hyq4_8⟩) (by assumption) ?restq4_8
            case hyq4_8 => ((intro w hSw; (try dsimp only at hSw); go_simp); try (with_reducible rfl))
            try simp only [Act.put, List.setIfInBounds_toArray, List.set_cons_zero, List.set_cons_succ]
            refine wpAnyH_take (i := 9) (oi := _) (v := ?vq4_9) (by simp only [List.getElem?_toArray, List.getElem?_cons_succ, List.getElem?_cons_zero]; rfl) (by kernel_rfl) (by kernel_rfl) (by kernel_rfl) (by intro _ _ _ h; exact h) (Or.inl ⟨by rfl, ?hyq4_9⟩) (by assumption) ?restq4_9
            case hyq4_9 => ((intro w hSw; (try dsimp only at hSw); go_simp); try (with_reducible rfl))
            try simp only [Act.put, List.setIfInBounds_toArray, List.set_cons_zero, List.set_cons_succ]
            refine wpAnyH_take (i := 10) (oi := _) (v := ?vq4_10) (by simp only [List.getElem?_toArray, List.getElem?_cons_succ, List.getElem?_cons_zero]; rfl) (by kernel_rfl) (by kernel_rfl) (by kernel_rfl) (by intro _ _ _ h; exact h) (Or.inl ⟨by rfl, ?hyq4_10⟩) (by assumption) ?restq4_10
            case hyq4_10 => ((intro w hSw; (try dsimp only at hSw); go_simp); try (with_reducible rfl))
            try simp only [Act.put, List.setIfInBounds_toArray, List.set_cons_zero, List.set_cons_succ]
            refine wpAnyH_take (i := 11) (oi := _) (v := ?vq4_11) (by simp only [List.getElem?_toArray, List.getElem?_cons_succ, List.getElem?_cons_zero]; rfl) (by kernel_rfl) (by kernel_rfl) (by kernel_rfl) (by intro _ _ _ h; exact h) (Or.inl ⟨by rfl, ?hyq4_11⟩) (by assumption) ?restq4_11
            case hyq4_11 => ((intro w hSw; (try dsimp only at hSw); go_simp); try (with_reducible rfl))
            try simp only [Act.put, List.setIfInBounds_toArray, List.set_cons_zero, List.set_cons_succ]
            refine wpAnyH_take (i := 12) (oi := _) (v := ?vq4_12) (by simp only [List.getElem?_toArray, List.getElem?_cons_succ, List.getElem?_cons_zero]; rfl) (by kernel_rfl) (by kernel_rfl) (by kernel_rfl) (by intro _ _ _ h; exact h) (Or.inl ⟨by rfl, ?hyq4_12⟩) (by assumption) ?restq4_12
            case hyq4_12 => ((intro w hSw; (try dsimp only at hSw); go_simp); try (with_reducible rfl))
            try simp only [Act.put, List.setIfInBounds_toArray, List.set_cons_zero, List.set_cons_succ]
            refine wpAnyH_take (i := 13) (oi := _) (v := ?vq4_13) (by simp only [List.getElem?_toArray, List.getElem?_cons_succ, List.getElem?_cons_zero]; rfl) (by kernel_rfl) (by kernel_rfl) (by kernel_rfl) (by intro _ _ _ h; exact h) (Or.inl ⟨by rfl, ?hyq4_13⟩) (by assumption) ?restq4_13
            case hyq4_13 => ((intro w hSw; (try dsimp only at hSw); go_simp); try (with_reducible rfl))
            try simp only [Act.put, List.setIfInBounds_toArray, List.set_cons_zero, List.set_cons_succ]
            refine wpAnyH_take (i := 14) (oi := _) (v := ?vq4_14) (by simp only [List.getElem?_toArray, List.getElem?_cons_succ, List.getElem?_cons_zero]; rfl) (by kernel_rfl) (by kernel_rfl) (by kernel_rfl) (by intro _ _ _ h; exact h) (Or.inl ⟨by rfl, ?hyq4_14⟩) (by assumption) ?restq4_14
            case hyq4_14 => ((intro w hSw; (try dsimp only at hSw); go_simp); try (with_reducible rfl))
            try simp only [Act.put, List.setIfInBounds_toArray, List.set_cons_zero, List.set_cons_succ]
            refine wpAnyH_take (i := 16) (oi := _) (v := ?vq4_16) (by simp only [List.getElem?_toArray, List.getElem?_cons_succ, List.getElem?_cons_zero]; rfl) (by kernel_rfl) (by kernel_rfl) (by kernel_rfl) (by intro _ _ _ h; exact h) (Or.inl ⟨by rfl, ?hyq4_16⟩) (by assumption) ?restq4_16
            case hyq4_16 => ((intro w hSw; (try dsimp only at hSw); go_simp); try (with_reducible rfl))
            try simp only [Act.put, List.setIfInBounds_toArray, List.set_cons_zero, List.set_cons_succ]
            refine wpAnyH_take (i := 17) (oi := _) (v := ?vq4_17) (by simp only [List.getElem?_toArray, List.getElem?_cons_succ, List.getElem?_cons_zero]; rfl) (by kernel_rfl) (by kernel_rfl) (by kernel_rfl) (by intro _ _ _ h; exact h) (Or.inl ⟨by rfl, ?hyq4_17⟩) (by assumption) ?restq4_17
            case hyq4_17 => ((intro w hSw; (try dsimp only at hSw); go_simp); try (with_reducible rfl))
            try simp only [Act.put, List.setIfInBounds_toArray, List.set_cons_zero, List.set_cons_succ]
            refine wpAnyH_take (i := 18) (oi := _) (v := ?vq4_18) (by simp only [List.getElem?_toArray, List.getElem?_cons_succ, List.getElem?_cons_zero]; rfl) (by kernel_rfl) (by kernel_rfl) (by kernel_rfl) (by intro _ _ _ h; exact h) (Or.inl ⟨by rfl, ?hyq4_18⟩) (by assumption) ?restq4_18
            case hyq4_18 => ((intro w hSw; (try dsimp only at hSw); go_simp); try (with_reducible rfl))
            try simp only [Act.put, List.setIfInBounds_toArray, List.set_cons_zero, List.set_cons_succ]
            refine wpAnyH_ready (rs := [15]) (by kernel_rfl) (by simp) ?_
            refine AllReadyH.cons rfl (fun K hK => ?_) AllReadyH.nil
            go_simp
            go_wp2_with (go_at_call 54; (with_reducible refine (CAg.out _ ⟨u, .slice a1 n1 k1, st, .slice a2 n2 k2, bo, ti⟩ HTI.out).mono ?_); rintro e w7 ⟨rfl, hbb7⟩; have hb7 := hb6.trans (hbb7.mono hb6.size))
            refine hK.out _ _ ?_ (fun hHeld2 => ?_)
            · exact ed_mk E5 D5 hb7
            clear hK K hHeld
            have hHeld := hHeld2
            clear hHeld2
            refine wpAnyH_take (i := 19) (oi := _) (v := ?vq4_19) (by simp only [List.getElem?_toArray, List.getElem?_cons_succ, List.getElem?_cons_zero]; rfl) (by kernel_rfl) (by kernel_rfl) (by kernel_rfl) (by intro _ _ _ h; exact h) (Or.inl ⟨by rfl, ?hyq4_19⟩) (by assumption) ?restq4_19
            case hyq4_19 => ((intro w hSw; (try dsimp only at hSw); go_simp); try (with_reducible rfl))
            try simp only [Act.put, List.setIfInBounds_toArray, List.set_cons_zero, List.set_cons_succ]
            refine wpAnyH_take (i := 20) (oi := _) (v := ?vq4_20) (by simp only [List.getElem?_toArray, List.getElem?_cons_succ, List.getElem?_cons_zero]; rfl) (by kernel_rfl) (by kernel_rfl) (by kernel_rfl) (by intro _ _ _ h; exact h) (Or.inl ⟨by rfl, ?hyq4_20⟩) (by assumption) ?restq4_20
            case hyq4_20 => ((intro w hSw; (try dsimp only at hSw); go_simp); try (with_reducible rfl))
            try simp only [Act.put, List.setIfInBounds_toArray, List.set_cons_zero, List.set_cons_succ]
            refine wpAnyH_take (i := 21) (oi := _) (v := ?vq4_21) (by simp only [List.getElem?_toArray, List.getElem?_cons_succ, List.getElem?_cons_zero]; rfl) (by kernel_rfl) (by kernel_rfl) (by kernel_rfl) (by intro _ _ _ h; exact h) (Or.inl ⟨by rfl, ?hyq4_21⟩) (by assumption) ?restq4_21
            case hyq4_21 => ((intro w hSw; (try dsimp only at hSw); go_simp); try (with_reducible rfl))
            try simp only [Act.put, List.setIfInBounds_toArray, List.set_cons_zero, List.set_cons_succ]
            refine wpAnyH_done (by kernel_rfl) ?_ _
            go_wp2_with fail
            go_meet
            case rel => exact ⟨rfl, hb7⟩
          · have h5 : decide (A ≤ 1000 * d4) = false := decide_eq_false h1
            obtain rfl : U = false := by rw [← hu2, h4, h5]; rfl
            clear hu2 h0 h1
            refine wp_region_held_drew (S := (fun w' => w'.cell? ⟨Eb, 0, none⟩ = some (.string u) ∧ w'.cell? ⟨Eb, 1, none⟩ = some (.slice a1 n1 k1) ∧ w'.cell? ⟨Eb, 2, none⟩ = some (.int .i64 st) ∧ w'.cell? ⟨Eb, 3, none⟩ = some (.slice a2 n2 k2) ∧ w'.cell? ⟨Eb, 4, none⟩ = some (.string bo) ∧ w'.cell? ⟨Eb, 5, none⟩ = some (.int .i64 ti) ∧ w'.cell? ⟨Db, 1, none⟩ = some (.bool false) ∧ w'.cell? ⟨Db, 3, none⟩ = some (.int .i64 d4))) (by kernel_rfl) ?_ (fun hHeld => ?_)
            · exact ed_mk E5 D5 (Below.refl _ W5).drew
            refine wpAnyH_take (i := 0) (oi := _) (v := ?vq5_0) (by simp only [List.getElem?_toArray, List.getElem?_cons_succ, List.getElem?_cons_zero]; rfl) (by kernel_rfl) (by kernel_rfl) (by kernel_rfl) (by intro _ _ _ h; exact h) (Or.inl ⟨by rfl, ?hyq5_0⟩) (by assumption) ?restq5_0
            case hyq5_0 => ((intro w hSw; (try dsimp only at hSw); go_simp); try (with_reducible rfl))
            try simp only [Act.put, List.setIfInBounds_toArray, List.set_cons_zero, List.set_cons_succ]
            refine wpAnyH_take (i := 1) (oi := _) (v := ?vq5_1) (by simp only [List.getElem?_toArray, List.getElem?_cons_succ, List.getElem?_cons_zero]; rfl) (by kernel_rfl) (by kernel_rfl) (by kernel_rfl) (by intro _ _ _ h; exact h) (Or.inl ⟨by rfl, ?hyq5_1⟩) (by assumption) ?restq5_1
            case hyq5_1 => ((intro w hSw; (try dsimp only at hSw); go_simp); try (with_reducible rfl))
            try simp only [Act.put, List.setIfInBounds_toArray, List.set_cons_zero, List.set_cons_succ]
            refine wpAnyH_ready (rs := [2]) (by kernel_rfl) (by simp) ?_
            refine AllReadyH.cons rfl (fun K hK => ?_) AllReadyH.nil
            go_simp
            go_wp2_with (go_at_call 22; (with_reducible refine (CFr.out W5.drew ⟨u, .slice a1 n1 k1, st, .slice a2 n2 k2, bo, ti⟩ HMd.out HXd.out).mono ?_); rintro e w6 ⟨rfl, hbb6⟩; have hb6 := (Below.refl _ W5).drew.trans hbb6)
            refine hK.out _ _ ?_ (fun hHeld2 => ?_)
            · exact ed_mk E5 D5 hb6
            clear hK K hHeld
            have hHeld := hHeld2
            clear hHeld2
            refine wpAnyH_take (i := 3) (oi := _) (v := ?vq5_3) (by simp only [List.getElem?_toArray, List.getElem?_cons_succ, List.getElem?_cons_zero]; rfl) (by kernel_rfl) (by kernel_rfl) (by kernel_rfl) (by intro _ _ _ h; exact h) (Or.inl ⟨by rfl, ?hyq5_3⟩) (by assumption) ?restq5_3
            case hyq5_3 => ((intro w hSw; (try dsimp only at hSw); go_simp); try (with_reducible rfl))
            try simp only [Act.put, List.setIfInBounds_toArray, List.set_cons_zero, List.set_cons_succ]
            refine wpAnyH_take (i := 4) (oi := _) (v := ?vq5_4) (by simp only [List.getElem?_toArray, List.getElem?_cons_succ, List.getElem?_cons_zero]; rfl) (by kernel_rfl) (by kernel_rfl) (by kernel_rfl) (by intro _ _ _ h; exact h) (Or.inl ⟨by rfl, ?hyq5_4⟩) (by assumption) ?restq5_4
            case hyq5_4 => ((intro w hSw; (try dsimp only at hSw); go_simp); try (with_reducible rfl))
            try simp only [Act.put, List.setIfInBounds_toArray, List.set_cons_zero, List.set_cons_succ]
            refine wpAnyH_take (i := 5) (oi := _) (v := ?vq5_5) (by simp only [List.getElem?_toArray, List.getElem?_cons_succ, List.getElem?_cons_zero]; rfl) (by kernel_rfl) (by kernel_rfl) (by kernel_rfl) (by intro _ _ _ h; exact h) (Or.inl ⟨by rfl, ?hyq5_5⟩) (by assumption) ?restq5_5
            case hyq5_5 => ((intro w hSw; (try dsimp only at hSw); go_simp); try (with_reducible rfl))
            try simp only [Act.put, List.setIfInBounds_toArray, List.set_cons_zero, List.set_cons_succ]
            refine wpAnyH_take (i := 6) (oi := _) (v := ?vq5_6) (by simp only [List.getElem?_toArray, List.getElem?_cons_succ, List.getElem?_cons_zero]; rfl) (by kernel_rfl) (by kernel_rfl) (by kernel_rfl) (by intro _ _ _ h; exact h) (Or.inl ⟨by rfl, ?hyq5_6⟩) (by assumption) ?restq5_6
            case hyq5_6 => ((intro w hSw; (try dsimp only at hSw); go_simp); try (with_reducible rfl))
            try simp only [Act.put, List.setIfInBounds_toArray, List.set_cons_zero, List.set_cons_succ]
            refine wpAnyH_take (i := 7) (oi := _) (v := ?vq5_7) (by simp only [List.getElem?_toArray, List.getElem?_cons_succ, List.getElem?_cons_zero]; rfl) (by kernel_rfl) (by kernel_rfl) (by kernel_rfl) (by intro _ _ _ h; exact h) (Or.inl ⟨by rfl, ?hyq5_7⟩) (by assumption) ?restq5_7
            case hyq5_7 => ((intro w hSw; (try dsimp only at hSw); go_simp); try (with_reducible rfl))
            try simp only [Act.put, List.setIfInBounds_toArray, List.set_cons_zero, List.set_cons_succ]
            refine wpAnyH_take (i := 8) (oi := _) (v := ?vq5_8) (by simp only [List.getElem?_toArray, List.getElem?_cons_succ, List.getElem?_cons_zero]; rfl) (by kernel_rfl) (by kernel_rfl) (by kernel_rfl) (by intro _ _ _ h; exact h) (Or.inl ⟨by rfl, ?hyq5_8⟩) (by assumption) ?restq5_8
            case hyq5_8 => ((intro w hSw; (try dsimp only at hSw); go_simp); try (with_reducible rfl))
            try simp only [Act.put, List.setIfInBounds_toArray, List.set_cons_zero, List.set_cons_succ]
            refine wpAnyH_take (i := 9) (oi := _) (v := ?vq5_9) (by simp only [List.getElem?_toArray, List.getElem?_cons_succ, List.getElem?_cons_zero]; rfl) (by kernel_rfl) (by kernel_rfl) (by kernel_rfl) (by intro _ _ _ h; exact h) (Or.inl ⟨by rfl, ?hyq5_9⟩) (by assumption) ?restq5_9
            case hyq5_9 => ((intro w hSw; (try dsimp only at hSw); go_simp); try (with_reducible rfl))
            try simp only [Act.put, List.setIfInBounds_toArray, List.set_cons_zero, List.set_cons_succ]
            refine wpAnyH_take (i := 10) (oi := _) (v := ?vq5_10) (by simp only [List.getElem?_toArray, List.getElem?_cons_succ, List.getElem?_cons_zero]; rfl) (by kernel_rfl) (by kernel_rfl) (by kernel_rfl) (by intro _ _ _ h; exact h) (Or.inl ⟨by rfl, ?hyq5_10⟩) (by assumption) ?restq5_10
            case hyq5_10 => ((intro w hSw; (try dsimp only at hSw); go_simp); try (with_reducible rfl))
            try simp only [Act.put, List.setIfInBounds_toArray, List.set_cons_zero, List.set_cons_succ]
            refine wpAnyH_take (i := 11) (oi := _) (v := ?vq5_11) (by simp only [List.getElem?_toArray, List.getElem?_cons_succ, List.getElem?_cons_zero]; rfl) (by kernel_rfl) (by kernel_rfl) (by kernel_rfl) (by intro _ _ _ h; exact h) (Or.inl ⟨by rfl, ?hyq5_11⟩) (by assumption) ?restq5_11
            case hyq5_11 => ((intro w hSw; (try dsimp only at hSw); go_simp); try (with_reducible rfl))
            try simp only [Act.put, List.setIfInBounds_toArray, List.set_cons_zero, List.set_cons_succ]
            refine wpAnyH_take (i := 12) (oi := _) (v := ?vq5_12) (by simp only [List.getElem?_toArray, List.getElem?_cons_succ, List.getElem?_cons_zero]; rfl) (by kernel_rfl) (by kernel_rfl) (by kernel_rfl) (by intro _ _ _ h; exact h) (Or.inl ⟨by rfl, ?hyq5_12⟩) (by assumption) ?restq5_12
            case hyq5_12 => ((intro w hSw; (try dsimp only at hSw); go_simp); try (with_reducible rfl))
            try simp only [Act.put, List.setIfInBounds_toArray, List.set_cons_zero, List.set_cons_succ]
            refine wpAnyH_take (i := 13) (oi := _) (v := ?vq5_13) (by simp only [List.getElem?_toArray, List.getElem?_cons_succ, List.getElem?_cons_zero]; rfl) (by kernel_rfl) (by kernel_rfl) (by kernel_rfl) (by intro _ _ _ h; exact h) (Or.inl ⟨by rfl, ?hyq5_13⟩) (by assumption) ?restq5_13
            case hyq5_13 => ((intro w hSw; (try dsimp only at hSw); go_simp); try (with_reducible rfl))
            try simp only [Act.put, List.setIfInBounds_toArray, List.set_cons_zero, List.set_cons_succ]
            refine wpAnyH_take (i := 14) (oi := _) (v := ?vq5_14) (by simp only [List.getElem?_toArray, List.getElem?_cons_succ, List.getElem?_cons_zero]; rfl) (by kernel_rfl) (by kernel_rfl) (by kernel_rfl) (by intro _ _ _ h; exact h) (Or.inl ⟨by rfl, ?hyq5_14⟩) (by assumption) ?restq5_14
            case hyq5_14 => ((intro w hSw; (try dsimp only at hSw); go_simp); try (with_reducible rfl))
            try simp only [Act.put, List.setIfInBounds_toArray, List.set_cons_zero, List.set_cons_succ]
            refine wpAnyH_take (i := 16) (oi := _) (v := ?vq5_16) (by simp only [List.getElem?_toArray, List.getElem?_cons_succ, List.getElem?_cons_zero]; rfl) (by kernel_rfl) (by kernel_rfl) (by kernel_rfl) (by intro _ _ _ h; exact h) (Or.inl ⟨by rfl, ?hyq5_16⟩) (by assumption) ?restq5_16
            case hyq5_16 => ((intro w hSw; (try dsimp only at hSw); go_simp); try (with_reducible rfl))
            try simp only [Act.put, List.setIfInBounds_toArray, List.set_cons_zero, List.set_cons_succ]
            refine wpAnyH_take (i := 17) (oi := _) (v := ?vq5_17) (by simp only [List.getElem?_toArray, List.getElem?_cons_succ, List.getElem?_cons_zero]; rfl) (by kernel_rfl) (by kernel_rfl) (by kernel_rfl) (by intro _ _ _ h; exact h) (Or.inl ⟨by rfl, ?hyq5_17⟩) (by assumption) ?restq5_17
            case hyq5_17 => ((intro w hSw; (try dsimp only at hSw); go_simp); try (with_reducible rfl))
            try simp only [Act.put, List.setIfInBounds_toArray, List.set_cons_zero, List.set_cons_succ]
            refine wpAnyH_take (i := 18) (oi := _) (v := ?vq5_18) (by simp only [List.getElem?_toArray, List.getElem?_cons_succ, List.getElem?_cons_zero]; rfl) (by kernel_rfl) (by kernel_rfl) (by kernel_rfl) (by intro _ _ _ h; exact h) (Or.inl ⟨by rfl, ?hyq5_18⟩) (by assumption) ?restq5_18
            case hyq5_18 => ((intro w hSw; (try dsimp only at hSw); go_simp); try (with_reducible rfl))
            try simp only [Act.put, List.setIfInBounds_toArray, List.set_cons_zero, List.set_cons_succ]
            refine wpAnyH_ready (rs := [15]) (by kernel_rfl) (by simp) ?_
            refine AllReadyH.cons rfl (fun K hK => ?_) AllReadyH.nil
            go_simp
            go_wp2_with (go_at_call 54; (with_reducible refine (CAg.out _ ⟨u, .slice a1 n1 k1, st, .slice a2 n2 k2, bo, ti⟩ HTI.out).mono ?_); rintro e w7 ⟨rfl, hbb7⟩; have hb7 := hb6.trans (hbb7.mono hb6.size))
            refine hK.out _ _ ?_ (fun hHeld2 => ?_)
            · exact ed_mk E5 D5 hb7
            clear hK K hHeld
            have hHeld := hHeld2
            clear hHeld2
            refine wpAnyH_take (i := 19) (oi := _) (v := ?vq5_19) (by simp only [List.getElem?_toArray, List.getElem?_cons_succ, List.getElem?_cons_zero]; rfl) (by kernel_rfl) (by kernel_rfl) (by kernel_rfl) (by intro _ _ _ h; exact h) (Or.inl ⟨by rfl, ?hyq5_19⟩) (by assumption) ?restq5_19
            case hyq5_19 => ((intro w hSw; (try dsimp only at hSw); go_simp); try (with_reducible rfl))
            try simp only [Act.put, List.setIfInBounds_toArray, List.set_cons_zero, List.set_cons_succ]
            refine wpAnyH_take (i := 20) (oi := _) (v := ?vq5_20) (by simp only [List.getElem?_toArray, List.getElem?_cons_succ, List.getElem?_cons_zero]; rfl) (by kernel_rfl) (by kernel_rfl) (by kernel_rfl) (by intro _ _ _ h; exact h) (Or.inl ⟨by rfl, ?hyq5_20⟩) (by assumption) ?restq5_20
            case hyq5_20 => ((intro w hSw; (try dsimp only at hSw); go_simp); try (with_reducible rfl))
            try simp only [Act.put, List.setIfInBounds_toArray, List.set_cons_zero, List.set_cons_succ]
            refine wpAnyH_take (i := 21) (oi := _) (v := ?vq5_21) (by simp only [List.getElem?_toArray, List.getElem?_cons_succ, List.getElem?_cons_zero]; rfl) (by kernel_rfl) (by kernel_rfl) (by kernel_rfl) (by intro _ _ _ h; exact h) (Or.inl ⟨by rfl, ?hyq5_21⟩) (by assumption) ?restq5_21
            case hyq5_21 => ((intro w hSw; (try dsimp only at hSw); go_simp); try (with_reducible rfl))
            try simp only [Act.put, List.setIfInBounds_toArray, List.set_cons_zero, List.set_cons_succ]
            refine wpAnyH_done (by kernel_rfl) ?_ _
            go_wp2_with fail
            go_meet
            case rel => exact ⟨rfl, hb7⟩
  case rest =>
    obtain ⟨rfl, hb6⟩ := hcut
    obtain rfl := HUT.out
    have E6 := E5.next hb6
    have R6 := R5.next hb6
    have P7 := AtL.new wc [.int .i64 3, .string u, .slice a1 n1 k1, .int .i64 st, .slice a2 n2 k2, .string bo, .int .i64 ti, .slice none 0 0] 45
    have E7 := E6.alloc (.cells [.int .i64 3, .string u, .slice a1 n1 k1, .int .i64 st, .slice a2 n2 k2, .string bo, .int .i64 ti, .slice none 0 0].toArray 45)
    have R7 := R6.alloc (.cells [.int .i64 3, .string u, .slice a1 n1 k1, .int .i64 st, .slice a2 n2 k2, .string bo, .int .i64 ti, .slice none 0 0].toArray 45)
    have H6 := H5.out.trans (hb6.mono hz5)
    have H7 := H6.alloc H6.size (.cells [.int .i64 3, .string u, .slice a1 n1 k1, .int .i64 st, .slice a2 n2 k2, .string bo, .int .i64 ti, .slice none 0 0].toArray 45)
    clear z0 z1 z2 z3 z4 z5 y0 y1 y2 y3 el5 dl5 rl5
    have z0 := E6.c 0 rfl; have z1 := E6.c 1 rfl; have z2 := E6.c 2 rfl; have z3 := E6.c 3 rfl; have z4 := E6.c 4 rfl; have z5 := E6.c 5 rfl
    have el6 := E6.lt
    have hRE6 := R6.lt
    go_upto_region 9 with fail
    obtain ⟨W7, hW7⟩ : ∃ W7 : World, wc.alloc (.cells [.int .i64 3, .string u, .slice a1 n1 k1, .int .i64 st, .slice a2 n2 k2, .string bo, .int .i64 ti, .slice none 0 0].toArray 45) = W7 := ⟨_, rfl⟩
    obtain ⟨P, hP⟩ : ∃ P, wc.heap.size = P := ⟨_, rfl⟩
    rw [hW7] at P7 E7 R7 H7
    rw [hP] at P7 el6 hRE6
    rw [hW7, hP]
    have hEP : Eb < P := el6
    have hRP : Rb < P := hRE6
    have hPW := P7.lt
    have H7h := Lib.hid H7
    have HHD : Hid (SlK hdC 2 W7 (.slice a2 n2 k2) xe.hd) := Lib.hid (HRX.out.hd.below H7 (Nat.le_refl _))
    have HFR : Hid (FarV xe.hd (.slice a2 n2 k2) P none) := Lib.hid (far_old0 HRX.out.hd (by have := HRb.out; omega))
    have hzh : HdSz xe.hd := HZX.out.2
    clear hW7 hP H7 H6 E6 R6 z0 z1 z2 z3 z4 z5
    obtain ⟨L0, hL0⟩ : ∃ L0 : List Hd, L0 = [] := ⟨_, rfl⟩
    have PL : PlAt W7 P u (.slice a1 n1 k1) st (.slice a2 n2 k2) bo ti L0 W7 := by rw [hL0]; exact ⟨none, 0, P7, World.ownsRow_nil _ _ _ _, BelowBut.refl _ _ _⟩
    have hL0l : L0.length ≤ 1 := by rw [hL0]; simp
    have HLL := Lib.hid hL0
    clear hL0
    obtain ⟨pa, pc, AP, own, hbb⟩ := PL
    have hX := slk_row HHD.out (RowBut.of_but hbb) (Nat.le_refl _) HFR.out
    have EX := E7.but hbb (Nat.lt_trans hEP hPW) (Nat.ne_of_lt hEP)
    have z0 := AP.c 0 rfl; have z1 := AP.c 1 rfl; have z2 := AP.c 2 rfl; have z3 := AP.c 3 rfl; have z4 := AP.c 4 rfl; have z5 := AP.c 5 rfl; have z6 := AP.c 6 rfl; have z7 := AP.c 7 rfl
    have y0 := EX.c 0 rfl; have y1 := EX.c 1 rfl; have y2 := EX.c 2 rfl; have y3 := EX.c 3 rfl; have y4 := EX.c 4 rfl; have y5 := EX.c 5 rfl
    have zl := AP.lt
    have yl := EX.lt
    have hzb := hbb.size
    obtain ⟨B, hB⟩ : ∃ B, (hdrL xe.hd etS.data.toList).isSome = B := ⟨_, rfl⟩
    have CHas := Lib.hid (fun (w' : World) hv => rhas_is xe.hd (.slice a2 n2 k2) etS w' hv hzh (by decide) B hB)
    have HBB := Lib.hid hB
    clear hB
    go_upto_if 63 with (go_at_call 52; (with_reducible refine (CHas.out _ hX).mono ?_); rintro e w8 ⟨rfl, hb8⟩; have P8 := AP.next hb8; have E8 := EX.next hb8; have own8 := own_below own hb8 (Nat.le_refl _); have hbb8 := hbb.below hb8 hzb; have h8 := hX.below hb8 (Nat.le_refl _); clear z0 z1 z2 z3 z4 z5 z6 z7 y0 y1 y2 y3 y4 y5; have z0 := P8.c 0 rfl; have z1 := P8.c 1 rfl; have z2 := P8.c 2 rfl; have z3 := P8.c 3 rfl; have z4 := P8.c 4 rfl; have z5 := P8.c 5 rfl; have z6 := P8.c 6 rfl; have z7 := P8.c 7 rfl; have y0 := E8.c 0 rfl; have y1 := E8.c 1 rfl; have y2 := E8.c 2 rfl; have y3 := E8.c 3 rfl; have y4 := E8.c 4 rfl; have y5 := E8.c 5 rfl; have zl8 := P8.lt; have yl8 := E8.lt)
    have hz8 := hbb8.size
    go_cut [] from 64 to 72 (fun wx => PlAt W7 P u (.slice a1 n1 k1) st (.slice a2 n2 k2) bo ti (etL xe.hd) wx)
    case first =>
      cases hk : hdrL xe.hd etS.data.toList with
      | none =>
        have HOUT : Hid (etL xe.hd = L0) := Lib.hid (by rw [HLL.out]; unfold etL; rw [hk]; rfl)
        obtain rfl : B = false := by have := HBB.out; rw [hk] at this; exact this.symm
        clear hk
        go_wp2_with fail
        go_meet
        case rel =>
          rw [HOUT.out]
          exact ⟨pa, pc, P8, own8, hbb8⟩
      | some V =>
        have HOUT : Hid (etL xe.hd = L0 ++ [(inmS, V)]) := Lib.hid (by rw [HLL.out]; unfold etL; rw [hk]; rfl)
        have CVal := Lib.hid (fun (w' : World) hv => rvalue_is xe.hd (.slice a2 n2 k2) etS w' hv hzh (by decide) V (by rw [hk]; rfl))
        obtain rfl : B = true := by have := HBB.out; rw [hk] at this; exact this.symm
        clear hk
        go_wp2_with fail
        go_region_law (first
          | (go_simp; go_at_call 48; (with_reducible refine (CVal.out w8.drew (h8.below (Below.refl _ w8).drew (Nat.le_refl _))).mono ?_); rintro e w9 ⟨rfl, hb9⟩; have P9 := P8.drew.next hb9; have E9 := E8.drew.next hb9; have own9 := own_below own8.drew hb9 (Nat.le_refl _); have hbb9 := hbb8.below ((Below.refl _ w8).drew.trans hb9) hz8; have hz9 := hbb9.size; clear z0 z1 z2 z3 z4 z5 z6 z7 y0 y1 y2 y3 y4 y5; have z0 := P9.c 0 rfl; have z1 := P9.c 1 rfl; have z2 := P9.c 2 rfl; have z3 := P9.c 3 rfl; have z4 := P9.c 4 rfl; have z5 := P9.c 5 rfl; have z6 := P9.c 6 rfl; have z7 := P9.c 7 rfl; have y0 := E9.c 0 rfl; have y1 := E9.c 1 rfl; have y2 := E9.c 2 rfl; have y3 := E9.c 3 rfl; have y4 := E9.c 4 rfl; have y5 := E9.c 5 rfl; have zl9 := P9.lt; have yl9 := E9.lt)
          | (have q1 := AtL.new w9 [.string inmS, .string V] 68; have q2 := own9.alloc (.cells [.string inmS, .string V].toArray 68); refine step_appG slH (w9.alloc (.cells [.string inmS, .string V].toArray 68)) ?_ (.tmp 65) (.tmp 70) ?_ W7.heap.size _ L0.length (cellsK hdC L0) ?_ q2 [.string inmS, .string V] 1 w9.heap.size ?_ q1 rfl ?_ (by decide) ?_ ?_ ?_ ?_; exact rfl; exact rfl; exact rfl; exact rfl; (intro u hu; simp at hu; rcases hu with rfl | rfl <;> rfl); omega; omega; (simp; omega); intro g5 cap5 w10 hown10 hgrow hat hlt10; have P10 := (P9.alloc (.cells [.string inmS, .string V].toArray 68)).grown hgrow (fun e => by have h1 : W7.heap.size ≤ P := own_base own9 e; omega); have hbb10 := (hbb9.alloc hz9 (.cells [.string inmS, .string V].toArray 68)).grown (own9.alloc _) hgrow (by simp; omega); have zz7 := P10.c 7 rfl; have ff7 := P10.f 7 rfl; have zl10 := P10.lt))
        all_goals
          go_wp2_with fail
          go_meet
          case rel =>
            rw [HOUT.out]
            have hlen : (L0 ++ [(inmS, V)]).length = L0.length + 1 := by simp
            unfold PlAt
            rw [hlen]
            exact ⟨_, cap5, P10.set 7 _, own_eq (ownsRow_setCell_other (a := ⟨P, 7, none⟩) hown10 (fun e => by have h1 : W7.heap.size ≤ P := own_base hown10 e; omega) _) rfl (by rw [cellsK_app]; rfl), hbb10.setCell ⟨P, 7, none⟩ (Or.inl rfl) _⟩
    case rest =>
      clear own8 P8 E8 AP EX hbb8 hbb own h8 hX z0 z1 z2 z3 z4 z5 z6 z7 y0 y1 y2 y3 y4 y5 zl yl zl8 yl8 hb8 hzb hz8 HBB hL0l
      have hL0l := etL_len xe.hd
      obtain ⟨L0, hL0⟩ : ∃ L0 : List Hd, etL xe.hd = L0 := ⟨_, rfl⟩
      have PL := hcut
      have HCK : Hid (chkL xe.hd = L0 ++ lmL xe.hd) := Lib.hid (by rw [chk_split, hL0])
      rw [hL0] at PL hL0l
      clear hcut hL0 HLL
      obtain ⟨pa, pc, AP, own, hbb⟩ := PL
      have hX := slk_row HHD.out (RowBut.of_but hbb) (Nat.le_refl _) HFR.out
      have EX := E7.but hbb (Nat.lt_trans hEP hPW) (Nat.ne_of_lt hEP)
      have z0 := AP.c 0 rfl; have z1 := AP.c 1 rfl; have z2 := AP.c 2 rfl; have z3 := AP.c 3 rfl; have z4 := AP.c 4 rfl; have z5 := AP.c 5 rfl; have z6 := AP.c 6 rfl; have z7 := AP.c 7 rfl
      have y0 := EX.c 0 rfl; have y1 := EX.c 1 rfl; have y2 := EX.c 2 rfl; have y3 := EX.c 3 rfl; have y4 := EX.c 4 rfl; have y5 := EX.c 5 rfl
      have zl := AP.lt
      have yl := EX.lt
      have hzb := hbb.size
      obtain ⟨B, hB⟩ : ∃ B, (hdrL xe.hd lmS.data.toList).isSome = B := ⟨_, rfl⟩
      have CHas := Lib.hid (fun (w' : World) hv => rhas_is xe.hd (.slice a2 n2 k2) lmS w' hv hzh (by decide) B hB)
      have HBB := Lib.hid hB
      clear hB
      go_upto_if 75 with (go_at_call 52; (with_reducible refine (CHas.out _ hX).mono ?_); rintro e w8 ⟨rfl, hb8⟩; have P8 := AP.next hb8; have E8 := EX.next hb8; have own8 := own_below own hb8 (Nat.le_refl _); have hbb8 := hbb.below hb8 hzb; have h8 := hX.below hb8 (Nat.le_refl _); clear z0 z1 z2 z3 z4 z5 z6 z7 y0 y1 y2 y3 y4 y5; have z0 := P8.c 0 rfl; have z1 := P8.c 1 rfl; have z2 := P8.c 2 rfl; have z3 := P8.c 3 rfl; have z4 := P8.c 4 rfl; have z5 := P8.c 5 rfl; have z6 := P8.c 6 rfl; have z7 := P8.c 7 rfl; have y0 := E8.c 0 rfl; have y1 := E8.c 1 rfl; have y2 := E8.c 2 rfl; have y3 := E8.c 3 rfl; have y4 := E8.c 4 rfl; have y5 := E8.c 5 rfl; have zl8 := P8.lt; have yl8 := E8.lt)
      have hz8 := hbb8.size
      go_cut [] from 76 to 84 (fun wx => PlAt W7 P u (.slice a1 n1 k1) st (.slice a2 n2 k2) bo ti (L0 ++ lmL xe.hd) wx)
      case first =>
        cases hk : hdrL xe.hd lmS.data.toList with
        | none =>
          have HOUT : Hid (L0 ++ lmL xe.hd = L0) := Lib.hid (by unfold lmL; rw [hk]; simp)
          obtain rfl : B = false := by have := HBB.out; rw [hk] at this; exact this.symm
          clear hk
          go_wp2_with fail
          go_meet
          case rel =>
            rw [HOUT.out]
            exact ⟨pa, pc, P8, own8, hbb8⟩
        | some V =>
          have HOUT : Hid (L0 ++ lmL xe.hd = L0 ++ [(imsS, V)]) := Lib.hid (by unfold lmL; rw [hk]; simp)
          have CVal := Lib.hid (fun (w' : World) hv => rvalue_is xe.hd (.slice a2 n2 k2) lmS w' hv hzh (by decide) V (by rw [hk]; rfl))
          obtain rfl : B = true := by have := HBB.out; rw [hk] at this; exact this.symm
          clear hk
          go_wp2_with fail
          go_region_law (first
            | (go_simp; go_at_call 48; (with_reducible refine (CVal.out w8.drew (h8.below (Below.refl _ w8).drew (Nat.le_refl _))).mono ?_); rintro e w9 ⟨rfl, hb9⟩; have P9 := P8.drew.next hb9; have E9 := E8.drew.next hb9; have own9 := own_below own8.drew hb9 (Nat.le_refl _); have hbb9 := hbb8.below ((Below.refl _ w8).drew.trans hb9) hz8; have hz9 := hbb9.size; clear z0 z1 z2 z3 z4 z5 z6 z7 y0 y1 y2 y3 y4 y5; have z0 := P9.c 0 rfl; have z1 := P9.c 1 rfl; have z2 := P9.c 2 rfl; have z3 := P9.c 3 rfl; have z4 := P9.c 4 rfl; have z5 := P9.c 5 rfl; have z6 := P9.c 6 rfl; have z7 := P9.c 7 rfl; have y0 := E9.c 0 rfl; have y1 := E9.c 1 rfl; have y2 := E9.c 2 rfl; have y3 := E9.c 3 rfl; have y4 := E9.c 4 rfl; have y5 := E9.c 5 rfl; have zl9 := P9.lt; have yl9 := E9.lt)
            | (have q1 := AtL.new w9 [.string imsS, .string V] 68; have q2 := own9.alloc (.cells [.string imsS, .string V].toArray 68); refine step_appG slH (w9.alloc (.cells [.string imsS, .string V].toArray 68)) ?_ (.tmp 77) (.tmp 82) ?_ W7.heap.size _ L0.length (cellsK hdC L0) ?_ q2 [.string imsS, .string V] 1 w9.heap.size ?_ q1 rfl ?_ (by decide) ?_ ?_ ?_ ?_; exact rfl; exact rfl; exact rfl; exact rfl; (intro u hu; simp at hu; rcases hu with rfl | rfl <;> rfl); omega; omega; (simp; omega); intro g5 cap5 w10 hown10 hgrow hat hlt10; have P10 := (P9.alloc (.cells [.string imsS, .string V].toArray 68)).grown hgrow (fun e => by have h1 : W7.heap.size ≤ P := own_base own9 e; omega); have hbb10 := (hbb9.alloc hz9 (.cells [.string imsS, .string V].toArray 68)).grown (own9.alloc _) hgrow (by simp; omega); have zz7 := P10.c 7 rfl; have ff7 := P10.f 7 rfl; have zl10 := P10.lt))
          all_goals
            go_wp2_with fail
            go_meet
            case rel =>
              rw [HOUT.out]
              have hlen : (L0 ++ [(imsS, V)]).length = L0.length + 1 := by simp
              unfold PlAt
              rw [hlen]
              exact ⟨_, cap5, P10.set 7 _, own_eq (ownsRow_setCell_other (a := ⟨P, 7, none⟩) hown10 (fun e => by have h1 : W7.heap.size ≤ P := own_base hown10 e; omega) _) rfl (by rw [cellsK_app]; rfl), hbb10.setCell ⟨P, 7, none⟩ (Or.inl rfl) _⟩
      case rest =>
        have hcut2 := hcut
        rw [← HCK.out, HLK.out] at hcut2
        clear hcut
        obtain ⟨fa, fc, PF, ownF, hbF⟩ := hcut2
        have HBF := Lib.hid (BelowBut.to_below hbF H7h.out (by have := H7h.out.size; omega) (by have := HRb.out; omega))
        have RF0 := R7.but hbF (Nat.lt_trans hRP hPW) (Nat.ne_of_lt hRP)
        clear z0 z1 z2 z3 z4 z5 z6 z7 y0 y1 y2 y3 y4 y5
        have z0 := PF.c 0 rfl; have z1 := PF.c 1 rfl; have z2 := PF.c 2 rfl; have z3 := PF.c 3 rfl; have z4 := PF.c 4 rfl; have z5 := PF.c 5 rfl; have z6 := PF.c 6 rfl; have z7 := PF.c 7 rfl
        have r0 := RF0.c 0 rfl; have r1 := RF0.c 1 rfl; have r2 := RF0.c 2 rfl; have r3 := RF0.c 3 rfl; have r4 := RF0.c 4 rfl; have r5 := RF0.c 5 rfl; have r6 := RF0.c 6 rfl; have r7 := RF0.c 7 rfl; have g0 := RF0.f 0 rfl; have g1 := RF0.f 1 rfl; have g2 := RF0.f 2 rfl; have g3 := RF0.f 3 rfl; have g4 := RF0.f 4 rfl; have g5 := RF0.f 5 rfl; have g6 := RF0.f 6 rfl; have g7 := RF0.f 7 rfl
        have pfl := PF.lt
        have rfl0 := RF0.lt
        have hLk : chkL xe.hd = L := HLK.out
        rw [hLk] at HCK
        have hkl : L.length ≤ 2 := by rw [HCK.out, List.length_append]; have := lmL_len xe.hd; omega
        clear hLk
        have HOF := Lib.hid ownF
        have hof := hown_lt ownF
        have hRE : Rb ≠ P := Nat.ne_of_lt hRP
        rcases HKE.out with ⟨h1, h2, h3⟩ | ⟨h1, h2, h3⟩
        · subst h1 h2 h3
          clear HKE HLK
          go_wp2_with fail
          have RF := RF0.set8 rfl (.int .i64 1) (.string ⟨#[]⟩) (.slice none 0 0) (.int .i64 0) (.slice none 0 0) (.string ⟨#[]⟩) (.int .i64 0) (.slice none 0 0)
          have BF := below_set8 HBF.out (Nat.le_of_eq HRb.out) (.int .i64 1) (.string ⟨#[]⟩) (.slice none 0 0) (.int .i64 0) (.slice none 0 0) (.string ⟨#[]⟩) (.int .i64 0) (.slice none 0 0)
          exact bodyPost_ret (ret8t_run Tryz.results25 Tryz.sizeOf45 Tryz.isAgg45 _ _ Rb _ _ _ _ _ _ _ _ _ rfl rfl RF) rfl ⟨⟨⟨#[]⟩, .slice none 0 0, 0, .slice none 0 0, ⟨#[]⟩, 0⟩, .slice none 0 0, _, rfl, rd0 _, slk0 _, HV.out.below BF (Nat.le_refl _), fun y hy => (HRD.out y hy).below BF (Nat.le_refl _), BF⟩
        · have hl0 : 0 < L.length := List.length_pos_iff.2 h1
          have hl1 : ((L.length : Int) == 0) = false := by rw [beq_eq_false_iff_ne]; omega
          have h3' : en = xe := h3
          subst h2 h3'
          clear HKE HLK h1 h3
          go_wp2_with fail
          have RF := RF0.set8 rfl (.int .i64 3) (.string u) (.slice a1 n1 k1) (.int .i64 st) (.slice a2 n2 k2) (.string bo) (.int .i64 ti) (.slice fa L.length fc)
          have BF := below_set8 HBF.out (Nat.le_of_eq HRb.out) (.int .i64 3) (.string u) (.slice a1 n1 k1) (.int .i64 st) (.slice a2 n2 k2) (.string bo) (.int .i64 ti) (.slice fa L.length fc)
          have OF := own_rowbut HOF.out (rowbut_set8 wc Rb (.int .i64 3) (.string u) (.slice a1 n1 k1) (.int .i64 st) (.slice a2 n2 k2) (.string bo) (.int .i64 ti) (.slice fa L.length fc)) (Nat.le_refl _) (by omega) (fun g h => by cases h)
          exact bodyPost_ret (ret8t_run Tryz.results25 Tryz.sizeOf45 Tryz.isAgg45 _ _ Rb _ _ _ _ _ _ _ _ _ rfl rfl RF) rfl ⟨⟨u, .slice a1 n1 k1, st, .slice a2 n2 k2, bo, ti⟩, .slice fa L.length fc, _, rfl, HRX.out.below BF (Nat.le_refl _), SlK.of_own hdC_len OF, HV.out.below BF (Nat.le_refl _), fun y hy => (HRD.out y hy).below BF (Nat.le_refl _), BF⟩
end Go.Proofs.YtkobhknggamejaaGreatDoor
