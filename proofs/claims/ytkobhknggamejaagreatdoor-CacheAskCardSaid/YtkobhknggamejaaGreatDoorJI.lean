/- Cache: the reference's Ask where an entry answers. -/
import Derived.Test.YtkobhknggamejaaGreatDoorJH
namespace Go.Proofs.YtkobhknggamejaaGreatDoor
set_option linter.unusedVariables false
set_option linter.unusedSimpArgs false
open Go.RowKit

/-- the headers so far of a plan in a block of its own -/
def PlAt (w8 : World) (P : Nat) (u : ByteArray) (vv : Value) (st : Int) (hh : Value) (bo : ByteArray) (ti : Int) (L : List Hd) (wx : World) : Prop := ∃ (a : Option Addr) (c : Nat), AtL wx P [.int .i64 3, .string u, vv, .int .i64 st, hh, .string bo, .int .i64 ti, .slice a L.length c] ∧ wx.ownsRow w8.heap.size 68 2 (.slice a L.length c) L.length (cellsK hdC L) ∧ BelowBut w8.heap.size P w8 wx
def etL (hs : List Hd) : List Hd := ((hdrL hs etS.data.toList).map (fun v => (inmS, v))).toList
def lmL (hs : List Hd) : List Hd := ((hdrL hs lmS.data.toList).map (fun v => (imsS, v))).toList
theorem chk_split (hs : List Hd) : chkL hs = etL hs ++ lmL hs := rfl
theorem etL_len (hs : List Hd) : (etL hs).length ≤ 1 := by unfold etL; cases hdrL hs etS.data.toList <;> simp
theorem lmL_len (hs : List Hd) : (lmL hs).length ≤ 1 := by unfold lmL; cases hdrL hs lmS.data.toList <;> simp
theorem atl_far8 {W : World} {k e : Nat} {vs : List Value} (h : AtL W e vs) (hne : k ≠ e) (a b c d f g i j : Value) : AtL (set8 W k a b c d f g i j) e vs :=
  (((((((h.far ⟨k, 0, none⟩ a hne).far ⟨k, 1, none⟩ b hne).far ⟨k, 2, none⟩ c hne).far ⟨k, 3, none⟩ d hne).far ⟨k, 4, none⟩ f hne).far ⟨k, 5, none⟩ g hne).far ⟨k, 6, none⟩ i hne).far ⟨k, 7, none⟩ j hne
theorem rowbut_set8 (W : World) (k : Nat) (a b c d f g i j : Value) : RowBut W.heap.size k none W (set8 W k a b c d f g i j) :=
  (((((((( RowBut.refl W.heap.size k none W).setCell ⟨k, 0, none⟩ (Or.inl rfl) a).setCell ⟨k, 1, none⟩ (Or.inl rfl) b).setCell ⟨k, 2, none⟩ (Or.inl rfl) c).setCell ⟨k, 3, none⟩ (Or.inl rfl) d).setCell ⟨k, 4, none⟩ (Or.inl rfl) f).setCell ⟨k, 5, none⟩ (Or.inl rfl) g).setCell ⟨k, 6, none⟩ (Or.inl rfl) i).setCell ⟨k, 7, none⟩ (Or.inl rfl) j
set_option maxRecDepth 20000 in
set_option maxHeartbeats 8000000 in
theorem rask_use (l : List Ee) (v : Value) (url : ByteArray) (rq : List Hd) (vr : Value) (now : Int) (w : World) (hM : MaxAt w) (hv : SlK eeC 6 w v l) (hr : ∀ x ∈ l, Rd w x.1 x.2) (hz : ∀ x ∈ l, HdSz x.2.va ∧ HdSz x.2.hd) (hl : l.length ≤ 1000) (hq : SlK hdC 2 w vr rq) (hzq : HdSz rq) (i : Nat) (hi : i < l.length) (x : Ee) (hx : l[i] = x) (hR : LastAt (fun x => ansB x.2 url rq) l (i : Int)) (d2 d3 : Bool) (d4 : Int) (hD : dirL rq = ⟨false, d2, d3, d4⟩) (U : Bool) (hU : useB ⟨false, d2, d3, d4⟩ x.2 now = U) (hUt : U = true) :
    Calls Tryz.prog 25 #[v, .string url, vr, .int .i64 now] w (RAskQ w 2 x.2 [] (l.eraseIdx i ++ [x])) := by
  have HUT := Lib.hid hUt
  clear hUt
  obtain ⟨lo, hlo⟩ : ∃ lo, l.eraseIdx i ++ [x] = lo := ⟨_, rfl⟩
  try rw [hlo]
  obtain ⟨F, hF⟩ : ∃ F, freshE x.2 now = F := ⟨_, rfl⟩
  obtain ⟨A, hA⟩ : ∃ A, ageE x.2.ti now = A := ⟨_, rfl⟩
  have hu2 : (F && (!d2 && (decide (d4 < 0) || decide (A ≤ 1000 * d4)))) = U := by rw [← hU]; unfold useB; rw [hF, hA]
  have hdb := dirL_bd rq
  rw [hD] at hdb
  have hda : -1 ≤ d4 := hdb.1
  have hdc : d4 < 1000000000 := hdb.2
  have hab := ageE_bd x.2.ti now
  rw [hA] at hab
  have ha0 := hab.1
  have ha1 := hab.2
  obtain ⟨R, hRi⟩ : ∃ R : Int, (i : Int) = R := ⟨_, rfl⟩
  have hR0 : 0 ≤ R := by omega
  have hRn : ¬ R < 0 := by omega
  have hRd : decide (R < 0) = false := decide_eq_false hRn
  rw [hRi] at hR
  obtain ⟨D, hDD⟩ : ∃ D : Dir, (⟨false, d2, d3, d4⟩ : Dir) = D := ⟨_, rfl⟩
  rw [hDD] at hD
  have R0 := AtL.new w pl0 45
  have hB0 : Below w.heap.size w (w.alloc (.cells pl0.toArray 45)) := (Below.refl _ w).alloc (Nat.le_refl _) _
  have CD := Lib.hid (fun (w' : World) (hb : Below w.heap.size w w') => (rdir_is rq vr w' (hq.below hb (Nat.le_refl _)) hzq D hD))
  have CLa := Lib.hid (fun (w' : World) (hb : Below w.heap.size w w') => rlast_is l v url rq vr w' (hv.below hb (Nat.le_refl _)) (fun x hx => (hr x hx).below hb (Nat.le_refl _)) (fun x hx => (hz x hx).1) (hq.below hb (Nat.le_refl _)) hzq (by omega) R hR)
  have HV := Lib.hid hv
  have HRD := Lib.hid hr
  have HQ := Lib.hid hq
  obtain ⟨va, vc, rfl, _⟩ := hv.shape
  obtain ⟨qa, qc, rfl, _⟩ := hq.shape
  subst hDD
  have HCC := Lib.hid (ee_cells hv rfl)
  have hmem : x ∈ l := by rw [← hx]; exact List.getElem_mem hi
  have hrd := hr x hmem
  have hzx := hz x hmem
  have CBk := Lib.hid (fun (w' : World) (hb : Below w.heap.size w w') => by have := rback_is l (.slice va l.length vc) w' (hv.below hb (Nat.le_refl _)) (fun y hy => (hr y hy).below hb (Nat.le_refl _)) hl i hi x hx; rw [hRi, hlo] at this; exact this)
  have CFr := Lib.hid (fun (w : World) (r : Er) hM (hr : Rd w r x.2) => rfresh_is r x.2 now w hM hr hzx.2 _ hF)
  have CAg := Lib.hid (fun (w : World) (r : Er) (h : r.ti = x.2.ti) => reage_is r now w A (by rw [h]; exact hA))
  have HX := Lib.hid hx
  have HRX := Lib.hid hrd
  have HM := Lib.hid hM
  have HMEM : Hid (∀ y ∈ lo, y ∈ l) := Lib.hid (by rw [← hlo, ← hx]; exact erase_mem l i hi)
  clear hlo
  have HZX := Lib.hid hzx
  have HUU := Lib.hid hu2
  obtain ⟨b0, off, rfl, hb0l, hcell⟩ := ee_cells hv rfl (by omega)
  have cw : ∀ j u, (eeC x)[j]? = some u → w.cell? ⟨b0, off + i * 6 + j, none⟩ = some u := fun j u hu => hcell i hi j u (by rw [hx]; exact hu)
  obtain ⟨⟨a1, n1, k1, e1⟩, a2, n2, k2, e2⟩ := hrd.shp
  obtain ⟨⟨u, vv, st, hh, bo, ti⟩, xe⟩ := x
  have e1 : vv = .slice a1 n1 k1 := e1
  have e2 : hh = .slice a2 n2 k2 := e2
  subst e1 e2
  have HCW := Lib.hid cw
  have hii : R < (l.length : Int) := by omega
  have hRt : R.toNat = i := by omega
  have HRI := Lib.hid hRi
  clear cw hcell hx hD hR hq hv hz hr hM hrd hmem hF hA hab hdb hzx hu2 hRi hU
  go_enter Tryz.func25, Tryz.ntmps25
  go_upto_region 5 with (first
    | (go_at_call 15; (with_reducible refine (CD.out _ hB0).mono ?_); rintro e w1 ⟨rfl, hb1⟩; have hB1 := hB0.trans (hb1.mono hB0.size); have hB2 := hB1.alloc hB1.size (.cells #[.bool false, .bool d2, .bool d3, .int .i64 d4] 28); have D2 := AtL.new w1 [.bool false, .bool d2, .bool d3, .int .i64 d4] 28; have R2 := (R0.next hb1).alloc (.cells #[.bool false, .bool d2, .bool d3, .int .i64 d4] 28))
    | (go_at_call 36; (with_reducible refine (CLa.out _ hB2).mono ?_); rintro e w3 ⟨rfl, hb3⟩; have hB3 := hB2.trans (hb3.mono hB2.size); have D3 := D2.next hb3; have R3 := R2.next hb3; have y0 := D3.c 0 rfl; have y1 := D3.c 1 rfl; have y2 := D3.c 2 rfl; have y3 := D3.c 3 rfl; have dl3 := D3.lt; have r0 := R3.c 0 rfl; have r1 := R3.c 1 rfl; have r2 := R3.c 2 rfl; have r3 := R3.c 3 rfl; have r4 := R3.c 4 rfl; have r5 := R3.c 5 rfl; have r6 := R3.c 6 rfl; have r7 := R3.c 7 rfl; have g0 := R3.f 0 rfl; have g1 := R3.f 1 rfl; have g2 := R3.f 2 rfl; have g3 := R3.f 3 rfl; have g4 := R3.f 4 rfl; have g5 := R3.f 5 rfl; have g6 := R3.f 6 rfl; have g7 := R3.f 7 rfl; have rl3 := R3.lt)
    )
  obtain ⟨c0, c1, c2, c3, c4, c5⟩ := e6_mk (fun j u hu => (brl hB3 _ _ hb0l).trans (HCW.out j u hu))
  go_upto_region 6 with fail
  obtain ⟨W5, hW5⟩ : ∃ W5 : World, w3.alloc (.cells (eeC (⟨u, .slice a1 n1 k1, st, .slice a2 n2 k2, bo, ti⟩, xe)).toArray 40) = W5 := ⟨_, rfl⟩
  have E5 := AtL.new w3 (eeC (⟨u, .slice a1 n1 k1, st, .slice a2 n2 k2, bo, ti⟩, xe)) 40
  have R5 := R3.alloc (.cells (eeC (⟨u, .slice a1 n1 k1, st, .slice a2 n2 k2, bo, ti⟩, xe)).toArray 40)
  have D5 := D3.alloc (.cells (eeC (⟨u, .slice a1 n1 k1, st, .slice a2 n2 k2, bo, ti⟩, xe)).toArray 40)
  have B5 := hB3.alloc hB3.size (.cells (eeC (⟨u, .slice a1 n1 k1, st, .slice a2 n2 k2, bo, ti⟩, xe)).toArray 40)
  rw [hW5] at E5 R5 D5 B5
  obtain ⟨Rb, hRb⟩ : ∃ Rb, w.heap.size = Rb := ⟨_, rfl⟩
  obtain ⟨Db, hDb⟩ : ∃ Db, w1.heap.size = Db := ⟨_, rfl⟩
  obtain ⟨Eb, hEb⟩ : ∃ Eb, w3.heap.size = Eb := ⟨_, rfl⟩
  rw [hEb] at E5
  rw [hDb] at D5
  rw [hRb] at R5
  have hRDE : Rb < Eb := by have := R3.lt; omega
  rw [hW5, hRb, hDb, hEb]
  have HRb := Lib.hid hRb
  have HMd := Lib.hid ((HM.out.below B5 (Nat.le_refl _)).below (Below.refl _ W5).drew (Nat.le_refl _))
  have HXd := Lib.hid ((HRX.out.below B5 (Nat.le_refl _)).below (Below.refl _ W5).drew (Nat.le_refl _))
  have HTI := Lib.hid HRX.out.ti
  have H5 := Lib.hid B5
  have hz5 := B5.size
  clear hW5 hRb hDb hEb R3 D3 hB3 hb3 hb1 hB1 hB2 D2 R2 R0 hB0 B5 c0 c1 c2 c3 c4 c5 y0 y1 y2 y3 r0 r1 r2 r3 r4 r5 r6 r7 g0 g1 g2 g3 g4 g5 g6 g7 dl3 rl3
  have z0 := E5.c 0 rfl; have z1 := E5.c 1 rfl; have z2 := E5.c 2 rfl; have z3 := E5.c 3 rfl; have z4 := E5.c 4 rfl; have z5 := E5.c 5 rfl
  have y0 := D5.c 0 rfl; have y1 := D5.c 1 rfl; have y2 := D5.c 2 rfl; have y3 := D5.c 3 rfl
  have el5 := E5.lt
  have dl5 := D5.lt
  have rl5 := R5.lt
  go_cut [53] from 32 to 53 (fun c53 w6 => c53 = .bool U ∧ Below W5.heap.size W5 w6)
  case first =>
    cases F with
    | false =>
      obtain rfl : U = false := by rw [← HUU.out]; rfl
      clear HUU
      refine wp_region_held_drew (S := (fun w' => w'.cell? ⟨Eb, 0, none⟩ = some (.string u) ∧ w'.cell? ⟨Eb, 1, none⟩ = some (.slice a1 n1 k1) ∧ w'.cell? ⟨Eb, 2, none⟩ = some (.int .i64 st) ∧ w'.cell? ⟨Eb, 3, none⟩ = some (.slice a2 n2 k2) ∧ w'.cell? ⟨Eb, 4, none⟩ = some (.string bo) ∧ w'.cell? ⟨Eb, 5, none⟩ = some (.int .i64 ti) ∧ w'.cell? ⟨Db, 1, none⟩ = some (.bool d2) ∧ w'.cell? ⟨Db, 3, none⟩ = some (.int .i64 d4))) (by kernel_rfl) ?_ (fun hHeld => ?_)
      · exact ed_mk E5 D5 (Below.refl _ W5).drew
      refine wpAnyH_take (i := 0) (oi := _) (v := ?vq1_0) (by simp only [List.getElem?_toArray, List.getElem?_cons_succ, List.getElem?_cons_zero]; rfl) (by kernel_rfl) (by kernel_rfl) (by kernel_rfl) (by intro _ _ _ h; exact h) (Or.inl ⟨by rfl, ?hyq1_0⟩) (by assumption) ?restq1_0
      case hyq1_0 => ((intro w hSw; (try dsimp only at hSw); go_simp); try (with_reducible rfl))
      try simp only [Act.put, List.setIfInBounds_toArray, List.set_cons_zero, List.set_cons_succ]
      refine wpAnyH_take (i := 1) (oi := _) (v := ?vq1_1) (by simp only [List.getElem?_toArray, List.getElem?_cons_succ, List.getElem?_cons_zero]; rfl) (by kernel_rfl) (by kernel_rfl) (by kernel_rfl) (by intro _ _ _ h; exact h) (Or.inl ⟨by rfl, ?hyq1_1⟩) (by assumption) ?restq1_1
      case hyq1_1 => ((intro w hSw; (try dsimp only at hSw); go_simp); try (with_reducible rfl))
      try simp only [Act.put, List.setIfInBounds_toArray, List.set_cons_zero, List.set_cons_succ]
      refine wpAnyH_ready (rs := [2]) (by kernel_rfl) (by simp) ?_
      refine AllReadyH.cons rfl (fun K hK => ?_) AllReadyH.nil
      go_simp
      go_wp2_with (go_at_call 22; (with_reducible refine (CFr.out W5.drew ⟨u, .slice a1 n1 k1, st, .slice a2 n2 k2, bo, ti⟩ HMd.out HXd.out).mono ?_); rintro e w6 ⟨rfl, hbb6⟩; have hb6 := (Below.refl _ W5).drew.trans hbb6)
      refine hK.out _ _ ?_ (fun hHeld2 => ?_)
      · exact ed_mk E5 D5 hb6
      clear hK K hHeld
      have hHeld := hHeld2
      clear hHeld2
      refine wpAnyH_take (i := 3) (oi := _) (v := ?vq1_3) (by simp only [List.getElem?_toArray, List.getElem?_cons_succ, List.getElem?_cons_zero]; rfl) (by kernel_rfl) (by kernel_rfl) (by kernel_rfl) (by intro _ _ _ h; exact h) (Or.inl ⟨by rfl, ?hyq1_3⟩) (by assumption) ?restq1_3
      case hyq1_3 => ((intro w hSw; (try dsimp only at hSw); go_simp); try (with_reducible rfl))
      try simp only [Act.put, List.setIfInBounds_toArray, List.set_cons_zero, List.set_cons_succ]
      refine wpAnyH_take (i := 4) (oi := _) (v := undef) (by simp only [List.getElem?_toArray, List.getElem?_cons_succ, List.getElem?_cons_zero]; rfl) (by kernel_rfl) (by kernel_rfl) (by kernel_rfl) (by intro _ _ _ h; exact h) (Or.inr ⟨by rfl, rfl⟩) (by assumption) ?_
      try simp only [Act.put, List.setIfInBounds_toArray, List.set_cons_zero, List.set_cons_succ]
      refine wpAnyH_take (i := 5) (oi := _) (v := undef) (by simp only [List.getElem?_toArray, List.getElem?_cons_succ, List.getElem?_cons_zero]; rfl) (by kernel_rfl) (by kernel_rfl) (by kernel_rfl) (by intro _ _ _ h; exact h) (Or.inr ⟨by rfl, rfl⟩) (by assumption) ?_
      try simp only [Act.put, List.setIfInBounds_toArray, List.set_cons_zero, List.set_cons_succ]
      refine wpAnyH_take (i := 6) (oi := _) (v := undef) (by simp only [List.getElem?_toArray, List.getElem?_cons_succ, List.getElem?_cons_zero]; rfl) (by kernel_rfl) (by kernel_rfl) (by kernel_rfl) (by intro _ _ _ h; exact h) (Or.inr ⟨by rfl, rfl⟩) (by assumption) ?_
      try simp only [Act.put, List.setIfInBounds_toArray, List.set_cons_zero, List.set_cons_succ]
      refine wpAnyH_take (i := 7) (oi := _) (v := ?vq1_7) (by simp only [List.getElem?_toArray, List.getElem?_cons_succ, List.getElem?_cons_zero]; rfl) (by kernel_rfl) (by kernel_rfl) (by kernel_rfl) (by intro _ _ _ h; exact h) (Or.inl ⟨by rfl, ?hyq1_7⟩) (by assumption) ?restq1_7
      case hyq1_7 => ((intro w hSw; (try dsimp only at hSw); go_simp); try (with_reducible rfl))
      try simp only [Act.put, List.setIfInBounds_toArray, List.set_cons_zero, List.set_cons_succ]
      refine wpAnyH_take (i := 8) (oi := _) (v := ?vq1_8) (by simp only [List.getElem?_toArray, List.getElem?_cons_succ, List.getElem?_cons_zero]; rfl) (by kernel_rfl) (by kernel_rfl) (by kernel_rfl) (by intro _ _ _ h; exact h) (Or.inl ⟨by rfl, ?hyq1_8⟩) (by assumption) ?restq1_8
      case hyq1_8 => ((intro w hSw; (try dsimp only at hSw); go_simp); try (with_reducible rfl))
      try simp only [Act.put, List.setIfInBounds_toArray, List.set_cons_zero, List.set_cons_succ]
      refine wpAnyH_take (i := 9) (oi := _) (v := undef) (by simp only [List.getElem?_toArray, List.getElem?_cons_succ, List.getElem?_cons_zero]; rfl) (by kernel_rfl) (by kernel_rfl) (by kernel_rfl) (by intro _ _ _ h; exact h) (Or.inr ⟨by rfl, rfl⟩) (by assumption) ?_
      try simp only [Act.put, List.setIfInBounds_toArray, List.set_cons_zero, List.set_cons_succ]
      refine wpAnyH_take (i := 10) (oi := _) (v := undef) (by simp only [List.getElem?_toArray, List.getElem?_cons_succ, List.getElem?_cons_zero]; rfl) (by kernel_rfl) (by kernel_rfl) (by kernel_rfl) (by intro _ _ _ h; exact h) (Or.inr ⟨by rfl, rfl⟩) (by assumption) ?_
      try simp only [Act.put, List.setIfInBounds_toArray, List.set_cons_zero, List.set_cons_succ]
      refine wpAnyH_take (i := 11) (oi := _) (v := undef) (by simp only [List.getElem?_toArray, List.getElem?_cons_succ, List.getElem?_cons_zero]; rfl) (by kernel_rfl) (by kernel_rfl) (by kernel_rfl) (by intro _ _ _ h; exact h) (Or.inr ⟨by rfl, rfl⟩) (by assumption) ?_
      try simp only [Act.put, List.setIfInBounds_toArray, List.set_cons_zero, List.set_cons_succ]
      refine wpAnyH_take (i := 12) (oi := _) (v := undef) (by simp only [List.getElem?_toArray, List.getElem?_cons_succ, List.getElem?_cons_zero]; rfl) (by kernel_rfl) (by kernel_rfl) (by kernel_rfl) (by intro _ _ _ h; exact h) (Or.inr ⟨by rfl, rfl⟩) (by assumption) ?_
      try simp only [Act.put, List.setIfInBounds_toArray, List.set_cons_zero, List.set_cons_succ]
      refine wpAnyH_take (i := 13) (oi := _) (v := undef) (by simp only [List.getElem?_toArray, List.getElem?_cons_succ, List.getElem?_cons_zero]; rfl) (by kernel_rfl) (by kernel_rfl) (by kernel_rfl) (by intro _ _ _ h; exact h) (Or.inr ⟨by rfl, rfl⟩) (by assumption) ?_
      try simp only [Act.put, List.setIfInBounds_toArray, List.set_cons_zero, List.set_cons_succ]
      refine wpAnyH_take (i := 14) (oi := _) (v := undef) (by simp only [List.getElem?_toArray, List.getElem?_cons_succ, List.getElem?_cons_zero]; rfl) (by kernel_rfl) (by kernel_rfl) (by kernel_rfl) (by intro _ _ _ h; exact h) (Or.inr ⟨by rfl, rfl⟩) (by assumption) ?_
      try simp only [Act.put, List.setIfInBounds_toArray, List.set_cons_zero, List.set_cons_succ]
      refine wpAnyH_take (i := 15) (oi := _) (v := undef) (by simp only [List.getElem?_toArray, List.getElem?_cons_succ, List.getElem?_cons_zero]; rfl) (by kernel_rfl) (by kernel_rfl) (by kernel_rfl) (by intro _ _ _ h; exact h) (Or.inr ⟨by rfl, rfl⟩) (by assumption) ?_
      try simp only [Act.put, List.setIfInBounds_toArray, List.set_cons_zero, List.set_cons_succ]
      refine wpAnyH_take (i := 16) (oi := _) (v := undef) (by simp only [List.getElem?_toArray, List.getElem?_cons_succ, List.getElem?_cons_zero]; rfl) (by kernel_rfl) (by kernel_rfl) (by kernel_rfl) (by intro _ _ _ h; exact h) (Or.inr ⟨by rfl, rfl⟩) (by assumption) ?_
      try simp only [Act.put, List.setIfInBounds_toArray, List.set_cons_zero, List.set_cons_succ]
      refine wpAnyH_take (i := 17) (oi := _) (v := undef) (by simp only [List.getElem?_toArray, List.getElem?_cons_succ, List.getElem?_cons_zero]; rfl) (by kernel_rfl) (by kernel_rfl) (by kernel_rfl) (by intro _ _ _ h; exact h) (Or.inr ⟨by rfl, rfl⟩) (by assumption) ?_
      try simp only [Act.put, List.setIfInBounds_toArray, List.set_cons_zero, List.set_cons_succ]
      refine wpAnyH_take (i := 18) (oi := _) (v := undef) (by simp only [List.getElem?_toArray, List.getElem?_cons_succ, List.getElem?_cons_zero]; rfl) (by kernel_rfl) (by kernel_rfl) (by kernel_rfl) (by intro _ _ _ h; exact h) (Or.inr ⟨by rfl, rfl⟩) (by assumption) ?_
      try simp only [Act.put, List.setIfInBounds_toArray, List.set_cons_zero, List.set_cons_succ]
      refine wpAnyH_take (i := 19) (oi := _) (v := undef) (by simp only [List.getElem?_toArray, List.getElem?_cons_succ, List.getElem?_cons_zero]; rfl) (by kernel_rfl) (by kernel_rfl) (by kernel_rfl) (by intro _ _ _ h; exact h) (Or.inr ⟨by rfl, rfl⟩) (by assumption) ?_
      try simp only [Act.put, List.setIfInBounds_toArray, List.set_cons_zero, List.set_cons_succ]
      refine wpAnyH_take (i := 20) (oi := _) (v := undef) (by simp only [List.getElem?_toArray, List.getElem?_cons_succ, List.getElem?_cons_zero]; rfl) (by kernel_rfl) (by kernel_rfl) (by kernel_rfl) (by intro _ _ _ h; exact h) (Or.inr ⟨by rfl, rfl⟩) (by assumption) ?_
      try simp only [Act.put, List.setIfInBounds_toArray, List.set_cons_zero, List.set_cons_succ]
      refine wpAnyH_take (i := 21) (oi := _) (v := ?vq1_21) (by simp only [List.getElem?_toArray, List.getElem?_cons_succ, List.getElem?_cons_zero]; rfl) (by kernel_rfl) (by kernel_rfl) (by kernel_rfl) (by intro _ _ _ h; exact h) (Or.inl ⟨by rfl, ?hyq1_21⟩) (by assumption) ?restq1_21
      case hyq1_21 => ((intro w hSw; (try dsimp only at hSw); go_simp); try (with_reducible rfl))
      try simp only [Act.put, List.setIfInBounds_toArray, List.set_cons_zero, List.set_cons_succ]
      refine wpAnyH_done (by kernel_rfl) ?_ _
      go_wp2_with fail
      go_meet
      case rel => exact ⟨rfl, hb6⟩
    | true =>
      cases d2 with
      | true =>
        obtain rfl : U = false := by rw [← HUU.out]; rfl
        clear HUU
        refine wp_region_held_drew (S := (fun w' => w'.cell? ⟨Eb, 0, none⟩ = some (.string u) ∧ w'.cell? ⟨Eb, 1, none⟩ = some (.slice a1 n1 k1) ∧ w'.cell? ⟨Eb, 2, none⟩ = some (.int .i64 st) ∧ w'.cell? ⟨Eb, 3, none⟩ = some (.slice a2 n2 k2) ∧ w'.cell? ⟨Eb, 4, none⟩ = some (.string bo) ∧ w'.cell? ⟨Eb, 5, none⟩ = some (.int .i64 ti) ∧ w'.cell? ⟨Db, 1, none⟩ = some (.bool true) ∧ w'.cell? ⟨Db, 3, none⟩ = some (.int .i64 d4))) (by kernel_rfl) ?_ (fun hHeld => ?_)
        · exact ed_mk E5 D5 (Below.refl _ W5).drew
        refine wpAnyH_take (i := 0) (oi := _) (v := ?vq2_0) (by simp only [List.getElem?_toArray, List.getElem?_cons_succ, List.getElem?_cons_zero]; rfl) (by kernel_rfl) (by kernel_rfl) (by kernel_rfl) (by intro _ _ _ h; exact h) (Or.inl ⟨by rfl, ?hyq2_0⟩) (by assumption) ?restq2_0
        case hyq2_0 => ((intro w hSw; (try dsimp only at hSw); go_simp); try (with_reducible rfl))
        try simp only [Act.put, List.setIfInBounds_toArray, List.set_cons_zero, List.set_cons_succ]
        refine wpAnyH_take (i := 1) (oi := _) (v := ?vq2_1) (by simp only [List.getElem?_toArray, List.getElem?_cons_succ, List.getElem?_cons_zero]; rfl) (by kernel_rfl) (by kernel_rfl) (by kernel_rfl) (by intro _ _ _ h; exact h) (Or.inl ⟨by rfl, ?hyq2_1⟩) (by assumption) ?restq2_1
        case hyq2_1 => ((intro w hSw; (try dsimp only at hSw); go_simp); try (with_reducible rfl))
        try simp only [Act.put, List.setIfInBounds_toArray, List.set_cons_zero, List.set_cons_succ]
        refine wpAnyH_ready (rs := [2]) (by kernel_rfl) (by simp) ?_
        refine AllReadyH.cons rfl (fun K hK => ?_) AllReadyH.nil
        go_simp
        go_wp2_with (go_at_call 22; (with_reducible refine (CFr.out W5.drew ⟨u, .slice a1 n1 k1, st, .slice a2 n2 k2, bo, ti⟩ HMd.out HXd.out).mono ?_); rintro e w6 ⟨rfl, hbb6⟩; have hb6 := (Below.refl _ W5).drew.trans hbb6)
        refine hK.out _ _ ?_ (fun hHeld2 => ?_)
        · exact ed_mk E5 D5 hb6
        clear hK K hHeld
        have hHeld := hHeld2
        clear hHeld2
        refine wpAnyH_take (i := 3) (oi := _) (v := ?vq2_3) (by simp only [List.getElem?_toArray, List.getElem?_cons_succ, List.getElem?_cons_zero]; rfl) (by kernel_rfl) (by kernel_rfl) (by kernel_rfl) (by intro _ _ _ h; exact h) (Or.inl ⟨by rfl, ?hyq2_3⟩) (by assumption) ?restq2_3
        case hyq2_3 => ((intro w hSw; (try dsimp only at hSw); go_simp); try (with_reducible rfl))
        try simp only [Act.put, List.setIfInBounds_toArray, List.set_cons_zero, List.set_cons_succ]
        refine wpAnyH_take (i := 4) (oi := _) (v := ?vq2_4) (by simp only [List.getElem?_toArray, List.getElem?_cons_succ, List.getElem?_cons_zero]; rfl) (by kernel_rfl) (by kernel_rfl) (by kernel_rfl) (by intro _ _ _ h; exact h) (Or.inl ⟨by rfl, ?hyq2_4⟩) (by assumption) ?restq2_4
        case hyq2_4 => ((intro w hSw; (try dsimp only at hSw); go_simp); try (with_reducible rfl))
        try simp only [Act.put, List.setIfInBounds_toArray, List.set_cons_zero, List.set_cons_succ]
        refine wpAnyH_take (i := 5) (oi := _) (v := ?vq2_5) (by simp only [List.getElem?_toArray, List.getElem?_cons_succ, List.getElem?_cons_zero]; rfl) (by kernel_rfl) (by kernel_rfl) (by kernel_rfl) (by intro _ _ _ h; exact h) (Or.inl ⟨by rfl, ?hyq2_5⟩) (by assumption) ?restq2_5
        case hyq2_5 => ((intro w hSw; (try dsimp only at hSw); go_simp); try (with_reducible rfl))
        try simp only [Act.put, List.setIfInBounds_toArray, List.set_cons_zero, List.set_cons_succ]
        refine wpAnyH_take (i := 6) (oi := _) (v := ?vq2_6) (by simp only [List.getElem?_toArray, List.getElem?_cons_succ, List.getElem?_cons_zero]; rfl) (by kernel_rfl) (by kernel_rfl) (by kernel_rfl) (by intro _ _ _ h; exact h) (Or.inl ⟨by rfl, ?hyq2_6⟩) (by assumption) ?restq2_6
        case hyq2_6 => ((intro w hSw; (try dsimp only at hSw); go_simp); try (with_reducible rfl))
        try simp only [Act.put, List.setIfInBounds_toArray, List.set_cons_zero, List.set_cons_succ]
        refine wpAnyH_take (i := 7) (oi := _) (v := ?vq2_7) (by simp only [List.getElem?_toArray, List.getElem?_cons_succ, List.getElem?_cons_zero]; rfl) (by kernel_rfl) (by kernel_rfl) (by kernel_rfl) (by intro _ _ _ h; exact h) (Or.inl ⟨by rfl, ?hyq2_7⟩) (by assumption) ?restq2_7
        case hyq2_7 => ((intro w hSw; (try dsimp only at hSw); go_simp); try (with_reducible rfl))
        try simp only [Act.put, List.setIfInBounds_toArray, List.set_cons_zero, List.set_cons_succ]
        refine wpAnyH_take (i := 8) (oi := _) (v := ?vq2_8) (by simp only [List.getElem?_toArray, List.getElem?_cons_succ, List.getElem?_cons_zero]; rfl) (by kernel_rfl) (by kernel_rfl) (by kernel_rfl) (by intro _ _ _ h; exact h) (Or.inl ⟨by rfl, ?hyq2_8⟩) (by assumption) ?restq2_8
        case hyq2_8 => ((intro w hSw; (try dsimp only at hSw); go_simp); try (with_reducible rfl))
        try simp only [Act.put, List.setIfInBounds_toArray, List.set_cons_zero, List.set_cons_succ]
        refine wpAnyH_take (i := 9) (oi := _) (v := undef) (by simp only [List.getElem?_toArray, List.getElem?_cons_succ, List.getElem?_cons_zero]; rfl) (by kernel_rfl) (by kernel_rfl) (by kernel_rfl) (by intro _ _ _ h; exact h) (Or.inr ⟨by rfl, rfl⟩) (by assumption) ?_
        try simp only [Act.put, List.setIfInBounds_toArray, List.set_cons_zero, List.set_cons_succ]
        refine wpAnyH_take (i := 10) (oi := _) (v := undef) (by simp only [List.getElem?_toArray, List.getElem?_cons_succ, List.getElem?_cons_zero]; rfl) (by kernel_rfl) (by kernel_rfl) (by kernel_rfl) (by intro _ _ _ h; exact h) (Or.inr ⟨by rfl, rfl⟩) (by assumption) ?_
        try simp only [Act.put, List.setIfInBounds_toArray, List.set_cons_zero, List.set_cons_succ]
        refine wpAnyH_take (i := 11) (oi := _) (v := undef) (by simp only [List.getElem?_toArray, List.getElem?_cons_succ, List.getElem?_cons_zero]; rfl) (by kernel_rfl) (by kernel_rfl) (by kernel_rfl) (by intro _ _ _ h; exact h) (Or.inr ⟨by rfl, rfl⟩) (by assumption) ?_
        try simp only [Act.put, List.setIfInBounds_toArray, List.set_cons_zero, List.set_cons_succ]
        refine wpAnyH_take (i := 12) (oi := _) (v := undef) (by simp only [List.getElem?_toArray, List.getElem?_cons_succ, List.getElem?_cons_zero]; rfl) (by kernel_rfl) (by kernel_rfl) (by kernel_rfl) (by intro _ _ _ h; exact h) (Or.inr ⟨by rfl, rfl⟩) (by assumption) ?_
        try simp only [Act.put, List.setIfInBounds_toArray, List.set_cons_zero, List.set_cons_succ]
        refine wpAnyH_take (i := 13) (oi := _) (v := undef) (by simp only [List.getElem?_toArray, List.getElem?_cons_succ, List.getElem?_cons_zero]; rfl) (by kernel_rfl) (by kernel_rfl) (by kernel_rfl) (by intro _ _ _ h; exact h) (Or.inr ⟨by rfl, rfl⟩) (by assumption) ?_
        try simp only [Act.put, List.setIfInBounds_toArray, List.set_cons_zero, List.set_cons_succ]
        refine wpAnyH_take (i := 14) (oi := _) (v := undef) (by simp only [List.getElem?_toArray, List.getElem?_cons_succ, List.getElem?_cons_zero]; rfl) (by kernel_rfl) (by kernel_rfl) (by kernel_rfl) (by intro _ _ _ h; exact h) (Or.inr ⟨by rfl, rfl⟩) (by assumption) ?_
        try simp only [Act.put, List.setIfInBounds_toArray, List.set_cons_zero, List.set_cons_succ]
        refine wpAnyH_take (i := 15) (oi := _) (v := undef) (by simp only [List.getElem?_toArray, List.getElem?_cons_succ, List.getElem?_cons_zero]; rfl) (by kernel_rfl) (by kernel_rfl) (by kernel_rfl) (by intro _ _ _ h; exact h) (Or.inr ⟨by rfl, rfl⟩) (by assumption) ?_
        try simp only [Act.put, List.setIfInBounds_toArray, List.set_cons_zero, List.set_cons_succ]
        refine wpAnyH_take (i := 16) (oi := _) (v := undef) (by simp only [List.getElem?_toArray, List.getElem?_cons_succ, List.getElem?_cons_zero]; rfl) (by kernel_rfl) (by kernel_rfl) (by kernel_rfl) (by intro _ _ _ h; exact h) (Or.inr ⟨by rfl, rfl⟩) (by assumption) ?_
        try simp only [Act.put, List.setIfInBounds_toArray, List.set_cons_zero, List.set_cons_succ]
        refine wpAnyH_take (i := 17) (oi := _) (v := undef) (by simp only [List.getElem?_toArray, List.getElem?_cons_succ, List.getElem?_cons_zero]; rfl) (by kernel_rfl) (by kernel_rfl) (by kernel_rfl) (by intro _ _ _ h; exact h) (Or.inr ⟨by rfl, rfl⟩) (by assumption) ?_
        try simp only [Act.put, List.setIfInBounds_toArray, List.set_cons_zero, List.set_cons_succ]
        refine wpAnyH_take (i := 18) (oi := _) (v := undef) (by simp only [List.getElem?_toArray, List.getElem?_cons_succ, List.getElem?_cons_zero]; rfl) (by kernel_rfl) (by kernel_rfl) (by kernel_rfl) (by intro _ _ _ h; exact h) (Or.inr ⟨by rfl, rfl⟩) (by assumption) ?_
        try simp only [Act.put, List.setIfInBounds_toArray, List.set_cons_zero, List.set_cons_succ]
        refine wpAnyH_take (i := 19) (oi := _) (v := undef) (by simp only [List.getElem?_toArray, List.getElem?_cons_succ, List.getElem?_cons_zero]; rfl) (by kernel_rfl) (by kernel_rfl) (by kernel_rfl) (by intro _ _ _ h; exact h) (Or.inr ⟨by rfl, rfl⟩) (by assumption) ?_
        try simp only [Act.put, List.setIfInBounds_toArray, List.set_cons_zero, List.set_cons_succ]
        refine wpAnyH_take (i := 20) (oi := _) (v := undef) (by simp only [List.getElem?_toArray, List.getElem?_cons_succ, List.getElem?_cons_zero]; rfl) (by kernel_rfl) (by kernel_rfl) (by kernel_rfl) (by intro _ _ _ h; exact h) (Or.inr ⟨by rfl, rfl⟩) (by assumption) ?_
        try simp only [Act.put, List.setIfInBounds_toArray, List.set_cons_zero, List.set_cons_succ]
        refine wpAnyH_take (i := 21) (oi := _) (v := ?vq2_21) (by simp only [List.getElem?_toArray, List.getElem?_cons_succ, List.getElem?_cons_zero]; rfl) (by kernel_rfl) (by kernel_rfl) (by kernel_rfl) (by intro _ _ _ h; exact h) (Or.inl ⟨by rfl, ?hyq2_21⟩) (by assumption) ?restq2_21
        case hyq2_21 => ((intro w hSw; (try dsimp only at hSw); go_simp); try (with_reducible rfl))
        try simp only [Act.put, List.setIfInBounds_toArray, List.set_cons_zero, List.set_cons_succ]
        refine wpAnyH_done (by kernel_rfl) ?_ _
        go_wp2_with fail
        go_meet
        case rel => exact ⟨rfl, hb6⟩
      | false =>
        have hu2 : (decide (d4 < 0) || decide (A ≤ 1000 * d4)) = U := by rw [← HUU.out]; rfl
        clear HUU
        by_cases h0 : d4 < 0
        · have h4 : decide (d4 < 0) = true := decide_eq_true h0
          obtain rfl : U = true := by rw [← hu2, h4]; rfl
          clear hu2 h0
          refine wp_region_held_drew (S := (fun w' => w'.cell? ⟨Eb, 0, none⟩ = some (.string u) ∧ w'.cell? ⟨Eb, 1, none⟩ = some (.slice a1 n1 k1) ∧ w'.cell? ⟨Eb, 2, none⟩ = some (.int .i64 st) ∧ w'.cell? ⟨Eb, 3, none⟩ = some (.slice a2 n2 k2) ∧ w'.cell? ⟨Eb, 4, none⟩ = some (.string bo) ∧ w'.cell? ⟨Eb, 5, none⟩ = some (.int .i64 ti) ∧ w'.cell? ⟨Db, 1, none⟩ = some (.bool false) ∧ w'.cell? ⟨Db, 3, none⟩ = some (.int .i64 d4))) (by kernel_rfl) ?_ (fun hHeld => ?_)
          · exact ed_mk E5 D5 (Below.refl _ W5).drew
          refine wpAnyH_take (i := 0) (oi := _) (v := ?vq3_0) (by simp only [List.getElem?_toArray, List.getElem?_cons_succ, List.getElem?_cons_zero]; rfl) (by kernel_rfl) (by kernel_rfl) (by kernel_rfl) (by intro _ _ _ h; exact h) (Or.inl ⟨by rfl, ?hyq3_0⟩) (by assumption) ?restq3_0
          case hyq3_0 => ((intro w hSw; (try dsimp only at hSw); go_simp); try (with_reducible rfl))
          try simp only [Act.put, List.setIfInBounds_toArray, List.set_cons_zero, List.set_cons_succ]
          refine wpAnyH_take (i := 1) (oi := _) (v := ?vq3_1) (by simp only [List.getElem?_toArray, List.getElem?_cons_succ, List.getElem?_cons_zero]; rfl) (by kernel_rfl) (by kernel_rfl) (by kernel_rfl) (by intro _ _ _ h; exact h) (Or.inl ⟨by rfl, ?hyq3_1⟩) (by assumption) ?restq3_1
          case hyq3_1 => ((intro w hSw; (try dsimp only at hSw); go_simp); try (with_reducible rfl))
          try simp only [Act.put, List.setIfInBounds_toArray, List.set_cons_zero, List.set_cons_succ]
          refine wpAnyH_ready (rs := [2]) (by kernel_rfl) (by simp) ?_
          refine AllReadyH.cons rfl (fun K hK => ?_) AllReadyH.nil
          go_simp
          go_wp2_with (go_at_call 22; (with_reducible refine (CFr.out W5.drew ⟨u, .slice a1 n1 k1, st, .slice a2 n2 k2, bo, ti⟩ HMd.out HXd.out).mono ?_); rintro e w6 ⟨rfl, hbb6⟩; have hb6 := (Below.refl _ W5).drew.trans hbb6)
          refine hK.out _ _ ?_ (fun hHeld2 => ?_)
          · exact ed_mk E5 D5 hb6
          clear hK K hHeld
          have hHeld := hHeld2
          clear hHeld2
          refine wpAnyH_take (i := 3) (oi := _) (v := ?vq3_3) (by simp only [List.getElem?_toArray, List.getElem?_cons_succ, List.getElem?_cons_zero]; rfl) (by kernel_rfl) (by kernel_rfl) (by kernel_rfl) (by intro _ _ _ h; exact h) (Or.inl ⟨by rfl, ?hyq3_3⟩) (by assumption) ?restq3_3
          case hyq3_3 => ((intro w hSw; (try dsimp only at hSw); go_simp); try (with_reducible rfl))
          try simp only [Act.put, List.setIfInBounds_toArray, List.set_cons_zero, List.set_cons_succ]
          refine wpAnyH_take (i := 4) (oi := _) (v := ?vq3_4) (by simp only [List.getElem?_toArray, List.getElem?_cons_succ, List.getElem?_cons_zero]; rfl) (by kernel_rfl) (by kernel_rfl) (by kernel_rfl) (by intro _ _ _ h; exact h) (Or.inl ⟨by rfl, ?hyq3_4⟩) (by assumption) ?restq3_4
          case hyq3_4 => ((intro w hSw; (try dsimp only at hSw); go_simp); try (with_reducible rfl))
          try simp only [Act.put, List.setIfInBounds_toArray, List.set_cons_zero, List.set_cons_succ]
          refine wpAnyH_take (i := 5) (oi := _) (v := ?vq3_5) (by simp only [List.getElem?_toArray, List.getElem?_cons_succ, List.getElem?_cons_zero]; rfl) (by kernel_rfl) (by kernel_rfl) (by kernel_rfl) (by intro _ _ _ h; exact h) (Or.inl ⟨by rfl, ?hyq3_5⟩) (by assumption) ?restq3_5
          case hyq3_5 => ((intro w hSw; (try dsimp only at hSw); go_simp); try (with_reducible rfl))
          try simp only [Act.put, List.setIfInBounds_toArray, List.set_cons_zero, List.set_cons_succ]
          refine wpAnyH_take (i := 6) (oi := _) (v := ?vq3_6) (by simp only [List.getElem?_toArray, List.getElem?_cons_succ, List.getElem?_cons_zero]; rfl) (by kernel_rfl) (by kernel_rfl) (by kernel_rfl) (by intro _ _ _ h; exact h) (Or.inl ⟨by rfl, ?hyq3_6⟩) (by assumption) ?restq3_6
          case hyq3_6 => ((intro w hSw; (try dsimp only at hSw); go_simp); try (with_reducible rfl))
          try simp only [Act.put, List.setIfInBounds_toArray, List.set_cons_zero, List.set_cons_succ]
          refine wpAnyH_take (i := 7) (oi := _) (v := ?vq3_7) (by simp only [List.getElem?_toArray, List.getElem?_cons_succ, List.getElem?_cons_zero]; rfl) (by kernel_rfl) (by kernel_rfl) (by kernel_rfl) (by intro _ _ _ h; exact h) (Or.inl ⟨by rfl, ?hyq3_7⟩) (by assumption) ?restq3_7
          case hyq3_7 => ((intro w hSw; (try dsimp only at hSw); go_simp); try (with_reducible rfl))
          try simp only [Act.put, List.setIfInBounds_toArray, List.set_cons_zero, List.set_cons_succ]
          refine wpAnyH_take (i := 8) (oi := _) (v := ?vq3_8) (by simp only [List.getElem?_toArray, List.getElem?_cons_succ, List.getElem?_cons_zero]; rfl) (by kernel_rfl) (by kernel_rfl) (by kernel_rfl) (by intro _ _ _ h; exact h) (Or.inl ⟨by rfl, ?hyq3_8⟩) (by assumption) ?restq3_8
          case hyq3_8 => ((intro w hSw; (try dsimp only at hSw); go_simp); try (with_reducible rfl))
          try simp only [Act.put, List.setIfInBounds_toArray, List.set_cons_zero, List.set_cons_succ]
          refine wpAnyH_take (i := 9) (oi := _) (v := ?vq3_9) (by simp only [List.getElem?_toArray, List.getElem?_cons_succ, List.getElem?_cons_zero]; rfl) (by kernel_rfl) (by kernel_rfl) (by kernel_rfl) (by intro _ _ _ h; exact h) (Or.inl ⟨by rfl, ?hyq3_9⟩) (by assumption) ?restq3_9
          case hyq3_9 => ((intro w hSw; (try dsimp only at hSw); go_simp); try (with_reducible rfl))
          try simp only [Act.put, List.setIfInBounds_toArray, List.set_cons_zero, List.set_cons_succ]
          refine wpAnyH_take (i := 10) (oi := _) (v := ?vq3_10) (by simp only [List.getElem?_toArray, List.getElem?_cons_succ, List.getElem?_cons_zero]; rfl) (by kernel_rfl) (by kernel_rfl) (by kernel_rfl) (by intro _ _ _ h; exact h) (Or.inl ⟨by rfl, ?hyq3_10⟩) (by assumption) ?restq3_10
          case hyq3_10 => ((intro w hSw; (try dsimp only at hSw); go_simp); try (with_reducible rfl))
          try simp only [Act.put, List.setIfInBounds_toArray, List.set_cons_zero, List.set_cons_succ]
          refine wpAnyH_take (i := 11) (oi := _) (v := ?vq3_11) (by simp only [List.getElem?_toArray, List.getElem?_cons_succ, List.getElem?_cons_zero]; rfl) (by kernel_rfl) (by kernel_rfl) (by kernel_rfl) (by intro _ _ _ h; exact h) (Or.inl ⟨by rfl, ?hyq3_11⟩) (by assumption) ?restq3_11
          case hyq3_11 => ((intro w hSw; (try dsimp only at hSw); go_simp); try (with_reducible rfl))
          try simp only [Act.put, List.setIfInBounds_toArray, List.set_cons_zero, List.set_cons_succ]
          refine wpAnyH_take (i := 12) (oi := _) (v := ?vq3_12) (by simp only [List.getElem?_toArray, List.getElem?_cons_succ, List.getElem?_cons_zero]; rfl) (by kernel_rfl) (by kernel_rfl) (by kernel_rfl) (by intro _ _ _ h; exact h) (Or.inl ⟨by rfl, ?hyq3_12⟩) (by assumption) ?restq3_12
          case hyq3_12 => ((intro w hSw; (try dsimp only at hSw); go_simp); try (with_reducible rfl))
          try simp only [Act.put, List.setIfInBounds_toArray, List.set_cons_zero, List.set_cons_succ]
          refine wpAnyH_take (i := 13) (oi := _) (v := undef) (by simp only [List.getElem?_toArray, List.getElem?_cons_succ, List.getElem?_cons_zero]; rfl) (by kernel_rfl) (by kernel_rfl) (by kernel_rfl) (by intro _ _ _ h; exact h) (Or.inr ⟨by rfl, rfl⟩) (by assumption) ?_
          try simp only [Act.put, List.setIfInBounds_toArray, List.set_cons_zero, List.set_cons_succ]
          refine wpAnyH_take (i := 14) (oi := _) (v := undef) (by simp only [List.getElem?_toArray, List.getElem?_cons_succ, List.getElem?_cons_zero]; rfl) (by kernel_rfl) (by kernel_rfl) (by kernel_rfl) (by intro _ _ _ h; exact h) (Or.inr ⟨by rfl, rfl⟩) (by assumption) ?_
          try simp only [Act.put, List.setIfInBounds_toArray, List.set_cons_zero, List.set_cons_succ]
          refine wpAnyH_take (i := 15) (oi := _) (v := undef) (by simp only [List.getElem?_toArray, List.getElem?_cons_succ, List.getElem?_cons_zero]; rfl) (by kernel_rfl) (by kernel_rfl) (by kernel_rfl) (by intro _ _ _ h; exact h) (Or.inr ⟨by rfl, rfl⟩) (by assumption) ?_
          try simp only [Act.put, List.setIfInBounds_toArray, List.set_cons_zero, List.set_cons_succ]
          refine wpAnyH_take (i := 16) (oi := _) (v := undef) (by simp only [List.getElem?_toArray, List.getElem?_cons_succ, List.getElem?_cons_zero]; rfl) (by kernel_rfl) (by kernel_rfl) (by kernel_rfl) (by intro _ _ _ h; exact h) (Or.inr ⟨by rfl, rfl⟩) (by assumption) ?_
          try simp only [Act.put, List.setIfInBounds_toArray, List.set_cons_zero, List.set_cons_succ]
          refine wpAnyH_take (i := 17) (oi := _) (v := undef) (by simp only [List.getElem?_toArray, List.getElem?_cons_succ, List.getElem?_cons_zero]; rfl) (by kernel_rfl) (by kernel_rfl) (by kernel_rfl) (by intro _ _ _ h; exact h) (Or.inr ⟨by rfl, rfl⟩) (by assumption) ?_
          try simp only [Act.put, List.setIfInBounds_toArray, List.set_cons_zero, List.set_cons_succ]
          refine wpAnyH_take (i := 18) (oi := _) (v := undef) (by simp only [List.getElem?_toArray, List.getElem?_cons_succ, List.getElem?_cons_zero]; rfl) (by kernel_rfl) (by kernel_rfl) (by kernel_rfl) (by intro _ _ _ h; exact h) (Or.inr ⟨by rfl, rfl⟩) (by assumption) ?_
          try simp only [Act.put, List.setIfInBounds_toArray, List.set_cons_zero, List.set_cons_succ]
          refine wpAnyH_take (i := 19) (oi := _) (v := undef) (by simp only [List.getElem?_toArray, List.getElem?_cons_succ, List.getElem?_cons_zero]; rfl) (by kernel_rfl) (by kernel_rfl) (by kernel_rfl) (by intro _ _ _ h; exact h) (Or.inr ⟨by rfl, rfl⟩) (by assumption) ?_
          try simp only [Act.put, List.setIfInBounds_toArray, List.set_cons_zero, List.set_cons_succ]
          refine wpAnyH_take (i := 20) (oi := _) (v := ?vq3_20) (by simp only [List.getElem?_toArray, List.getElem?_cons_succ, List.getElem?_cons_zero]; rfl) (by kernel_rfl) (by kernel_rfl) (by kernel_rfl) (by intro _ _ _ h; exact h) (Or.inl ⟨by rfl, ?hyq3_20⟩) (by assumption) ?restq3_20
          case hyq3_20 => ((intro w hSw; (try dsimp only at hSw); go_simp); try (with_reducible rfl))
          try simp only [Act.put, List.setIfInBounds_toArray, List.set_cons_zero, List.set_cons_succ]
          refine wpAnyH_take (i := 21) (oi := _) (v := ?vq3_21) (by simp only [List.getElem?_toArray, List.getElem?_cons_succ, List.getElem?_cons_zero]; rfl) (by kernel_rfl) (by kernel_rfl) (by kernel_rfl) (by intro _ _ _ h; exact h) (Or.inl ⟨by rfl, ?hyq3_21⟩) (by assumption) ?restq3_21
          case hyq3_21 => ((intro w hSw; (try dsimp only at hSw); go_simp); try (with_reducible rfl))
          try simp only [Act.put, List.setIfInBounds_toArray, List.set_cons_zero, List.set_cons_succ]
          refine wpAnyH_done (by kernel_rfl) ?_ _
          go_wp2_with fail
          go_meet
          case rel => exact ⟨rfl, hb6⟩
        · have h4 : decide (d4 < 0) = false := decide_eq_false h0
          have h40 : 0 ≤ d4 := by omega
          have hwr : IntKind.i64.wrap (1000 * d4) = 1000 * d4 := IntWalk.i64_in _ (by omega)
          by_cases h1 : A ≤ 1000 * d4
          · have h5 : decide (A ≤ 1000 * d4) = true := decide_eq_true h1
            obtain rfl : U = true := by rw [← hu2, h4, h5]; rfl
            clear hu2 h0 h1
            refine wp_region_held_drew (S := (fun w' => w'.cell? ⟨Eb, 0, none⟩ = some (.string u) ∧ w'.cell? ⟨Eb, 1, none⟩ = some (.slice a1 n1 k1) ∧ w'.cell? ⟨Eb, 2, none⟩ = some (.int .i64 st) ∧ w'.cell? ⟨Eb, 3, none⟩ = some (.slice a2 n2 k2) ∧ w'.cell? ⟨Eb, 4, none⟩ = some (.string bo) ∧ w'.cell? ⟨Eb, 5, none⟩ = some (.int .i64 ti) ∧ w'.cell? ⟨Db, 1, none⟩ = some (.bool false) ∧ w'.cell? ⟨Db, 3, none⟩ = some (.int .i64 d4))) (by kernel_rfl) ?_ (fun hHeld => ?_)
            · exact ed_mk E5 D5 (Below.refl _ W5).drew
            refine wpAnyH_take (i := 0) (oi := _) (v := ?vq4_0) (by simp only [List.getElem?_toArray, List.getElem?_cons_succ, List.getElem?_cons_zero]; rfl) (by kernel_rfl) (by kernel_rfl) (by kernel_rfl) (by intro _ _ _ h; exact h) (Or.inl ⟨by rfl, ?hyq4_0⟩) (by assumption) ?restq4_0
            case hyq4_0 => ((intro w hSw; (try dsimp only at hSw); go_simp); try (with_reducible rfl))
            try simp only [Act.put, List.setIfInBounds_toArray, List.set_cons_zero, List.set_cons_succ]
            refine wpAnyH_take (i := 1) (oi := _) (v := ?vq4_1) (by simp only [List.getElem?_toArray, List.getElem?_cons_succ, List.getElem?_cons_zero]; rfl) (by kernel_rfl) (by kernel_rfl) (by kernel_rfl) (by intro _ _ _ h; exact h) (Or.inl ⟨by rfl, ?hyq4_1⟩) (by assumption) ?restq4_1
            case hyq4_1 => ((intro w hSw; (try dsimp only at hSw); go_simp); try (with_reducible rfl))
            try simp only [Act.put, List.setIfInBounds_toArray, List.set_cons_zero, List.set_cons_succ]
            refine wpAnyH_ready (rs := [2]) (by kernel_rfl) (by simp) ?_
            refine AllReadyH.cons rfl (fun K hK => ?_) AllReadyH.nil
            go_simp
            go_wp2_with (go_at_call 22; (with_reducible refine (CFr.out W5.drew ⟨u, .slice a1 n1 k1, st, .slice a2 n2 k2, bo, ti⟩ HMd.out HXd.out).mono ?_); rintro e w6 ⟨rfl, hbb6⟩; have hb6 := (Below.refl _ W5).drew.trans hbb6)
            refine hK.out _ _ ?_ (fun hHeld2 => ?_)
            · exact ed_mk E5 D5 hb6
            clear hK K hHeld
            have hHeld := hHeld2
            clear hHeld2
            refine wpAnyH_take (i := 3) (oi := _) (v := ?vq4_3) (by simp only [List.getElem?_toArray, List.getElem?_cons_succ, List.getElem?_cons_zero]; rfl) (by kernel_rfl) (by kernel_rfl) (by kernel_rfl) (by intro _ _ _ h; exact h) (Or.inl ⟨by rfl, ?hyq4_3⟩) (by assumption) ?restq4_3
            case hyq4_3 => ((intro w hSw; (try dsimp only at hSw); go_simp); try (with_reducible rfl))
            try simp only [Act.put, List.setIfInBounds_toArray, List.set_cons_zero, List.set_cons_succ]
            refine wpAnyH_take (i := 4) (oi := _) (v := ?vq4_4) (by simp only [List.getElem?_toArray, List.getElem?_cons_succ, List.getElem?_cons_zero]; rfl) (by kernel_rfl) (by kernel_rfl) (by kernel_rfl) (by intro _ _ _ h; exact h) (Or.inl ⟨by rfl, ?hyq4_4⟩) (by assumption) ?restq4_4
            case hyq4_4 => ((intro w hSw; (try dsimp only at hSw); go_simp); try (with_reducible rfl))
            try simp only [Act.put, List.setIfInBounds_toArray, List.set_cons_zero, List.set_cons_succ]
            refine wpAnyH_take (i := 5) (oi := _) (v := ?vq4_5) (by simp only [List.getElem?_toArray, List.getElem?_cons_succ, List.getElem?_cons_zero]; rfl) (by kernel_rfl) (by kernel_rfl) (by kernel_rfl) (by intro _ _ _ h; exact h) (Or.inl ⟨by rfl, ?hyq4_5⟩) (by assumption) ?restq4_5
            case hyq4_5 => ((intro w hSw; (try dsimp only at hSw); go_simp); try (with_reducible rfl))
            try simp only [Act.put, List.setIfInBounds_toArray, List.set_cons_zero, List.set_cons_succ]
            refine wpAnyH_take (i := 6) (oi := _) (v := ?vq4_6) (by simp only [List.getElem?_toArray, List.getElem?_cons_succ, List.getElem?_cons_zero]; rfl) (by kernel_rfl) (by kernel_rfl) (by kernel_rfl) (by intro _ _ _ h; exact h) (Or.inl ⟨by rfl, ?hyq4_6⟩) (by assumption) ?restq4_6
            case hyq4_6 => ((intro w hSw; (try dsimp only at hSw); go_simp); try (with_reducible rfl))
            try simp only [Act.put, List.setIfInBounds_toArray, List.set_cons_zero, List.set_cons_succ]
            refine wpAnyH_take (i := 7) (oi := _) (v := ?vq4_7) (by simp only [List.getElem?_toArray, List.getElem?_cons_succ, List.getElem?_cons_zero]; rfl) (by kernel_rfl) (by kernel_rfl) (by kernel_rfl) (by intro _ _ _ h; exact h) (Or.inl ⟨by rfl, ?hyq4_7⟩) (by assumption) ?restq4_7
            case hyq4_7 => ((intro w hSw; (try dsimp only at hSw); go_simp); try (with_reducible rfl))
            try simp only [Act.put, List.setIfInBounds_toArray, List.set_cons_zero, List.set_cons_succ]
            refine wpAnyH_take (i := 8) (oi := _) (v := ?vq4_8) (by simp only [List.getElem?_toArray, List.getElem?_cons_succ, List.getElem?_cons_zero]; rfl) (by kernel_rfl) (by kernel_rfl) (by kernel_rfl) (by intro _ _ _ h; exact h) (Or.inl ⟨by rfl, ?hyq4_8⟩) (by assumption) ?restq4_8
            case hyq4_8 => ((intro w hSw; (try dsimp only at hSw); go_simp); try (with_reducible rfl))
            try simp only [Act.put, List.setIfInBounds_toArray, List.set_cons_zero, List.set_cons_succ]
            refine wpAnyH_take (i := 9) (oi := _) (v := ?vq4_9) (by simp only [List.getElem?_toArray, List.getElem?_cons_succ, List.getElem?_cons_zero]; rfl) (by kernel_rfl) (by kernel_rfl) (by kernel_rfl) (by intro _ _ _ h; exact h) (Or.inl ⟨by rfl, ?hyq4_9⟩) (by assumption) ?restq4_9
            case hyq4_9 => ((intro w hSw; (try dsimp only at hSw); go_simp); try (with_reducible rfl))
            try simp only [Act.put, List.setIfInBounds_toArray, List.set_cons_zero, List.set_cons_succ]
            refine wpAnyH_take (i := 10) (oi := _) (v := ?vq4_10) (by simp only [List.getElem?_toArray, List.getElem?_cons_succ, List.getElem?_cons_zero]; rfl) (by kernel_rfl) (by kernel_rfl) (by kernel_rfl) (by intro _ _ _ h; exact h) (Or.inl ⟨by rfl, ?hyq4_10⟩) (by assumption) ?restq4_10
            case hyq4_10 => ((intro w hSw; (try dsimp only at hSw); go_simp); try (with_reducible rfl))
            try simp only [Act.put, List.setIfInBounds_toArray, List.set_cons_zero, List.set_cons_succ]
            refine wpAnyH_take (i := 11) (oi := _) (v := ?vq4_11) (by simp only [List.getElem?_toArray, List.getElem?_cons_succ, List.getElem?_cons_zero]; rfl) (by kernel_rfl) (by kernel_rfl) (by kernel_rfl) (by intro _ _ _ h; exact h) (Or.inl ⟨by rfl, ?hyq4_11⟩) (by assumption) ?restq4_11
            case hyq4_11 => ((intro w hSw; (try dsimp only at hSw); go_simp); try (with_reducible rfl))
            try simp only [Act.put, List.setIfInBounds_toArray, List.set_cons_zero, List.set_cons_succ]
            refine wpAnyH_take (i := 12) (oi := _) (v := ?vq4_12) (by simp only [List.getElem?_toArray, List.getElem?_cons_succ, List.getElem?_cons_zero]; rfl) (by kernel_rfl) (by kernel_rfl) (by kernel_rfl) (by intro _ _ _ h; exact h) (Or.inl ⟨by rfl, ?hyq4_12⟩) (by assumption) ?restq4_12
            case hyq4_12 => ((intro w hSw; (try dsimp only at hSw); go_simp); try (with_reducible rfl))
            try simp only [Act.put, List.setIfInBounds_toArray, List.set_cons_zero, List.set_cons_succ]
            refine wpAnyH_take (i := 13) (oi := _) (v := ?vq4_13) (by simp only [List.getElem?_toArray, List.getElem?_cons_succ, List.getElem?_cons_zero]; rfl) (by kernel_rfl) (by kernel_rfl) (by kernel_rfl) (by intro _ _ _ h; exact h) (Or.inl ⟨by rfl, ?hyq4_13⟩) (by assumption) ?restq4_13
            case hyq4_13 => ((intro w hSw; (try dsimp only at hSw); go_simp); try (with_reducible rfl))
            try simp only [Act.put, List.setIfInBounds_toArray, List.set_cons_zero, List.set_cons_succ]
            refine wpAnyH_take (i := 14) (oi := _) (v := ?vq4_14) (by simp only [List.getElem?_toArray, List.getElem?_cons_succ, List.getElem?_cons_zero]; rfl) (by kernel_rfl) (by kernel_rfl) (by kernel_rfl) (by intro _ _ _ h; exact h) (Or.inl ⟨by rfl, ?hyq4_14⟩) (by assumption) ?restq4_14
            case hyq4_14 => ((intro w hSw; (try dsimp only at hSw); go_simp); try (with_reducible rfl))
            try simp only [Act.put, List.setIfInBounds_toArray, List.set_cons_zero, List.set_cons_succ]
            refine wpAnyH_take (i := 16) (oi := _) (v := ?vq4_16) (by simp only [List.getElem?_toArray, List.getElem?_cons_succ, List.getElem?_cons_zero]; rfl) (by kernel_rfl) (by kernel_rfl) (by kernel_rfl) (by intro _ _ _ h; exact h) (Or.inl ⟨by rfl, ?hyq4_16⟩) (by assumption) ?restq4_16
            case hyq4_16 => ((intro w hSw; (try dsimp only at hSw); go_simp); try (with_reducible rfl))
            try simp only [Act.put, List.setIfInBounds_toArray, List.set_cons_zero, List.set_cons_succ]
            refine wpAnyH_take (i := 17) (oi := _) (v := ?vq4_17) (by simp only [List.getElem?_toArray, List.getElem?_cons_succ, List.getElem?_cons_zero]; rfl) (by kernel_rfl) (by kernel_rfl) (by kernel_rfl) (by intro _ _ _ h; exact h) (Or.inl ⟨by rfl, ?hyq4_17⟩) (by assumption) ?restq4_17
            case hyq4_17 => ((intro w hSw; (try dsimp only at hSw); go_simp); try (with_reducible rfl))
            try simp only [Act.put, List.setIfInBounds_toArray, List.set_cons_zero, List.set_cons_succ]
            refine wpAnyH_take (i := 18) (oi := _) (v := ?vq4_18) (by simp only [List.getElem?_toArray, List.getElem?_cons_succ, List.getElem?_cons_zero]; rfl) (by kernel_rfl) (by kernel_rfl) (by kernel_rfl) (by intro _ _ _ h; exact h) (Or.inl ⟨by rfl, ?hyq4_18⟩) (by assumption) ?restq4_18
            case hyq4_18 => ((intro w hSw; (try dsimp only at hSw); go_simp); try (with_reducible rfl))
            try simp only [Act.put, List.setIfInBounds_toArray, List.set_cons_zero, List.set_cons_succ]
            refine wpAnyH_ready (rs := [15]) (by kernel_rfl) (by simp) ?_
            refine AllReadyH.cons rfl (fun K hK => ?_) AllReadyH.nil
            go_simp
            go_wp2_with (go_at_call 54; (with_reducible refine (CAg.out _ ⟨u, .slice a1 n1 k1, st, .slice a2 n2 k2, bo, ti⟩ HTI.out).mono ?_); rintro e w7 ⟨rfl, hbb7⟩; have hb7 := hb6.trans (hbb7.mono hb6.size))
            refine hK.out _ _ ?_ (fun hHeld2 => ?_)
            · exact ed_mk E5 D5 hb7
            clear hK K hHeld
            have hHeld := hHeld2
            clear hHeld2
            refine wpAnyH_take (i := 19) (oi := _) (v := ?vq4_19) (by simp only [List.getElem?_toArray, List.getElem?_cons_succ, List.getElem?_cons_zero]; rfl) (by kernel_rfl) (by kernel_rfl) (by kernel_rfl) (by intro _ _ _ h; exact h) (Or.inl ⟨by rfl, ?hyq4_19⟩) (by assumption) ?restq4_19
            case hyq4_19 => ((intro w hSw; (try dsimp only at hSw); go_simp); try (with_reducible rfl))
            try simp only [Act.put, List.setIfInBounds_toArray, List.set_cons_zero, List.set_cons_succ]
            refine wpAnyH_take (i := 20) (oi := _) (v := ?vq4_20) (by simp only [List.getElem?_toArray, List.getElem?_cons_succ, List.getElem?_cons_zero]; rfl) (by kernel_rfl) (by kernel_rfl) (by kernel_rfl) (by intro _ _ _ h; exact h) (Or.inl ⟨by rfl, ?hyq4_20⟩) (by assumption) ?restq4_20
            case hyq4_20 => ((intro w hSw; (try dsimp only at hSw); go_simp); try (with_reducible rfl))
            try simp only [Act.put, List.setIfInBounds_toArray, List.set_cons_zero, List.set_cons_succ]
            refine wpAnyH_take (i := 21) (oi := _) (v := ?vq4_21) (by simp only [List.getElem?_toArray, List.getElem?_cons_succ, List.getElem?_cons_zero]; rfl) (by kernel_rfl) (by kernel_rfl) (by kernel_rfl) (by intro _ _ _ h; exact h) (Or.inl ⟨by rfl, ?hyq4_21⟩) (by assumption) ?restq4_21
            case hyq4_21 => ((intro w hSw; (try dsimp only at hSw); go_simp); try (with_reducible rfl))
            try simp only [Act.put, List.setIfInBounds_toArray, List.set_cons_zero, List.set_cons_succ]
            refine wpAnyH_done (by kernel_rfl) ?_ _
            go_wp2_with fail
            go_meet
            case rel => exact ⟨rfl, hb7⟩
          · have h5 : decide (A ≤ 1000 * d4) = false := decide_eq_false h1
            obtain rfl : U = false := by rw [← hu2, h4, h5]; rfl
            clear hu2 h0 h1
            refine wp_region_held_drew (S := (fun w' => w'.cell? ⟨Eb, 0, none⟩ = some (.string u) ∧ w'.cell? ⟨Eb, 1, none⟩ = some (.slice a1 n1 k1) ∧ w'.cell? ⟨Eb, 2, none⟩ = some (.int .i64 st) ∧ w'.cell? ⟨Eb, 3, none⟩ = some (.slice a2 n2 k2) ∧ w'.cell? ⟨Eb, 4, none⟩ = some (.string bo) ∧ w'.cell? ⟨Eb, 5, none⟩ = some (.int .i64 ti) ∧ w'.cell? ⟨Db, 1, none⟩ = some (.bool false) ∧ w'.cell? ⟨Db, 3, none⟩ = some (.int .i64 d4))) (by kernel_rfl) ?_ (fun hHeld => ?_)
            · exact ed_mk E5 D5 (Below.refl _ W5).drew
            refine wpAnyH_take (i := 0) (oi := _) (v := ?vq5_0) (by simp only [List.getElem?_toArray, List.getElem?_cons_succ, List.getElem?_cons_zero]; rfl) (by kernel_rfl) (by kernel_rfl) (by kernel_rfl) (by intro _ _ _ h; exact h) (Or.inl ⟨by rfl, ?hyq5_0⟩) (by assumption) ?restq5_0
            case hyq5_0 => ((intro w hSw; (try dsimp only at hSw); go_simp); try (with_reducible rfl))
            try simp only [Act.put, List.setIfInBounds_toArray, List.set_cons_zero, List.set_cons_succ]
            refine wpAnyH_take (i := 1) (oi := _) (v := ?vq5_1) (by simp only [List.getElem?_toArray, List.getElem?_cons_succ, List.getElem?_cons_zero]; rfl) (by kernel_rfl) (by kernel_rfl) (by kernel_rfl) (by intro _ _ _ h; exact h) (Or.inl ⟨by rfl, ?hyq5_1⟩) (by assumption) ?restq5_1
            case hyq5_1 => ((intro w hSw; (try dsimp only at hSw); go_simp); try (with_reducible rfl))
            try simp only [Act.put, List.setIfInBounds_toArray, List.set_cons_zero, List.set_cons_succ]
            refine wpAnyH_ready (rs := [2]) (by kernel_rfl) (by simp) ?_
            refine AllReadyH.cons rfl (fun K hK => ?_) AllReadyH.nil
            go_simp
            go_wp2_with (go_at_call 22; (with_reducible refine (CFr.out W5.drew ⟨u, .slice a1 n1 k1, st, .slice a2 n2 k2, bo, ti⟩ HMd.out HXd.out).mono ?_); rintro e w6 ⟨rfl, hbb6⟩; have hb6 := (Below.refl _ W5).drew.trans hbb6)
            refine hK.out _ _ ?_ (fun hHeld2 => ?_)
            · exact ed_mk E5 D5 hb6
            clear hK K hHeld
            have hHeld := hHeld2
            clear hHeld2
            refine wpAnyH_take (i := 3) (oi := _) (v := ?vq5_3) (by simp only [List.getElem?_toArray, List.getElem?_cons_succ, List.getElem?_cons_zero]; rfl) (by kernel_rfl) (by kernel_rfl) (by kernel_rfl) (by intro _ _ _ h; exact h) (Or.inl ⟨by rfl, ?hyq5_3⟩) (by assumption) ?restq5_3
            case hyq5_3 => ((intro w hSw; (try dsimp only at hSw); go_simp); try (with_reducible rfl))
            try simp only [Act.put, List.setIfInBounds_toArray, List.set_cons_zero, List.set_cons_succ]
            refine wpAnyH_take (i := 4) (oi := _) (v := ?vq5_4) (by simp only [List.getElem?_toArray, List.getElem?_cons_succ, List.getElem?_cons_zero]; rfl) (by kernel_rfl) (by kernel_rfl) (by kernel_rfl) (by intro _ _ _ h; exact h) (Or.inl ⟨by rfl, ?hyq5_4⟩) (by assumption) ?restq5_4
            case hyq5_4 => ((intro w hSw; (try dsimp only at hSw); go_simp); try (with_reducible rfl))
            try simp only [Act.put, List.setIfInBounds_toArray, List.set_cons_zero, List.set_cons_succ]
            refine wpAnyH_take (i := 5) (oi := _) (v := ?vq5_5) (by simp only [List.getElem?_toArray, List.getElem?_cons_succ, List.getElem?_cons_zero]; rfl) (by kernel_rfl) (by kernel_rfl) (by kernel_rfl) (by intro _ _ _ h; exact h) (Or.inl ⟨by rfl, ?hyq5_5⟩) (by assumption) ?restq5_5
            case hyq5_5 => ((intro w hSw; (try dsimp only at hSw); go_simp); try (with_reducible rfl))
            try simp only [Act.put, List.setIfInBounds_toArray, List.set_cons_zero, List.set_cons_succ]
            refine wpAnyH_take (i := 6) (oi := _) (v := ?vq5_6) (by simp only [List.getElem?_toArray, List.getElem?_cons_succ, List.getElem?_cons_zero]; rfl) (by kernel_rfl) (by kernel_rfl) (by kernel_rfl) (by intro _ _ _ h; exact h) (Or.inl ⟨by rfl, ?hyq5_6⟩) (by assumption) ?restq5_6
            case hyq5_6 => ((intro w hSw; (try dsimp only at hSw); go_simp); try (with_reducible rfl))
            try simp only [Act.put, List.setIfInBounds_toArray, List.set_cons_zero, List.set_cons_succ]
            refine wpAnyH_take (i := 7) (oi := _) (v := ?vq5_7) (by simp only [List.getElem?_toArray, List.getElem?_cons_succ, List.getElem?_cons_zero]; rfl) (by kernel_rfl) (by kernel_rfl) (by kernel_rfl) (by intro _ _ _ h; exact h) (Or.inl ⟨by rfl, ?hyq5_7⟩) (by assumption) ?restq5_7
            case hyq5_7 => ((intro w hSw; (try dsimp only at hSw); go_simp); try (with_reducible rfl))
            try simp only [Act.put, List.setIfInBounds_toArray, List.set_cons_zero, List.set_cons_succ]
            refine wpAnyH_take (i := 8) (oi := _) (v := ?vq5_8) (by simp only [List.getElem?_toArray, List.getElem?_cons_succ, List.getElem?_cons_zero]; rfl) (by kernel_rfl) (by kernel_rfl) (by kernel_rfl) (by intro _ _ _ h; exact h) (Or.inl ⟨by rfl, ?hyq5_8⟩) (by assumption) ?restq5_8
            case hyq5_8 => ((intro w hSw; (try dsimp only at hSw); go_simp); try (with_reducible rfl))
            try simp only [Act.put, List.setIfInBounds_toArray, List.set_cons_zero, List.set_cons_succ]
            refine wpAnyH_take (i := 9) (oi := _) (v := ?vq5_9) (by simp only [List.getElem?_toArray, List.getElem?_cons_succ, List.getElem?_cons_zero]; rfl) (by kernel_rfl) (by kernel_rfl) (by kernel_rfl) (by intro _ _ _ h; exact h) (Or.inl ⟨by rfl, ?hyq5_9⟩) (by assumption) ?restq5_9
            case hyq5_9 => ((intro w hSw; (try dsimp only at hSw); go_simp); try (with_reducible rfl))
            try simp only [Act.put, List.setIfInBounds_toArray, List.set_cons_zero, List.set_cons_succ]
            refine wpAnyH_take (i := 10) (oi := _) (v := ?vq5_10) (by simp only [List.getElem?_toArray, List.getElem?_cons_succ, List.getElem?_cons_zero]; rfl) (by kernel_rfl) (by kernel_rfl) (by kernel_rfl) (by intro _ _ _ h; exact h) (Or.inl ⟨by rfl, ?hyq5_10⟩) (by assumption) ?restq5_10
            case hyq5_10 => ((intro w hSw; (try dsimp only at hSw); go_simp); try (with_reducible rfl))
            try simp only [Act.put, List.setIfInBounds_toArray, List.set_cons_zero, List.set_cons_succ]
            refine wpAnyH_take (i := 11) (oi := _) (v := ?vq5_11) (by simp only [List.getElem?_toArray, List.getElem?_cons_succ, List.getElem?_cons_zero]; rfl) (by kernel_rfl) (by kernel_rfl) (by kernel_rfl) (by intro _ _ _ h; exact h) (Or.inl ⟨by rfl, ?hyq5_11⟩) (by assumption) ?restq5_11
            case hyq5_11 => ((intro w hSw; (try dsimp only at hSw); go_simp); try (with_reducible rfl))
            try simp only [Act.put, List.setIfInBounds_toArray, List.set_cons_zero, List.set_cons_succ]
            refine wpAnyH_take (i := 12) (oi := _) (v := ?vq5_12) (by simp only [List.getElem?_toArray, List.getElem?_cons_succ, List.getElem?_cons_zero]; rfl) (by kernel_rfl) (by kernel_rfl) (by kernel_rfl) (by intro _ _ _ h; exact h) (Or.inl ⟨by rfl, ?hyq5_12⟩) (by assumption) ?restq5_12
            case hyq5_12 => ((intro w hSw; (try dsimp only at hSw); go_simp); try (with_reducible rfl))
            try simp only [Act.put, List.setIfInBounds_toArray, List.set_cons_zero, List.set_cons_succ]
            refine wpAnyH_take (i := 13) (oi := _) (v := ?vq5_13) (by simp only [List.getElem?_toArray, List.getElem?_cons_succ, List.getElem?_cons_zero]; rfl) (by kernel_rfl) (by kernel_rfl) (by kernel_rfl) (by intro _ _ _ h; exact h) (Or.inl ⟨by rfl, ?hyq5_13⟩) (by assumption) ?restq5_13
            case hyq5_13 => ((intro w hSw; (try dsimp only at hSw); go_simp); try (with_reducible rfl))
            try simp only [Act.put, List.setIfInBounds_toArray, List.set_cons_zero, List.set_cons_succ]
            refine wpAnyH_take (i := 14) (oi := _) (v := ?vq5_14) (by simp only [List.getElem?_toArray, List.getElem?_cons_succ, List.getElem?_cons_zero]; rfl) (by kernel_rfl) (by kernel_rfl) (by kernel_rfl) (by intro _ _ _ h; exact h) (Or.inl ⟨by rfl, ?hyq5_14⟩) (by assumption) ?restq5_14
            case hyq5_14 => ((intro w hSw; (try dsimp only at hSw); go_simp); try (with_reducible rfl))
            try simp only [Act.put, List.setIfInBounds_toArray, List.set_cons_zero, List.set_cons_succ]
            refine wpAnyH_take (i := 16) (oi := _) (v := ?vq5_16) (by simp only [List.getElem?_toArray, List.getElem?_cons_succ, List.getElem?_cons_zero]; rfl) (by kernel_rfl) (by kernel_rfl) (by kernel_rfl) (by intro _ _ _ h; exact h) (Or.inl ⟨by rfl, ?hyq5_16⟩) (by assumption) ?restq5_16
            case hyq5_16 => ((intro w hSw; (try dsimp only at hSw); go_simp); try (with_reducible rfl))
            try simp only [Act.put, List.setIfInBounds_toArray, List.set_cons_zero, List.set_cons_succ]
            refine wpAnyH_take (i := 17) (oi := _) (v := ?vq5_17) (by simp only [List.getElem?_toArray, List.getElem?_cons_succ, List.getElem?_cons_zero]; rfl) (by kernel_rfl) (by kernel_rfl) (by kernel_rfl) (by intro _ _ _ h; exact h) (Or.inl ⟨by rfl, ?hyq5_17⟩) (by assumption) ?restq5_17
            case hyq5_17 => ((intro w hSw; (try dsimp only at hSw); go_simp); try (with_reducible rfl))
            try simp only [Act.put, List.setIfInBounds_toArray, List.set_cons_zero, List.set_cons_succ]
            refine wpAnyH_take (i := 18) (oi := _) (v := ?vq5_18) (by simp only [List.getElem?_toArray, List.getElem?_cons_succ, List.getElem?_cons_zero]; rfl) (by kernel_rfl) (by kernel_rfl) (by kernel_rfl) (by intro _ _ _ h; exact h) (Or.inl ⟨by rfl, ?hyq5_18⟩) (by assumption) ?restq5_18
            case hyq5_18 => ((intro w hSw; (try dsimp only at hSw); go_simp); try (with_reducible rfl))
            try simp only [Act.put, List.setIfInBounds_toArray, List.set_cons_zero, List.set_cons_succ]
            refine wpAnyH_ready (rs := [15]) (by kernel_rfl) (by simp) ?_
            refine AllReadyH.cons rfl (fun K hK => ?_) AllReadyH.nil
            go_simp
            go_wp2_with (go_at_call 54; (with_reducible refine (CAg.out _ ⟨u, .slice a1 n1 k1, st, .slice a2 n2 k2, bo, ti⟩ HTI.out).mono ?_); rintro e w7 ⟨rfl, hbb7⟩; have hb7 := hb6.trans (hbb7.mono hb6.size))
            refine hK.out _ _ ?_ (fun hHeld2 => ?_)
            · exact ed_mk E5 D5 hb7
            clear hK K hHeld
            have hHeld := hHeld2
            clear hHeld2
            refine wpAnyH_take (i := 19) (oi := _) (v := ?vq5_19) (by simp only [List.getElem?_toArray, List.getElem?_cons_succ, List.getElem?_cons_zero]; rfl) (by kernel_rfl) (by kernel_rfl) (by kernel_rfl) (by intro _ _ _ h; exact h) (Or.inl ⟨by rfl, ?hyq5_19⟩) (by assumption) ?restq5_19
            case hyq5_19 => ((intro w hSw; (try dsimp only at hSw); go_simp); try (with_reducible rfl))
            try simp only [Act.put, List.setIfInBounds_toArray, List.set_cons_zero, List.set_cons_succ]
            refine wpAnyH_take (i := 20) (oi := _) (v := ?vq5_20) (by simp only [List.getElem?_toArray, List.getElem?_cons_succ, List.getElem?_cons_zero]; rfl) (by kernel_rfl) (by kernel_rfl) (by kernel_rfl) (by intro _ _ _ h; exact h) (Or.inl ⟨by rfl, ?hyq5_20⟩) (by assumption) ?restq5_20
            case hyq5_20 => ((intro w hSw; (try dsimp only at hSw); go_simp); try (with_reducible rfl))
            try simp only [Act.put, List.setIfInBounds_toArray, List.set_cons_zero, List.set_cons_succ]
            refine wpAnyH_take (i := 21) (oi := _) (v := ?vq5_21) (by simp only [List.getElem?_toArray, List.getElem?_cons_succ, List.getElem?_cons_zero]; rfl) (by kernel_rfl) (by kernel_rfl) (by kernel_rfl) (by intro _ _ _ h; exact h) (Or.inl ⟨by rfl, ?hyq5_21⟩) (by assumption) ?restq5_21
            case hyq5_21 => ((intro w hSw; (try dsimp only at hSw); go_simp); try (with_reducible rfl))
            try simp only [Act.put, List.setIfInBounds_toArray, List.set_cons_zero, List.set_cons_succ]
            refine wpAnyH_done (by kernel_rfl) ?_ _
            go_wp2_with fail
            go_meet
            case rel => exact ⟨rfl, hb7⟩
  case rest =>
    obtain ⟨rfl, hb6⟩ := hcut
    obtain rfl := HUT.out
    have E6 := E5.next hb6
    have R6 := R5.next hb6
    have H6 := Lib.hid (H5.out.trans (hb6.mono hz5))
    have hneR : Rb ≠ Eb := by omega
    have hRw := R6.lt
    clear z0 z1 z2 z3 z4 z5 y0 y1 y2 y3 el5 dl5 rl5
    have z0 := E6.c 0 rfl; have z1 := E6.c 1 rfl; have z2 := E6.c 2 rfl; have z3 := E6.c 3 rfl; have z4 := E6.c 4 rfl; have z5 := E6.c 5 rfl
    have r0 := R6.c 0 rfl; have r1 := R6.c 1 rfl; have r2 := R6.c 2 rfl; have r3 := R6.c 3 rfl; have r4 := R6.c 4 rfl; have r5 := R6.c 5 rfl; have r6 := R6.c 6 rfl; have r7 := R6.c 7 rfl; have g0 := R6.f 0 rfl; have g1 := R6.f 1 rfl; have g2 := R6.f 2 rfl; have g3 := R6.f 3 rfl; have g4 := R6.f 4 rfl; have g5 := R6.f 5 rfl; have g6 := R6.f 6 rfl; have g7 := R6.f 7 rfl
    have el6 := E6.lt
    go_upto_region 7 with fail
    go_region_with (first | (go_at_call 37; (with_reducible refine (CBk.out wc.drew H6.out.drew).mono ?_); rintro e w7 hq7; obtain ⟨ba, bc, rfl, hown7, hbb7⟩ := hq7; have hb7 := (Below.refl _ wc).drew.trans hbb7; have E7 := E6.next hb7; have R7 := R6.next hb7; have H7 := Lib.hid (H6.out.trans (hb7.mono H6.out.size)); clear r0 r1 r2 r3 r4 r5 r6 r7 g0 g1 g2 g3 g4 g5 g6 g7 z0 z1 z2 z3 z4 z5; have r0 := R7.c 0 rfl; have r1 := R7.c 1 rfl; have r2 := R7.c 2 rfl; have r3 := R7.c 3 rfl; have r4 := R7.c 4 rfl; have r5 := R7.c 5 rfl; have r6 := R7.c 6 rfl; have r7 := R7.c 7 rfl; have g0 := R7.f 0 rfl; have g1 := R7.f 1 rfl; have g2 := R7.f 2 rfl; have g3 := R7.f 3 rfl; have g4 := R7.f 4 rfl; have g5 := R7.f 5 rfl; have g6 := R7.f 6 rfl; have g7 := R7.f 7 rfl; have z0 := E7.c 0 rfl; have z1 := E7.c 1 rfl; have z2 := E7.c 2 rfl; have z3 := E7.c 3 rfl; have z4 := E7.c 4 rfl; have z5 := E7.c 5 rfl; have rl7 := R7.lt; have el7 := E7.lt))
    all_goals
      go_wp2_with fail
      have RF := R7.set8 rfl (.int .i64 2) (.string u) (.slice a1 n1 k1) (.int .i64 st) (.slice a2 n2 k2) (.string bo) (.int .i64 ti) (.slice none 0 0)
      have BF := below_set8 H7.out (Nat.le_of_eq HRb.out) (.int .i64 2) (.string u) (.slice a1 n1 k1) (.int .i64 st) (.slice a2 n2 k2) (.string bo) (.int .i64 ti) (.slice none 0 0)
      have OF := own_rowbut hown7 (rowbut_set8 w7 Rb (.int .i64 2) (.string u) (.slice a1 n1 k1) (.int .i64 st) (.slice a2 n2 k2) (.string bo) (.int .i64 ti) (.slice none 0 0)) (Nat.le_refl _) (by show Rb < wc.drew.heap.size; exact hRw) (fun g h => by cases h)
      exact bodyPost_ret (ret8t_run Tryz.results25 Tryz.sizeOf45 Tryz.isAgg45 _ _ Rb _ _ _ _ _ _ _ _ _ rfl rfl RF) rfl ⟨⟨u, .slice a1 n1 k1, st, .slice a2 n2 k2, bo, ti⟩, .slice none 0 0, _, rfl, HRX.out.below BF (Nat.le_refl _), slk0 _, SlK.of_own eelen OF, fun y hy => (HRD.out y (HMEM.out y hy)).below BF (Nat.le_refl _), BF⟩
end Go.Proofs.YtkobhknggamejaaGreatDoor
