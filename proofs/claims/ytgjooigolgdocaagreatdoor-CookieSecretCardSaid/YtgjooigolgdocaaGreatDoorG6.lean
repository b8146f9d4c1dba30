import Derived.Test.YtgjooigolgdocaaGreatDoorDK
import Derived.Test.YtgjooigolgdocaaGreatDoorG5
import Derived.Lib.SliceRun
/- Cookies: storing where the jar has the cookie: it is replaced. -/
namespace Go.Proofs.YtgjooigolgdocaaGreatDoor
set_option linter.unusedVariables false
set_option linter.unusedSimpArgs false
open Go.RowKit

/-- a jar with cookies: its row -/
theorem JarIn.row {w : World} {jb B : Nat} {v : Value} {l : List Ck} {nx : Int} (h : JarIn w jb B v l nx) (h0 : 0 < l.length) : ∃ g cap, v = .slice (some ⟨g, 0, none⟩) l.length cap ∧ B ≤ g ∧ g < w.heap.size ∧ g ≠ jb ∧ ∀ i (hi : i < l.length) j u, (ckL l[i])[j]? = some u → w.cell? ⟨g, i * 9 + j, none⟩ = some u := by
  obtain ⟨a, cap, hv, hc, hm, ha⟩ := own_reads h.own
  rcases ha with ⟨rfl, h1⟩ | ⟨g, rfl, hg, hgw, hcell⟩
  · omega
  · refine ⟨g, cap, hv, hg, hgw, fun e => h.ne (by rw [hv, e]; rfl), fun i hi j u hu => hcell _ _ (cellsK_get ckL_len l i hi j u hu)⟩
set_option maxRecDepth 20000 in
set_option maxHeartbeats 4000000 in
theorem store_put (c : Ck) (a b cc d e f : ByteArray) (now : Int) (w : World) (jb B : Nat) (v : Value) (l : List Ck) (nx : Int) (hJ : JarIn w jb B v l nx) (kk : Nat) (hkl : kk < l.length)
    (hid : idxI (sameB c) l = kk) (hex : exB c now = false) (hse : l[kk].se = false ∨ (l[kk].se = true ∧ a.toList = [104, 116, 116, 112, 115])) (hl : l.length < 1000) :
    Calls Tryz.prog 58 #[.pointer (some ⟨jb, 0, none⟩), ckA c, urlA a b cc d e f, .int .i64 now] w fun x w' => x = .returned (.int .i64 0) ∧ JarIn w' jb B v (l.set kk { c with cr := l[kk].cr }) nx ∧ RowBut w.heap.size jb v.ownBlock w w' := by
  obtain ⟨g, sc, rfl, hBg, hgw, hgj, hcell⟩ := hJ.row (by omega)
  have C0 := AtL.new w (ckL c) 29
  have C1 := C0.alloc (.cells (urlL a b cc d e f).toArray 23)
  have U1 := AtL.new (w.alloc (.cells (ckL c).toArray 29)) (urlL a b cc d e f) 23
  rw [show (w.alloc (.cells (ckL c).toArray 29)).heap.size = w.heap.size + 1 by simp] at U1
  have hB1 : Below w.heap.size w ((w.alloc (.cells (ckL c).toArray 29)).alloc (.cells (urlL a b cc d e f).toArray 23)) := ((Below.refl _ w).alloc (Nat.le_refl _) _).alloc (by simp) _
  have J1 := hJ.below hB1 (Nat.le_refl _)
  have hjk : w.heap.size ≠ jb := fun h => by have := hJ.at_.1; omega
  have hgk : g ≠ w.heap.size := Nat.ne_of_lt hgw
  have hBw := hJ.le
  have hBw0 := hJ.le
  have CS := Lib.hid (fun w => same_is c w)
  have CX := Lib.hid (fun (w : World) (v : Value) (k : Nat) (hv : SlK ckL 9 w v l) (hA : AtL w k (ckL c)) => idxs_is (sameB c) 97 #[.pointer (some ⟨k, 0, none⟩)] (enters_of Tryz.func97 (by kernel_rfl) rfl) l v w hv (same_pred c k w hA) (by omega) kk hid)
  have CE := Lib.hid (fun w => expired_is c now false hex w)
  have hkz : (kk : Int) < (l.length : Int) := by omega
  have hk0 : (0 : Int) ≤ (kk : Int) := by omega
  obtain ⟨y, hy⟩ : ∃ y, l[kk] = y := ⟨_, rfl⟩
  have hcy : ∀ j u, (ckL y)[j]? = some u → w.cell? ⟨g, kk * 9 + j, none⟩ = some u := fun j u hu => hcell kk hkl j u (by rw [hy]; exact hu)
  rw [hy] at hse ⊢
  have HY := Lib.hid hy
  clear C0 hid hJ hex hy hcell
  go_enter Tryz.func58, Tryz.ntmps58
  go_wp2_with fail
  obtain ⟨wA, hwA⟩ : ∃ wA : World, (w.alloc (.cells (ckL c).toArray 29)).alloc (.cells (urlL a b cc d e f).toArray 23) = wA := ⟨_, rfl⟩
  obtain ⟨I, hI⟩ : ∃ I, w.heap.size + 1 = I := ⟨_, rfl⟩
  obtain ⟨K, hK⟩ : ∃ K, w.heap.size = K := ⟨_, rfl⟩
  rw [hwA] at C1 J1 hB1 U1
  rw [hI] at U1
  rw [hK] at C1 hjk hgk hBw
  rw [hwA, hI, hK]
  have HK := Lib.hid hK
  have hcA : ∀ j u, (ckL y)[j]? = some u → wA.cell? ⟨g, kk * 9 + j, none⟩ = some u := fun j u hu => (brl hB1 _ _ hgw).trans (hcy j u hu)
  clear hwA hI hK hcy
  have S1 := s10_start J1.at_ C1
  have hjl := J1.at_.1
  have hkl1 := C1.1
  go_region_held3 (fun w' => w'.cell? ⟨jb, 0, none⟩ = some (.slice (some ⟨g, 0, none⟩) l.length sc) ∧ w'.cell? ⟨K, 0, none⟩ = some (.string c.n) ∧ w'.cell? ⟨K, 1, none⟩ = some (.string c.v) ∧ w'.cell? ⟨K, 2, none⟩ = some (.string c.d) ∧ w'.cell? ⟨K, 3, none⟩ = some (.string c.p) ∧ w'.cell? ⟨K, 4, none⟩ = some (.bool c.ho) ∧ w'.cell? ⟨K, 5, none⟩ = some (.bool c.se) ∧ w'.cell? ⟨K, 6, none⟩ = some (.bool c.hi) ∧ w'.cell? ⟨K, 7, none⟩ = some (.int .i64 c.ex) ∧ w'.cell? ⟨K, 8, none⟩ = some (.int .i64 c.cr) ∧ Below wA.heap.size wA w') (first | exact s10_next hjl hkl1 S1 (Below.refl _ wA).drew | (apply s10_next hjl hkl1; rotate_left; assumption; assumption) | go_keep)
    (first
      | (go_at_call 70; with_reducible refine (CS.out _).mono ?_; rintro x w1 ⟨rfl, hb1, hA1⟩)
      | (go_at_call 69; with_reducible refine (CX.out _ (.slice (some ⟨g, 0, none⟩) l.length sc) wA.heap.size ((J1.reads.below ((Below.refl _ wA).drew.trans hb1) (Nat.le_refl _))) (atL_drewk hA1)).mono ?_; rintro x w2 ⟨rfl, hb2⟩))
  have hB3 : Below wA.heap.size wA w2 := s10_below (by assumption)
  have hBA := hB1.trans (hB3.mono (by rw [HK.out]; omega))
  have J3 := J1.below hB3 (Nat.le_refl _)
  have C3 := C1.below hB3 C1.lt
  have hc3 : ∀ j u, (ckL y)[j]? = some u → w2.cell? ⟨g, kk * 9 + j, none⟩ = some u := fun j u hu => (brl hB3 _ _ (cell_lt (hcA j u hu))).trans (hcA j u hu)
  have U3 := U1.below hB3 U1.lt
  have u0 := U3.c 0 rfl; have u1 := U3.c 1 rfl; have u2 := U3.c 2 rfl; have u3 := U3.c 3 rfl; have u4 := U3.c 4 rfl; have u5 := U3.c 5 rfl
  have hul3 := U3.lt
  have y5 := hc3 5 _ rfl
  have j0 := J3.at_.c 0 rfl
  have z0 := C3.c 0 rfl; have z1 := C3.c 1 rfl; have z2 := C3.c 2 rfl; have z3 := C3.c 3 rfl; have z4 := C3.c 4 rfl; have z5 := C3.c 5 rfl; have z6 := C3.c 6 rfl; have z7 := C3.c 7 rfl; have z8 := C3.c 8 rfl
  have hjl3 := J3.at_.lt
  have hkl3 := C3.lt
  rcases hse with hse | ⟨hse, hs2⟩
  · rw [hse] at y5
    clear hb1 hb2 hA1
    go_wp2_with (go_at_call 60; with_reducible refine (CE.out _).mono ?_; rintro x w3 ⟨rfl, hb3⟩; have J4 := J3.below hb3 (Nat.le_refl _); have C4 := C3.next hb3; have z0 := C4.c 0 rfl; have z1 := C4.c 1 rfl; have z2 := C4.c 2 rfl; have z3 := C4.c 3 rfl; have z4 := C4.c 4 rfl; have z5 := C4.c 5 rfl; have z6 := C4.c 6 rfl; have z7 := C4.c 7 rfl; have z8 := C4.c 8 rfl; have f0 := C4.f 0 rfl; have f1 := C4.f 1 rfl; have f2 := C4.f 2 rfl; have f3 := C4.f 3 rfl; have f4 := C4.f 4 rfl; have f5 := C4.f 5 rfl; have f6 := C4.f 6 rfl; have f7 := C4.f 7 rfl; have f8 := C4.f 8 rfl; have q0 := J4.at_.c 0 rfl; have kl4 := C4.lt; have jl4 := J4.at_.lt; have y8 := (brl hb3 _ _ (cell_lt (hc3 8 _ rfl))).trans (hc3 8 _ rfl))
    have CF : AtL (w3.setCell ⟨K, 8, none⟩ (.int .i64 y.cr)) K (ckL { c with cr := y.cr }) := C4.set 8 (.int .i64 y.cr)
    have hvK : (Value.slice (some ⟨g, 0, none⟩) l.length sc).ownBlock ≠ some K := by simp only [Value.ownBlock, ne_eq, Option.some.injEq]; exact hgk
    have JF : JarIn (w3.setCell ⟨K, 8, none⟩ (.int .i64 y.cr)) jb B (.slice (some ⟨g, 0, none⟩) l.length sc) l nx := ⟨J4.at_.far ⟨K, 8, none⟩ _ hjk, ownsRow_setCell_other (a := ⟨K, 8, none⟩) J4.own hvK _, J4.ne, by rw [World.size_setCell]; exact J4.le⟩
    have hcF : ∀ j u, (ckL y)[j]? = some u → (w3.setCell ⟨K, 8, none⟩ (.int .i64 y.cr)).cell? ⟨g, kk * 9 + j, none⟩ = some u := fun j u hu => (World.cell?_setCell_other w3 _ _ _ (fun q => hgk (congrArg Addr.block q).symm)).trans ((brl hb3 _ _ (cell_lt (hc3 j u hu))).trans (hc3 j u hu))
    have hbF : RowBut K jb (some g) w (w3.setCell ⟨K, 8, none⟩ (.int .i64 y.cr)) := (((RowBut.refl K jb (some g) w).below hBA (Nat.le_of_eq HK.out.symm)).below hb3 (Nat.le_of_lt hkl3)).setCell ⟨K, 8, none⟩ (Or.inr (Or.inr (Nat.le_refl _))) _
    obtain ⟨wF, hwF⟩ : ∃ wF : World, w3.setCell ⟨K, 8, none⟩ (.int .i64 y.cr) = wF := ⟨_, rfl⟩
    rw [hwF] at CF JF hcF hbF
    rw [hwF]
    clear hwF z0 z1 z2 z3 z4 z5 z6 z7 z8 f0 f1 f2 f3 f4 f5 f6 f7 f8 q0 y5 y8 j0
    have z0 := CF.c 0 rfl; have z1 := CF.c 1 rfl; have z2 := CF.c 2 rfl; have z3 := CF.c 3 rfl; have z4 := CF.c 4 rfl; have z5 := CF.c 5 rfl; have z6 := CF.c 6 rfl; have z7 := CF.c 7 rfl; have z8 := CF.c 8 rfl
    have q0 := JF.at_.c 0 rfl
    have kF := CF.lt
    have jF := JF.at_.lt
    have r0 := hcF 0 _ rfl
    have r1 := hcF 1 _ rfl
    have r2 := hcF 2 _ rfl
    have r3 := hcF 3 _ rfl
    have r4 := hcF 4 _ rfl
    have r5 := hcF 5 _ rfl
    have r6 := hcF 6 _ rfl
    have r7 := hcF 7 _ rfl
    have r8 := hcF 8 _ rfl
    simp only [Nat.add_zero] at r0
    have g0 := own_free JF.own (kk * 9)
    have g1 := own_free JF.own (kk * 9 + 1)
    have g2 := own_free JF.own (kk * 9 + 2)
    have g3 := own_free JF.own (kk * 9 + 3)
    have g4 := own_free JF.own (kk * 9 + 4)
    have g5 := own_free JF.own (kk * 9 + 5)
    have g6 := own_free JF.own (kk * 9 + 6)
    have g7 := own_free JF.own (kk * 9 + 7)
    have g8 := own_free JF.own (kk * 9 + 8)
    clear hcF hc3 hcA
    go_region
    all_goals
      go_wp2_with fail
      have h1 := own_put9 JF.own kk hkl { c with cr := y.cr }
      have h2 : JarIn (put9 wF g (kk * 9) { c with cr := y.cr }) jb B (.slice (some ⟨g, 0, none⟩) l.length sc) (l.set kk { c with cr := y.cr }) nx :=
        ⟨(((((((((JF.at_.far ⟨g, kk * 9, none⟩ _ hgj).far ⟨g, kk * 9 + 1, none⟩ _ hgj).far ⟨g, kk * 9 + 2, none⟩ _ hgj).far ⟨g, kk * 9 + 3, none⟩ _ hgj).far ⟨g, kk * 9 + 4, none⟩ _ hgj).far ⟨g, kk * 9 + 5, none⟩ _ hgj).far ⟨g, kk * 9 + 6, none⟩ _ hgj).far ⟨g, kk * 9 + 7, none⟩ _ hgj).far ⟨g, kk * 9 + 8, none⟩ _ hgj), by rw [List.length_set]; exact h1, JF.ne, by simp only [put9, World.size_setCell]; exact JF.le⟩
      have h3 : RowBut K jb (some g) w (put9 wF g (kk * 9) { c with cr := y.cr }) := ((((((((hbF.setCell ⟨g, kk * 9, none⟩ (Or.inr (Or.inl rfl)) _).setCell ⟨g, kk * 9 + 1, none⟩ (Or.inr (Or.inl rfl)) _).setCell ⟨g, kk * 9 + 2, none⟩ (Or.inr (Or.inl rfl)) _).setCell ⟨g, kk * 9 + 3, none⟩ (Or.inr (Or.inl rfl)) _).setCell ⟨g, kk * 9 + 4, none⟩ (Or.inr (Or.inl rfl)) _).setCell ⟨g, kk * 9 + 5, none⟩ (Or.inr (Or.inl rfl)) _).setCell ⟨g, kk * 9 + 6, none⟩ (Or.inr (Or.inl rfl)) _).setCell ⟨g, kk * 9 + 7, none⟩ (Or.inr (Or.inl rfl)) _).setCell ⟨g, kk * 9 + 8, none⟩ (Or.inr (Or.inl rfl)) _
      have h4 : K ≤ (put9 wF g (kk * 9) { c with cr := y.cr }).heap.size := by simp only [put9, World.size_setCell]; exact Nat.le_of_lt kF
      have h5 := h3.below (Below.refl _ _).drew h4
      rw [← HK.out] at h5
      go_ret
      exact ⟨rfl, h2.below (Below.refl _ _).drew (Nat.le_refl _), h5⟩
  · rw [hse] at y5
    clear hb1 hb2 hA1
    go_wp2_with (go_at_call 60; with_reducible refine (CE.out _).mono ?_; rintro x w3 ⟨rfl, hb3⟩; have J4 := J3.below hb3 (Nat.le_refl _); have C4 := C3.next hb3; have z0 := C4.c 0 rfl; have z1 := C4.c 1 rfl; have z2 := C4.c 2 rfl; have z3 := C4.c 3 rfl; have z4 := C4.c 4 rfl; have z5 := C4.c 5 rfl; have z6 := C4.c 6 rfl; have z7 := C4.c 7 rfl; have z8 := C4.c 8 rfl; have f0 := C4.f 0 rfl; have f1 := C4.f 1 rfl; have f2 := C4.f 2 rfl; have f3 := C4.f 3 rfl; have f4 := C4.f 4 rfl; have f5 := C4.f 5 rfl; have f6 := C4.f 6 rfl; have f7 := C4.f 7 rfl; have f8 := C4.f 8 rfl; have q0 := J4.at_.c 0 rfl; have kl4 := C4.lt; have jl4 := J4.at_.lt; have y8 := (brl hb3 _ _ (cell_lt (hc3 8 _ rfl))).trans (hc3 8 _ rfl))
    have CF : AtL (w3.setCell ⟨K, 8, none⟩ (.int .i64 y.cr)) K (ckL { c with cr := y.cr }) := C4.set 8 (.int .i64 y.cr)
    have hvK : (Value.slice (some ⟨g, 0, none⟩) l.length sc).ownBlock ≠ some K := by simp only [Value.ownBlock, ne_eq, Option.some.injEq]; exact hgk
    have JF : JarIn (w3.setCell ⟨K, 8, none⟩ (.int .i64 y.cr)) jb B (.slice (some ⟨g, 0, none⟩) l.length sc) l nx := ⟨J4.at_.far ⟨K, 8, none⟩ _ hjk, ownsRow_setCell_other (a := ⟨K, 8, none⟩) J4.own hvK _, J4.ne, by rw [World.size_setCell]; exact J4.le⟩
    have hcF : ∀ j u, (ckL y)[j]? = some u → (w3.setCell ⟨K, 8, none⟩ (.int .i64 y.cr)).cell? ⟨g, kk * 9 + j, none⟩ = some u := fun j u hu => (World.cell?_setCell_other w3 _ _ _ (fun q => hgk (congrArg Addr.block q).symm)).trans ((brl hb3 _ _ (cell_lt (hc3 j u hu))).trans (hc3 j u hu))
    have hbF : RowBut K jb (some g) w (w3.setCell ⟨K, 8, none⟩ (.int .i64 y.cr)) := (((RowBut.refl K jb (some g) w).below hBA (Nat.le_of_eq HK.out.symm)).below hb3 (Nat.le_of_lt hkl3)).setCell ⟨K, 8, none⟩ (Or.inr (Or.inr (Nat.le_refl _))) _
    obtain ⟨wF, hwF⟩ : ∃ wF : World, w3.setCell ⟨K, 8, none⟩ (.int .i64 y.cr) = wF := ⟨_, rfl⟩
    rw [hwF] at CF JF hcF hbF
    rw [hwF]
    clear hwF z0 z1 z2 z3 z4 z5 z6 z7 z8 f0 f1 f2 f3 f4 f5 f6 f7 f8 q0 y5 y8 j0
    have z0 := CF.c 0 rfl; have z1 := CF.c 1 rfl; have z2 := CF.c 2 rfl; have z3 := CF.c 3 rfl; have z4 := CF.c 4 rfl; have z5 := CF.c 5 rfl; have z6 := CF.c 6 rfl; have z7 := CF.c 7 rfl; have z8 := CF.c 8 rfl
    have q0 := JF.at_.c 0 rfl
    have kF := CF.lt
    have jF := JF.at_.lt
    have r0 := hcF 0 _ rfl
    have r1 := hcF 1 _ rfl
    have r2 := hcF 2 _ rfl
    have r3 := hcF 3 _ rfl
    have r4 := hcF 4 _ rfl
    have r5 := hcF 5 _ rfl
    have r6 := hcF 6 _ rfl
    have r7 := hcF 7 _ rfl
    have r8 := hcF 8 _ rfl
    simp only [Nat.add_zero] at r0
    have g0 := own_free JF.own (kk * 9)
    have g1 := own_free JF.own (kk * 9 + 1)
    have g2 := own_free JF.own (kk * 9 + 2)
    have g3 := own_free JF.own (kk * 9 + 3)
    have g4 := own_free JF.own (kk * 9 + 4)
    have g5 := own_free JF.own (kk * 9 + 5)
    have g6 := own_free JF.own (kk * 9 + 6)
    have g7 := own_free JF.own (kk * 9 + 7)
    have g8 := own_free JF.own (kk * 9 + 8)
    clear hcF hc3 hcA
    go_region
    all_goals
      go_wp2_with fail
      have h1 := own_put9 JF.own kk hkl { c with cr := y.cr }
      have h2 : JarIn (put9 wF g (kk * 9) { c with cr := y.cr }) jb B (.slice (some ⟨g, 0, none⟩) l.length sc) (l.set kk { c with cr := y.cr }) nx :=
        ⟨(((((((((JF.at_.far ⟨g, kk * 9, none⟩ _ hgj).far ⟨g, kk * 9 + 1, none⟩ _ hgj).far ⟨g, kk * 9 + 2, none⟩ _ hgj).far ⟨g, kk * 9 + 3, none⟩ _ hgj).far ⟨g, kk * 9 + 4, none⟩ _ hgj).far ⟨g, kk * 9 + 5, none⟩ _ hgj).far ⟨g, kk * 9 + 6, none⟩ _ hgj).far ⟨g, kk * 9 + 7, none⟩ _ hgj).far ⟨g, kk * 9 + 8, none⟩ _ hgj), by rw [List.length_set]; exact h1, JF.ne, by simp only [put9, World.size_setCell]; exact JF.le⟩
      have h3 : RowBut K jb (some g) w (put9 wF g (kk * 9) { c with cr := y.cr }) := ((((((((hbF.setCell ⟨g, kk * 9, none⟩ (Or.inr (Or.inl rfl)) _).setCell ⟨g, kk * 9 + 1, none⟩ (Or.inr (Or.inl rfl)) _).setCell ⟨g, kk * 9 + 2, none⟩ (Or.inr (Or.inl rfl)) _).setCell ⟨g, kk * 9 + 3, none⟩ (Or.inr (Or.inl rfl)) _).setCell ⟨g, kk * 9 + 4, none⟩ (Or.inr (Or.inl rfl)) _).setCell ⟨g, kk * 9 + 5, none⟩ (Or.inr (Or.inl rfl)) _).setCell ⟨g, kk * 9 + 6, none⟩ (Or.inr (Or.inl rfl)) _).setCell ⟨g, kk * 9 + 7, none⟩ (Or.inr (Or.inl rfl)) _).setCell ⟨g, kk * 9 + 8, none⟩ (Or.inr (Or.inl rfl)) _
      have h4 : K ≤ (put9 wF g (kk * 9) { c with cr := y.cr }).heap.size := by simp only [put9, World.size_setCell]; exact Nat.le_of_lt kF
      have h5 := h3.below (Below.refl _ _).drew h4
      rw [← HK.out] at h5
      go_ret
      exact ⟨rfl, h2.below (Below.refl _ _).drew (Nat.le_refl _), h5⟩
end Go.Proofs.YtgjooigolgdocaaGreatDoor

/- Rows of structs: the builtin clear; a row that is cut short. -/
namespace Go.Proofs.YtgjooigolgdocaaGreatDoor
set_option linter.unusedVariables false
set_option linter.unusedSimpArgs false
open Go.RowKit

/-- cells written into an owned row behind o: a row again, the same up to o -/
theorem own_setCells {b e s n g cap : Nat} : ∀ (vs : List Value) (o : Nat) (w : World) (xs : List Value), w.ownsRow b e s (.slice (some ⟨g, 0, none⟩) n cap) n xs → o + vs.length ≤ n * s →
    ∃ xs', (w.setCells g o vs).ownsRow b e s (.slice (some ⟨g, 0, none⟩) n cap) n xs' ∧ xs'.take o = xs.take o := by
  intro vs
  induction vs with
  | nil => intro o w xs h _; exact ⟨xs, h, rfl⟩
  | cons v r ih =>
    intro o w xs h ho
    rw [List.length_cons] at ho
    obtain ⟨xs', h1, h2⟩ := ih (o + 1) _ _ (own_set h o v (by omega)) (by omega)
    refine ⟨xs', h1, ?_⟩
    have h3 := congrArg (List.take o) h2
    rw [List.take_take, List.take_take, Nat.min_eq_left (by omega), List.take_set, List.set_eq_of_length_le (by simp; omega)] at h3
    exact h3
/-- an owned row, cut to its first m elements -/
theorem own_cut {w : World} {b e s n g cap : Nat} {xs : List Value} (h : w.ownsRow b e s (.slice (some ⟨g, 0, none⟩) n cap) n xs) (m : Nat) (hm : m ≤ n) :
    w.ownsRow b e s (.slice (some ⟨g, 0, none⟩) m cap) m (xs.take (m * s)) := by
  obtain ⟨h1, h2⟩ := h
  have hms : m * s ≤ n * s := Nat.mul_le_mul_right s hm
  refine ⟨by rw [List.length_take, h1, Nat.min_eq_left hms], .inr ?_⟩
  rcases h2 with ⟨h2, _⟩ | ⟨g', cap', cur, hv, hg, hh, hc, hcm, hs, ht⟩
  · cases h2
  · injection hv with e1 e2 e3
    injection e1 with e1
    injection e1 with e1
    subst e1 e3
    exact ⟨g, cap, cur, rfl, hg, hh, Nat.le_trans hm hc, hcm, hs, by rw [← ht, List.take_take, Nat.min_eq_left hms]⟩
/-- clear on a slice of n > 0 structs -/
theorem run_clearK {P : Program} (w : World) (t e ty : TypeId) (z : Value) (k : Nat) (ht : P.underlying t = some (.slice e)) (hv : ∀ w, (zeroValue e).run P w = .ok z w) (hz : z.cells.size = k) (h1 : ∀ v ∈ z.cells.toList, v.oneCell' = true) (b o n c : Nat) (hn : 0 < n) (hk : 0 < k)
    (hc : ∀ j, j < n * k → (w.cell? ⟨b, o + j, none⟩).isSome = true) (hf : ∀ j, j < n * k → w.frozen? ⟨b, o + j, none⟩ = false) :
    ∃ vs : List Value, vs.length = n * k ∧ (Builtin.clear_ #[t] ty #[.slice (some ⟨b, o, none⟩) n c]).run P w = .ok (.tuple #[]) (w.setCells b o vs) := by
  refine ⟨(Builtin.zeroCells z.cells n).toList, by simp [Builtin.zeroCells, hz], ?_⟩
  have hl : (Builtin.zeroCells z.cells n).toList.length = n * k := by simp [Builtin.zeroCells, hz]
  have hst := run_storeCells_cells (P := P) b o (Builtin.zeroCells z.cells n).toList 0 w (by rw [hl]; simpa using hc) (by rw [hl]; simpa using hf) (by
    intro v hv'
    simp only [Builtin.zeroCells, Array.toList_map, List.mem_map] at hv'
    obtain ⟨i, _, rfl⟩ := hv'
    have hi : i % z.cells.size < z.cells.size := Nat.mod_lt _ (by omega)
    rw [getElem!_pos z.cells _ hi]
    exact h1 _ (by simp))
  simp only [Nat.add_zero] at hst
  obtain ⟨m, rfl⟩ : ∃ m, n = m + 1 := ⟨n - 1, by omega⟩
  simp [Builtin.clear_, run_underlying ht, hv, hst]
end Go.Proofs.YtgjooigolgdocaaGreatDoor

/- slices.DeleteFunc on an owned row of cookies, where something is to be deleted. -/
namespace Go.Proofs.YtgjooigolgdocaaGreatDoor
set_option linter.unusedVariables false
set_option linter.unusedSimpArgs false
open Go.RowKit

theorem own_row_cells {w : World} {b e g cap : Nat} {l : List Ck} (h : w.ownsRow b e 9 (.slice (some ⟨g, 0, none⟩) l.length cap) l.length (cellsK ckL l)) (h0 : 0 < l.length) : b ≤ g ∧ g < w.heap.size ∧ ∀ i (hi : i < l.length) j u, (ckL l[i])[j]? = some u → w.cell? ⟨g, i * 9 + j, none⟩ = some u := by
  obtain ⟨a, cap', hv, hc, hm, ha⟩ := own_reads h
  injection hv with e1 e2 e3
  rcases ha with ⟨rfl, h1⟩ | ⟨g', rfl, hg, hgw, hcell⟩
  · omega
  · injection e1 with e1
    injection e1 with e1
    subst e1
    exact ⟨hg, hgw, fun i hi j u hu => hcell _ _ (cellsK_get ckL_len l i hi j u hu)⟩
theorem filt_start (p : Ck → Bool) (l : List Ck) (k : Nat) (h : idxI p l = k) : ∃ hk : k < l.length, p l[k] = true ∧ (l.take (k + 1)).filter (fun c => !p c) = l.take k := by
  unfold idxI at h
  by_cases ha : l.any p
  · rw [if_pos ha] at h
    have hk : l.findIdx p = k := by omega
    have hlt : k < l.length := by
      rw [← hk]
      obtain ⟨x, hx, hp⟩ := List.any_eq_true.1 ha
      exact List.findIdx_lt_length_of_exists ⟨x, hx, hp⟩
    have h2 := (List.findIdx_eq hlt).1 hk
    refine ⟨hlt, h2.1, ?_⟩
    rw [List.take_succ_eq_append_getElem hlt, List.filter_append]
    have e1 : (l.take k).filter (fun c => !p c) = l.take k := by
      rw [List.filter_eq_self]
      intro a ha
      obtain ⟨i, hi, rfl⟩ := List.getElem_of_mem ha
      rw [List.length_take] at hi
      rw [List.getElem_take, h2.2 i (by omega)]
      rfl
    rw [e1]
    simp [h2.1]
  · rw [if_neg ha] at h
    omega
theorem zero_run {P : Program} {t : TypeId} {z : Value} (h : (P.info? t).map (fun i => i.zero) = some (some z)) (w : World) : (zeroValue t).run P w = .ok z w := by
  cases hi : P.info? t with
  | none => rw [hi] at h; cases h
  | some i =>
    rw [hi] at h
    have hz : i.zero = some z := by simpa using h
    simp [zeroValue, typeInfo, hi, hz]
theorem cellsK_take (l : List Ck) (i : Nat) (hi : i ≤ l.length) : (cellsK ckL l).take (i * 9) = cellsK ckL (l.take i) := by
  conv => lhs; rw [← List.take_append_drop i l, cellsK_app]
  rw [List.take_left' (by rw [cellsK_len ckL_len, List.length_take, Nat.min_eq_left hi])]
theorem BelowBut.setCells {B b : Nat} {W : World} : ∀ (vs : List Value) (o : Nat) (w : World), BelowBut B b W w → BelowBut B b W (w.setCells b o vs) := by
  intro vs
  induction vs with
  | nil => intro o w h; exact h
  | cons v r ih => intro o w h; exact ih (o + 1) _ (h.setCell ⟨b, o, none⟩ (Or.inl rfl) v)
set_option maxRecDepth 20000 in
set_option maxHeartbeats 4000000 in
theorem del_some (p : Ck → Bool) (gf : Nat) (cb : Array Value) (eg : ∀ args w, (callFunc gf args).run Tryz.prog w = .ok (.enter gf args) w) (l : List Ck) (g cap K : Nat) (vs : List Value) (w : World) (B : Nat)
    (hown : w.ownsRow B 29 9 (.slice (some ⟨g, 0, none⟩) l.length cap) l.length (cellsK ckL l)) (hA : AtL w K vs) (hgK : g ≠ K)
    (hp : ∀ W d, AtL W K vs → Calls Tryz.prog gf (#[ckA d] ++ cb) W fun e W' => e = .returned (.bool (p d)) ∧ Below W.heap.size W W')
    (hn : l.length ≤ 1000) (k : Nat) (hR : idxI p l = k) :
    Calls Tryz.prog 66 #[.slice (some ⟨g, 0, none⟩) l.length cap, .func (.func gf) #[] cb] w fun e w' =>
      e = .returned (.slice (some ⟨g, 0, none⟩) (l.filter (fun c => !p c)).length cap) ∧ w'.ownsRow B 29 9 (.slice (some ⟨g, 0, none⟩) (l.filter (fun c => !p c)).length cap) (l.filter (fun c => !p c)).length (cellsK ckL (l.filter (fun c => !p c))) ∧ BelowBut w.heap.size g w w' := by
  obtain ⟨hkl, hpk, hfk⟩ := filt_start p l k hR
  have CX := Lib.hid (idxs_is p gf cb eg l _ w (SlK.of_own ckL_len hown) (fun W d hb => (hp W d (hA.next hb)).mono fun e W' h => ⟨h.1, hb.trans (h.2.mono hb.size)⟩) (by omega) k hR)
  have HP := Lib.hid hp
  have hk1 : ((k : Int) == -1) = false := beq_eq_false_iff_ne.2 (by omega)
  clear hp hR
  go_enter Tryz.func66, Tryz.ntmps66
  go_wp2_with (go_at_call 69; with_reducible refine CX.out.mono ?_; rintro x w1 ⟨rfl, hb1⟩)
  have hown1 := own_below hown hb1 (Nat.le_refl _)
  have hA1 := hA.next hb1
  have hbb1 : BelowBut w.heap.size g w w1 := (BelowBut.refl _ g w).below hb1 (Nat.le_refl _)
  go_loopw [5, 6] (fun iv jv wr => ∃ (i j : Nat) (M : List Ck), i < j ∧ j ≤ l.length ∧ iv = .int .i64 i ∧ jv = .int .i64 j ∧ M.length = l.length ∧ M.take i = (l.take j).filter (fun c => !p c) ∧ M.drop j = l.drop j ∧ wr.ownsRow B 29 9 (.slice (some ⟨g, 0, none⟩) l.length cap) l.length (cellsK ckL M) ∧ AtL wr K vs ∧ BelowBut w.heap.size g w wr) (fun _ jv _ => l.length - (intOf jv).toNat)
  case atStart => exact ⟨k, k + 1, l, by omega, by omega, rfl, by go_num, rfl, hfk.symm, rfl, hown1, hA1, hbb1⟩
  case round =>
    obtain ⟨i, j, M, hij, hjl, rfl, rfl, hM, hMi, hMj, ho, hA2, hbb⟩ := hrel
    by_cases hlt : j < l.length
    · have ho' : wr.ownsRow B 29 9 (.slice (some ⟨g, 0, none⟩) M.length cap) M.length (cellsK ckL M) := by rw [hM]; exact ho
      obtain ⟨hBg, hgw, hcell⟩ := own_row_cells ho' (by omega)
      have hfree := own_free ho
      have hy0 : M[j]'(by omega) = l[j] := by
        have e := congrArg List.head? hMj
        rw [List.head?_drop, List.head?_drop, List.getElem?_eq_getElem (by omega), List.getElem?_eq_getElem hlt] at e
        exact Option.some.inj e
      have cc : ∀ q u, (ckL l[j])[q]? = some u → wr.cell? ⟨g, j * 9 + q, none⟩ = some u := fun q u hu => hcell j (by omega) q u (by rw [hy0]; exact hu)
      have hdrop : M.drop (j + 1) = l.drop (j + 1) := by
        have e := congrArg (List.drop 1) hMj
        rwa [List.drop_drop, List.drop_drop] at e
      have hfil : (l.take (j + 1)).filter (fun c => !p c) = (l.take j).filter (fun c => !p c) ++ (if p l[j] then [] else [l[j]]) := by
        rw [List.take_succ_eq_append_getElem hlt, List.filter_append]
        cases hq : p l[j] <;> simp [hq]
      obtain ⟨y, hy⟩ : ∃ y, l[j] = y := ⟨_, rfl⟩
      rw [hy] at cc hfil hy0
      have HY := Lib.hid hy
      have HC := Lib.hid cc
      clear hy hcell
      obtain ⟨yn, yv, yd, yp, yho, yse, yhi, yex, ycr⟩ := y
      have c0 := cc 0 _ rfl
      have c1 := cc 1 _ rfl
      have c2 := cc 2 _ rfl
      have c3 := cc 3 _ rfl
      have c4 := cc 4 _ rfl
      have c5 := cc 5 _ rfl
      have c6 := cc 6 _ rfl
      have c7 := cc 7 _ rfl
      have c8 := cc 8 _ rfl
      simp only [Nat.add_zero] at c0
      have YA := AtL.new wr (ckL ⟨yn, yv, yd, yp, yho, yse, yhi, yex, ycr⟩) 29
      have hAa := hA2.alloc (.cells (ckL ⟨yn, yv, yd, yp, yho, yse, yhi, yex, ycr⟩).toArray 29)
      have hcall := HP.out _ ⟨yn, yv, yd, yp, yho, yse, yhi, yex, ycr⟩ hAa
      have hBwr : w.heap.size ≤ wr.heap.size := hbb.size
      have hbA : Below wr.heap.size wr (wr.alloc (.cells (ckL ⟨yn, yv, yd, yp, yho, yse, yhi, yex, ycr⟩).toArray 29)) := (Below.refl _ wr).alloc (Nat.le_refl _) _
      have hji : (j : Int) < (l.length : Int) := by omega
      have hii : (i : Int) < (l.length : Int) := by omega
      have hIc := (own_row_cells ho' (by omega)).2.2 i (by omega)
      have HIc := Lib.hid hIc
      have HMi := Lib.hid hMi
      clear cc hIc hMi
      cases hq : p ⟨yn, yv, yd, yp, yho, yse, yhi, yex, ycr⟩ with
      | true =>
        rw [hq] at hcall hfil
        have HCall := Lib.hid hcall
        have HF := Lib.hid hfil
        clear hcall hfil hq
        go_wp2_with (go_at_fn gf; refine HCall.out.mono ?_; rintro e w' ⟨rfl, hb'⟩)
        go_roundw
        case rel =>
          have hbt := hbA.trans (hb'.mono hbA.size)
          exact ⟨i, j + 1, M, by omega, by omega, rfl, by go_num, hM, by rw [HMi.out, HF.out]; simp, hdrop, own_below ho hbt (Nat.le_refl _), hA2.next hbt, hbb.below hbt hbb.size⟩
        case measure => simp [intOf]; omega
      | false =>
        rw [hq] at hcall hfil
        have HCall := Lib.hid hcall
        have HF := Lib.hid hfil
        clear hcall hfil hq
        go_wp2_with (go_at_fn gf; refine HCall.out.mono ?_; rintro e w' ⟨rfl, hb'⟩; have hbt := hbA.trans (hb'.mono hbA.size); have Y2 := YA.next hb'; have z0 := Y2.c 0 rfl; have z1 := Y2.c 1 rfl; have z2 := Y2.c 2 rfl; have z3 := Y2.c 3 rfl; have z4 := Y2.c 4 rfl; have z5 := Y2.c 5 rfl; have z6 := Y2.c 6 rfl; have z7 := Y2.c 7 rfl; have z8 := Y2.c 8 rfl; have hzl := Y2.lt; have o2 := own_below ho hbt (Nat.le_refl _); have r0 := (brl hbt _ _ hgw).trans (HIc.out 0 _ rfl); have r1 := (brl hbt _ _ hgw).trans (HIc.out 1 _ rfl); have r2 := (brl hbt _ _ hgw).trans (HIc.out 2 _ rfl); have r3 := (brl hbt _ _ hgw).trans (HIc.out 3 _ rfl); have r4 := (brl hbt _ _ hgw).trans (HIc.out 4 _ rfl); have r5 := (brl hbt _ _ hgw).trans (HIc.out 5 _ rfl); have r6 := (brl hbt _ _ hgw).trans (HIc.out 6 _ rfl); have r7 := (brl hbt _ _ hgw).trans (HIc.out 7 _ rfl); have r8 := (brl hbt _ _ hgw).trans (HIc.out 8 _ rfl); simp only [Nat.add_zero] at r0; have f0 := own_free o2 (i * 9); have f1 := own_free o2 (i * 9 + 1); have f2 := own_free o2 (i * 9 + 2); have f3 := own_free o2 (i * 9 + 3); have f4 := own_free o2 (i * 9 + 4); have f5 := own_free o2 (i * 9 + 5); have f6 := own_free o2 (i * 9 + 6); have f7 := own_free o2 (i * 9 + 7); have f8 := own_free o2 (i * 9 + 8))
        go_roundw
        case rel =>
          have o3 : w'.ownsRow B 29 9 (.slice (some ⟨g, 0, none⟩) M.length cap) M.length (cellsK ckL M) := by rw [hM]; exact o2
          have o4 := own_put9 o3 i (by omega) ⟨yn, yv, yd, yp, yho, yse, yhi, yex, ycr⟩
          rw [hM] at o4
          have hA3 := hA2.next hbt
          have hA4 : AtL (put9 w' g (i * 9) ⟨yn, yv, yd, yp, yho, yse, yhi, yex, ycr⟩) K vs := ((((((((hA3.far ⟨g, i * 9, none⟩ _ hgK).far ⟨g, i * 9 + 1, none⟩ _ hgK).far ⟨g, i * 9 + 2, none⟩ _ hgK).far ⟨g, i * 9 + 3, none⟩ _ hgK).far ⟨g, i * 9 + 4, none⟩ _ hgK).far ⟨g, i * 9 + 5, none⟩ _ hgK).far ⟨g, i * 9 + 6, none⟩ _ hgK).far ⟨g, i * 9 + 7, none⟩ _ hgK).far ⟨g, i * 9 + 8, none⟩ _ hgK
          have hb3 := hbb.below hbt hbb.size
          have hb4 : BelowBut w.heap.size g w (put9 w' g (i * 9) ⟨yn, yv, yd, yp, yho, yse, yhi, yex, ycr⟩) := ((((((((hb3.setCell ⟨g, i * 9, none⟩ (Or.inl rfl) _).setCell ⟨g, i * 9 + 1, none⟩ (Or.inl rfl) _).setCell ⟨g, i * 9 + 2, none⟩ (Or.inl rfl) _).setCell ⟨g, i * 9 + 3, none⟩ (Or.inl rfl) _).setCell ⟨g, i * 9 + 4, none⟩ (Or.inl rfl) _).setCell ⟨g, i * 9 + 5, none⟩ (Or.inl rfl) _).setCell ⟨g, i * 9 + 6, none⟩ (Or.inl rfl) _).setCell ⟨g, i * 9 + 7, none⟩ (Or.inl rfl) _).setCell ⟨g, i * 9 + 8, none⟩ (Or.inl rfl) _
          refine ⟨i + 1, j + 1, M.set i ⟨yn, yv, yd, yp, yho, yse, yhi, yex, ycr⟩, by omega, by omega, by go_num, by go_num, by rw [List.length_set]; exact hM, ?_, ?_, o4, hA4, hb4⟩
          · rw [HF.out, ← HMi.out, List.take_succ_eq_append_getElem (by rw [List.length_set]; omega)]
            simp [List.take_set_of_le]
          · rw [← hdrop, List.drop_set_of_lt (by omega)]
        case measure => simp [intOf]; omega
    · obtain rfl : j = l.length := by omega
      have ho' : wr.ownsRow B 29 9 (.slice (some ⟨g, 0, none⟩) M.length cap) M.length (cellsK ckL M) := by rw [hM]; exact ho
      have hin : (i : Int) ≤ (l.length : Int) := by omega
      have hcap : l.length ≤ cap := by
        obtain ⟨a2, c2, hv2, hc2, _, _⟩ := own_reads ho
        injection hv2 with _ _ e3
        omega
      have hic : (i : Int) ≤ (cap : Int) := by omega
      have hlc : (l.length : Int) ≤ (cap : Int) := by omega
      have hic' : ¬ cap = i := by omega
      have hfil : (l.filter (fun c => !p c)).length = i := by
        have e := congrArg List.length hMi
        rw [List.take_length, List.length_take, hM, Nat.min_eq_left (by omega)] at e
        exact e.symm
      have hfr : ∀ j, j < (l.length - i) * 9 → wr.frozen? ⟨g, i * 9 + j, none⟩ = false := fun j _ => own_free ho _
      have hce : ∀ j, j < (l.length - i) * 9 → (wr.cell? ⟨g, i * 9 + j, none⟩).isSome = true := fun j hj => by
        obtain ⟨a2, c2, hv2, _, _, ha2⟩ := own_reads ho
        injection hv2 with e1 _ _
        rcases ha2 with ⟨rfl, _⟩ | ⟨g', rfl, _, _, hcc⟩
        · cases e1
        · injection e1 with e1
          injection e1 with e1
          subst e1
          have hlt : i * 9 + j < (cellsK ckL M).length := by rw [cellsK_len ckL_len, hM]; omega
          rw [hcc _ _ (List.getElem?_eq_getElem hlt)]; rfl
      obtain ⟨zs, hzl, hcl⟩ := run_clearK (P := Tryz.prog) wr 36 29 0 (ckA ck0) 9 Tryz.underlying36 (zero_run (by kernel_rfl)) rfl (fun v hv => one9 ck0 v hv) g (i * 9) (l.length - i) (cap - i) (by omega) (by decide) hce hfr
      obtain ⟨xs', hx1, hx2⟩ := own_setCells zs (i * 9) wr (cellsK ckL M) ho (by rw [hzl]; omega)
      have hr := own_cut hx1 i (by omega)
      rw [hx2, cellsK_take M i (by omega), hMi, List.take_length] at hr
      have hbz := BelowBut.setCells zs (i * 9) wr hbb
      clear hx1 hx2 hfr hce hzl hMi hMj ho ho' hbb
      have hr' : (wr.setCells g (i * 9) zs).ownsRow B 29 9 (.slice (some ⟨g, 0, none⟩) (l.filter (fun c => !p c)).length cap) (l.filter (fun c => !p c)).length (cellsK ckL (l.filter (fun c => !p c))) := by rw [hfil]; exact hr
      have HF := Lib.hid hfil
      clear hfil
      go_wp2_with fail
      go_ret
      exact ⟨by rw [HF.out]; rfl, hr', hbz⟩
end Go.Proofs.YtgjooigolgdocaaGreatDoor

/- Cookies: slices.Delete of the first cookies of an owned row. -/
namespace Go.Proofs.YtgjooigolgdocaaGreatDoor
set_option linter.unusedVariables false
set_option linter.unusedSimpArgs false
open Go.RowKit

theorem BelowBut.setRow {B b : Nat} {W w : World} (h : BelowBut B b W w) (cs : Array Value) : BelowBut B b W (w.setRow b cs) := by
  refine ⟨h.os, h.tape, h.output, by simp [World.setRow]; exact h.size, fun k hk hb => Eq.trans ?_ (h.block k hk hb)⟩
  show (w.heap.modify b _)[k]? = _
  rw [Array.getElem?_modify, if_neg (fun e => hb e.symm)]
/-- a row whose elements behind the first q are laid at its front -/
theorem own_shift {W : World} {B E size n cap g q : Nat} {xs : List Value} (h : W.ownsRow B E size (.slice (some ⟨g, 0, none⟩) n cap) n xs) (hq : q ≤ n) :
    ∃ cur, W.heap[g]? = some (.cells cur E (0, 0)) ∧ 0 * size + (xs.drop (q * size)).length ≤ cur.size ∧ n ≤ cap ∧ (xs.drop (q * size)).length = (n - q) * size ∧ ∃ ys, (W.setRow g (cur.toList.take (0 * size) ++ xs.drop (q * size) ++ cur.toList.drop (0 * size + (xs.drop (q * size)).length)).toArray).ownsRow B E size (.slice (some ⟨g, 0, none⟩) n cap) n ys ∧ ys.take ((n - q) * size) = xs.drop (q * size) := by
  obtain ⟨h1, h2⟩ := h
  rcases h2 with ⟨h2, _⟩ | ⟨g', cap', cur, hv, hg, hh, hc, hcm, hs, ht⟩
  · cases h2
  · injection hv with e1 e2 e3
    injection e1 with e1
    injection e1 with e1
    subst e1 e3
    have hnl : (xs.drop (q * size)).length = (n - q) * size := by rw [List.length_drop, h1, Nat.sub_mul]
    have h3 : (n - q) * size ≤ n * size := Nat.mul_le_mul_right _ (by omega)
    have h4 : n * size ≤ cap * size := Nat.mul_le_mul_right _ hc
    have hnew : (cur.toList.take (0 * size) ++ xs.drop (q * size) ++ cur.toList.drop (0 * size + (xs.drop (q * size)).length)) = xs.drop (q * size) ++ cur.toList.drop ((n - q) * size) := by
      rw [hnl]; simp
    have hlen : (xs.drop (q * size) ++ cur.toList.drop ((n - q) * size)).length = cap * size := by
      rw [List.length_append, hnl, List.length_drop, Array.length_toList, hs]; omega
    refine ⟨cur, hh, by rw [hnl, hs]; omega, hc, hnl, _, ⟨?_, .inr ⟨g, cap, _, rfl, hg, setRow_heap W g cur _ E (0, 0) hh, hc, hcm, ?_, rfl⟩⟩, ?_⟩
    · rw [hnew, List.length_take, hlen]; omega
    · rw [hnew, List.size_toArray, hlen]
    · rw [hnew, List.take_take, Nat.min_eq_left h3, List.take_left' hnl]
/-- append(s[:0], s[q:]...) on a row of its own, as a step of a drawn region -/
theorem step_shift {P : Program} {T E size bytes : Nat} (ty : SlTy P T E size bytes) (W : World) {ops : Array Oper} {o : Oper} {a : Act} {K : Act → World → Prop} {Q : Exit → Act → World → Prop} {Ep : Prop}
    (hgd : o.guard = none) (s x : Operand) (ho : o.op = .call { callee := .builtin .append, args := #[s, x], argTypes := #[T, T] })
    (B g n cap q c : Nat) (xs : List Value) (hown : W.ownsRow B E size (.slice (some ⟨g, 0, none⟩) n cap) n xs) (hq : q ≤ n)
    (hs : a.eval s = .slice (some ⟨g, 0, none⟩) 0 cap) (hx : a.eval x = .slice (some ⟨g, q * size, none⟩) (n - q) c) (h1 : ∀ u ∈ xs, u.oneCell' = true)
    (h : ∀ w' ys, w'.ownsRow B E size (.slice (some ⟨g, 0, none⟩) n cap) n ys → ys.take ((n - q) * size) = xs.drop (q * size) → BelowBut W.heap.size g W w' → K (a.put o.dst (.slice (some ⟨g, 0, none⟩) (n - q) cap)) w') :
    if Region.wanted o (yielded ops a.tmps) = true then Oper.wp P o a W K Q else Ep := by
  obtain ⟨hu, ⟨i, z, hi, hz, h2, h3, h4⟩, hp⟩ := ty
  have hw : Region.wanted o (yielded ops a.tmps) = true := by simp [Region.wanted, hgd]
  rw [if_pos hw]
  obtain ⟨cur, hh, hfit, hc, hnl, ys, hy1, hy2⟩ := own_shift hown hq
  have hcell : ∀ j u, (xs.drop (q * size))[j]? = some u → W.cell? ((⟨g, q * size, none⟩ : Addr).add j) = some u := fun j u hu => by
    rw [add_none]
    rw [List.getElem?_drop] at hu
    obtain ⟨a2, c2, hv2, _, _, ha2⟩ := own_reads hown
    injection hv2 with e1 _ _
    rcases ha2 with ⟨rfl, _⟩ | ⟨g', rfl, _, _, hcc⟩
    · cases e1
    · injection e1 with e1
      injection e1 with e1
      subst e1
      exact hcc _ _ hu
  have hrun := run_append_room (P := P) W T o.type E i hu hi g 0 cap cur hh ⟨g, q * size, none⟩ (n - q) c (xs.drop (q * size)) (by rw [h2]; exact hnl) hcell (fun u hu => h1 u (List.mem_of_mem_drop hu)) (by omega) (by rw [h2]; exact hfit)
  rw [h2, Nat.zero_add] at hrun
  have hk := h _ ys hy1 hy2 ((BelowBut.refl W.heap.size g W).setRow _)
  unfold Oper.wp
  simp [execOp, ho, resolve, invoke, builtin, hs, hx, hrun, Result.andThen]
  rw [Oper.upon_value]
  simpa using hk
theorem cellsK_drop (l : List Ck) (q : Nat) : (cellsK ckL l).drop (q * 9) = cellsK ckL (l.drop q) := by
  by_cases h : q ≤ l.length
  · conv => lhs; rw [← List.take_append_drop q l, cellsK_app]
    rw [List.drop_left' (by rw [cellsK_len ckL_len, List.length_take, Nat.min_eq_left h])]
  · rw [List.drop_eq_nil_of_le (by rw [cellsK_len ckL_len]; omega), List.drop_eq_nil_of_le (by omega)]; rfl
set_option maxRecDepth 20000 in
set_option maxHeartbeats 4000000 in
theorem del_front (l : List Ck) (g n cap q : Nat) (w : World) (B : Nat) (hln : l.length = n) (hown : w.ownsRow B 29 9 (.slice (some ⟨g, 0, none⟩) n cap) n (cellsK ckL l)) (hq0 : 0 < q) (hqn : q < n) (hn : n ≤ 1000) :
    Calls Tryz.prog 93 #[.slice (some ⟨g, 0, none⟩) n cap, .int .i64 0, .int .i64 q] w fun e w' => e = .returned (.slice (some ⟨g, 0, none⟩) (n - q) cap) ∧ w'.ownsRow B 29 9 (.slice (some ⟨g, 0, none⟩) (n - q) cap) (n - q) (cellsK ckL (l.drop q)) ∧ BelowBut w.heap.size g w w' := by
  have hcap : n ≤ cap := by
    obtain ⟨a2, c2, hv2, hc2, _, _⟩ := own_reads hown
    injection hv2 with _ _ e3
    omega
  have hq1 : ((0 : Int) == (q : Int)) = false := beq_eq_false_iff_ne.2 (by omega)
  have hq2 : (q : Int) ≤ (n : Int) := by omega
  have hq3 : (n : Int) ≤ (cap : Int) := by omega
  have hq4 : (q : Int) ≤ (cap : Int) := by omega
  have HL := Lib.hid hln
  clear hln
  go_enter Tryz.func93, Tryz.ntmps93
  go_wp2_with fail
  have hq5 : ¬ cap = q := by omega
  have ho1 := Lib.hid hown
  clear hown
  go_region_law (first
    | (refine step_shift slC w.drew (by rfl) (.tmp 22) (.tmp 25) (by rfl) B g n cap q (cap - q) (cellsK ckL l) ho1.out.drew (by omega) (by rfl) (by rfl) (one9s l) ?_; intro w5 ys hown5 hys hbb5))
  all_goals
    obtain ⟨r, hr⟩ : ∃ r, n - q = r := ⟨_, rfl⟩
    rw [hr] at hys
    rw [hr]
    have hrn : r + q = n := by omega
    have hce : ∀ j, j < q * 9 → (w5.cell? ⟨g, r * 9 + j, none⟩).isSome = true := fun j hj => by
      obtain ⟨a2, c2, hv2, _, _, ha2⟩ := own_reads hown5
      injection hv2 with e1 _ _
      rcases ha2 with ⟨rfl, _⟩ | ⟨g', rfl, _, _, hcc⟩
      · cases e1
      · injection e1 with e1
        injection e1 with e1
        subst e1
        have hlt : r * 9 + j < ys.length := by rw [hown5.1]; omega
        rw [hcc _ _ (List.getElem?_eq_getElem hlt)]; rfl
    have hfr : ∀ j, j < q * 9 → w5.frozen? ⟨g, r * 9 + j, none⟩ = false := fun j _ => own_free hown5 _
    obtain ⟨zs, hzl, hcl⟩ := run_clearK (P := Tryz.prog) w5 36 29 0 (ckA ck0) 9 Tryz.underlying36 (zero_run (by kernel_rfl)) rfl (fun v hv => one9 ck0 v hv) g (r * 9) q (cap - r) hq0 (by decide) hce hfr
    obtain ⟨xs', hx1, hx2⟩ := own_setCells zs (r * 9) w5 ys hown5 (by rw [hzl]; omega)
    have hcut := own_cut hx1 r (by omega)
    rw [hx2, hys, cellsK_drop] at hcut
    have hbz := BelowBut.setCells zs (r * 9) w5 hbb5
    have hnr : n - r = q := by omega
    have hrz : (r : Int) ≤ (n : Int) := by omega
    have hrc : (r : Int) ≤ (cap : Int) := by omega
    have hrc' : ¬ cap = r := by omega
    clear hx1 hx2 hfr hce hzl hys hown5 hbb5 hrn
    have HR := Lib.hid hr
    clear hr
    go_wp2_with fail
    go_ret
    exact ⟨by rw [HR.out]; rfl, by rw [HR.out]; exact hcut, ⟨hbz.os, hbz.tape, hbz.output, hbz.size, hbz.block⟩⟩
end Go.Proofs.YtgjooigolgdocaaGreatDoor

/- Cookies: storing an expired cookie where the jar has it: it is removed. -/
namespace Go.Proofs.YtgjooigolgdocaaGreatDoor
set_option linter.unusedVariables false
set_option linter.unusedSimpArgs false
open Go.RowKit

/-- a row lies where another lay, or behind all that was there -/
def OldNew (v v' : Value) (n : Nat) : Prop := ∀ g, v'.ownBlock = some g → v.ownBlock = some g ∨ n ≤ g
theorem OldNew.refl (v : Value) (n : Nat) : OldNew v v n := fun _ h => .inl h
theorem same_at (c : Ck) (K : Nat) (W : World) (d : Ck) (hA : AtL W K (ckL c)) : Calls Tryz.prog 97 (#[ckA d] ++ #[.pointer (some ⟨K, 0, none⟩)]) W fun e W' => e = .returned (.bool (sameB c d)) ∧ Below W.heap.size W W' := same_pred c K W hA W d (Below.refl _ W)
theorem RowBut.step {n n' jb g : Nat} {W w w' : World} (h : RowBut n jb (some g) W w) (k : BelowBut n' g w w') (hn : n ≤ n') : RowBut n jb (some g) W w' :=
  ⟨k.os.trans h.os, k.tape.trans h.tape, k.output.trans h.output, Nat.le_trans h.size k.size, fun x hx hb ho => (k.block x (by omega) (fun e => ho (by rw [e]))).trans (h.block x hx hb ho)⟩
theorem s2_but {jb K B g : Nat} {v : Value} {c : Ck} {w w' : World} (h : S2 jb K v c w) (hb : BelowBut B g w w') (hB : w.heap.size ≤ B) (h1 : jb ≠ g) (h2 : K ≠ g) : S2 jb K v c w' := s2_of h fun b o u hbk hu => (hb.cell (p := ⟨b, o, none⟩) (Nat.lt_of_lt_of_le (cell_lt hu) hB) (by rcases hbk with rfl | rfl; exact h1; exact h2)).trans hu
/-- a cookie's nine cells, as a drawn region asks for them -/
def S9 (K : Nat) (c : Ck) (w' : World) : Prop := w'.cell? ⟨K, 0, none⟩ = some (.string c.n) ∧ w'.cell? ⟨K, 1, none⟩ = some (.string c.v) ∧ w'.cell? ⟨K, 2, none⟩ = some (.string c.d) ∧ w'.cell? ⟨K, 3, none⟩ = some (.string c.p) ∧ w'.cell? ⟨K, 4, none⟩ = some (.bool c.ho) ∧ w'.cell? ⟨K, 5, none⟩ = some (.bool c.se) ∧ w'.cell? ⟨K, 6, none⟩ = some (.bool c.hi) ∧ w'.cell? ⟨K, 7, none⟩ = some (.int .i64 c.ex) ∧ w'.cell? ⟨K, 8, none⟩ = some (.int .i64 c.cr)
theorem s9_of {K : Nat} {c : Ck} {w' : World} (h : AtL w' K (ckL c)) : S9 K c w' := ⟨h.c 0 rfl, h.c 1 rfl, h.c 2 rfl, h.c 3 rfl, h.c 4 rfl, h.c 5 rfl, h.c 6 rfl, h.c 7 rfl, h.c 8 rfl⟩
theorem own_lt {w : World} {b e s n g cap : Nat} {xs : List Value} (h : w.ownsRow b e s (.slice (some ⟨g, 0, none⟩) n cap) n xs) : g < w.heap.size := by
  rcases h.2 with ⟨h2, _⟩ | ⟨g', cap', cur, hv, hg, hh, hc, hm, hs, ht⟩
  · cases h2
  · injection hv with e1 e2 e3
    injection e1 with e1
    injection e1 with e1
    subst e1
    exact (Array.getElem?_eq_some_iff.1 hh).1
set_option maxRecDepth 20000 in
set_option maxHeartbeats 4000000 in
theorem store_del (c : Ck) (a b cc d e f : ByteArray) (now : Int) (w : World) (jb B : Nat) (v : Value) (l : List Ck) (nx : Int) (hJ : JarIn w jb B v l nx) (kk : Nat) (hkl : kk < l.length)
    (hid : idxI (sameB c) l = kk) (hex : exB c now = true) (hse : l[kk].se = false ∨ (l[kk].se = true ∧ a.toList = [104, 116, 116, 112, 115])) (hl : l.length < 1000) :
    Calls Tryz.prog 58 #[.pointer (some ⟨jb, 0, none⟩), ckA c, urlA a b cc d e f, .int .i64 now] w fun x w' => x = .returned (.int .i64 0) ∧ (∃ v', JarIn w' jb B v' (l.filter (fun d => !sameB c d)) nx ∧ OldNew v v' w.heap.size) ∧ RowBut w.heap.size jb v.ownBlock w w' := by
  obtain ⟨g, sc, rfl, hBg, hgw, hgj, hcell⟩ := hJ.row (by omega)
  have C0 := AtL.new w (ckL c) 29
  have C1 := C0.alloc (.cells (urlL a b cc d e f).toArray 23)
  have U1 := AtL.new (w.alloc (.cells (ckL c).toArray 29)) (urlL a b cc d e f) 23
  rw [show (w.alloc (.cells (ckL c).toArray 29)).heap.size = w.heap.size + 1 by simp] at U1
  have hB1 : Below w.heap.size w ((w.alloc (.cells (ckL c).toArray 29)).alloc (.cells (urlL a b cc d e f).toArray 23)) := ((Below.refl _ w).alloc (Nat.le_refl _) _).alloc (by simp) _
  have J1 := hJ.below hB1 (Nat.le_refl _)
  have hjk : w.heap.size ≠ jb := fun h => by have := hJ.at_.1; omega
  have hgk : g ≠ w.heap.size := Nat.ne_of_lt hgw
  have hBw := hJ.le
  have hBw0 := hJ.le
  have CS := Lib.hid (fun w => same_is c w)
  have CX := Lib.hid (fun (w : World) (v : Value) (k : Nat) (hv : SlK ckL 9 w v l) (hA : AtL w k (ckL c)) => idxs_is (sameB c) 97 #[.pointer (some ⟨k, 0, none⟩)] (enters_of Tryz.func97 (by kernel_rfl) rfl) l v w hv (same_pred c k w hA) (by omega) kk hid)
  have CDel := Lib.hid (fun (w : World) (K B : Nat) (cap : Nat) (g : Nat) (hown : w.ownsRow B 29 9 (.slice (some ⟨g, 0, none⟩) l.length cap) l.length (cellsK ckL l)) (hA : AtL w K (ckL c)) (hgK : g ≠ K) => del_some (sameB c) 97 #[.pointer (some ⟨K, 0, none⟩)] (enters_of Tryz.func97 (by kernel_rfl) rfl) l g cap K (ckL c) w B hown hA hgK (same_at c K) (by omega) kk hid)
  have CE := Lib.hid (fun w => expired_is c now true hex w)
  have hkz : (kk : Int) < (l.length : Int) := by omega
  have hk0 : (0 : Int) ≤ (kk : Int) := by omega
  obtain ⟨y, hy⟩ : ∃ y, l[kk] = y := ⟨_, rfl⟩
  have hcy : ∀ j u, (ckL y)[j]? = some u → w.cell? ⟨g, kk * 9 + j, none⟩ = some u := fun j u hu => hcell kk hkl j u (by rw [hy]; exact hu)
  rw [hy] at hse
  have HY := Lib.hid hy
  clear C0 hid hJ hex hy hcell
  go_enter Tryz.func58, Tryz.ntmps58
  go_wp2_with fail
  obtain ⟨wA, hwA⟩ : ∃ wA : World, (w.alloc (.cells (ckL c).toArray 29)).alloc (.cells (urlL a b cc d e f).toArray 23) = wA := ⟨_, rfl⟩
  obtain ⟨I, hI⟩ : ∃ I, w.heap.size + 1 = I := ⟨_, rfl⟩
  obtain ⟨K, hK⟩ : ∃ K, w.heap.size = K := ⟨_, rfl⟩
  rw [hwA] at C1 J1 hB1 U1
  rw [hI] at U1
  rw [hK] at C1 hjk hgk hBw
  rw [hwA, hI, hK]
  have HK := Lib.hid hK
  have hcA : ∀ j u, (ckL y)[j]? = some u → wA.cell? ⟨g, kk * 9 + j, none⟩ = some u := fun j u hu => (brl hB1 _ _ hgw).trans (hcy j u hu)
  clear hwA hI hK hcy
  have S1 := s10_start J1.at_ C1
  have hjl := J1.at_.1
  have hkl1 := C1.1
  go_region_held3 (fun w' => w'.cell? ⟨jb, 0, none⟩ = some (.slice (some ⟨g, 0, none⟩) l.length sc) ∧ w'.cell? ⟨K, 0, none⟩ = some (.string c.n) ∧ w'.cell? ⟨K, 1, none⟩ = some (.string c.v) ∧ w'.cell? ⟨K, 2, none⟩ = some (.string c.d) ∧ w'.cell? ⟨K, 3, none⟩ = some (.string c.p) ∧ w'.cell? ⟨K, 4, none⟩ = some (.bool c.ho) ∧ w'.cell? ⟨K, 5, none⟩ = some (.bool c.se) ∧ w'.cell? ⟨K, 6, none⟩ = some (.bool c.hi) ∧ w'.cell? ⟨K, 7, none⟩ = some (.int .i64 c.ex) ∧ w'.cell? ⟨K, 8, none⟩ = some (.int .i64 c.cr) ∧ Below wA.heap.size wA w') (first | exact s10_next hjl hkl1 S1 (Below.refl _ wA).drew | (apply s10_next hjl hkl1; rotate_left; assumption; assumption) | go_keep)
    (first
      | (go_at_call 70; with_reducible refine (CS.out _).mono ?_; rintro x w1 ⟨rfl, hb1, hA1⟩)
      | (go_at_call 69; with_reducible refine (CX.out _ (.slice (some ⟨g, 0, none⟩) l.length sc) wA.heap.size ((J1.reads.below ((Below.refl _ wA).drew.trans hb1) (Nat.le_refl _))) (atL_drewk hA1)).mono ?_; rintro x w2 ⟨rfl, hb2⟩))
  have hB3 : Below wA.heap.size wA w2 := s10_below (by assumption)
  have hBA := hB1.trans (hB3.mono (by rw [HK.out]; omega))
  have J3 := J1.below hB3 (Nat.le_refl _)
  have C3 := C1.below hB3 C1.lt
  have hc3 : ∀ j u, (ckL y)[j]? = some u → w2.cell? ⟨g, kk * 9 + j, none⟩ = some u := fun j u hu => (brl hB3 _ _ (cell_lt (hcA j u hu))).trans (hcA j u hu)
  have U3 := U1.below hB3 U1.lt
  have u0 := U3.c 0 rfl; have u1 := U3.c 1 rfl; have u2 := U3.c 2 rfl; have u3 := U3.c 3 rfl; have u4 := U3.c 4 rfl; have u5 := U3.c 5 rfl
  have hul3 := U3.lt
  have y5 := hc3 5 _ rfl
  have j0 := J3.at_.c 0 rfl
  have z0 := C3.c 0 rfl; have z1 := C3.c 1 rfl; have z2 := C3.c 2 rfl; have z3 := C3.c 3 rfl; have z4 := C3.c 4 rfl; have z5 := C3.c 5 rfl; have z6 := C3.c 6 rfl; have z7 := C3.c 7 rfl; have z8 := C3.c 8 rfl
  have hjl3 := J3.at_.lt
  have hkl3 := C3.lt
  rcases hse with hse | ⟨hse, hs2⟩
  · rw [hse] at y5
    clear hb1 hb2 hA1
    go_wp2_with (go_at_call 60; with_reducible refine (CE.out _).mono ?_; rintro x w3 ⟨rfl, hb3⟩; have J4 := J3.below hb3 (Nat.le_refl _); have C4 := C3.next hb3; have kl4 := C4.lt; have S4 := s2_start J4.at_ C4; have j0 := J4.at_.c 0 rfl; have i0 := J4.at_.f 0 rfl; have jl4 := J4.at_.lt)
    clear z0 z1 z2 z3 z4 z5 z6 z7 z8 y5
    have hjK : jb ≠ K := Ne.symm hjk
    have z0 := C4.c 0 rfl; have z1 := C4.c 1 rfl; have z2 := C4.c 2 rfl; have z3 := C4.c 3 rfl; have z4 := C4.c 4 rfl; have z5 := C4.c 5 rfl; have z6 := C4.c 6 rfl; have z7 := C4.c 7 rfl; have z8 := C4.c 8 rfl
    have y4 := J4.at_.c 0 rfl
    go_region_with (first
        | (go_at_call 70; refine (CS.out _).mono ?_; rintro x w5 ⟨rfl, hb5, hA5⟩; have hb35 := (Below.refl _ w3).drew.trans hb5; have J5 := J4.below hb35 (Nat.le_refl _); have C5 := C4.next hb35; have y5 := J5.at_.c 0 rfl)
        | (go_at_call 66; with_reducible refine (CDel.out _ w3.heap.size B sc g J5.own (atL_drewk hA5) (Nat.ne_of_lt (own_lt J4.own))).mono ?_; rintro x w6 ⟨rfl, hown6, hb6⟩; have A6 := J5.at_.but hb6 J5.at_.lt (Ne.symm hgj); have k0 := A6.c 0 rfl; have f0 := A6.f 0 rfl; have jl6 := A6.lt))
    all_goals
      go_wp2_with fail
      go_ret
      have h1 := ((RowBut.refl K jb (some g) w).below hBA (Nat.le_of_eq HK.out.symm)).below hb3 (Nat.le_of_lt hkl3)
      have h2 := (h1.below hb35 (Nat.le_of_lt kl4)).step hb6 (Nat.le_of_lt (Nat.lt_of_lt_of_le kl4 hb35.size))
      have hne : (Value.slice (some ⟨g, 0, none⟩) (l.filter (fun d => !sameB c d)).length sc).ownBlock ≠ some jb := by simp only [Value.ownBlock, ne_eq, Option.some.injEq]; exact hgj
      exact ⟨rfl, ⟨_, ⟨A6.set 0 _, ownsRow_setCell_other (a := ⟨jb, 0, none⟩) hown6 hne _, hne, by rw [World.size_setCell]; exact Nat.le_trans J5.le hb6.size⟩, fun g' e => .inl e⟩, (by rw [HK.out]; exact h2.setCell ⟨jb, 0, none⟩ (Or.inl rfl) _)⟩
  · rw [hse] at y5
    clear hb1 hb2 hA1
    go_wp2_with (go_at_call 60; with_reducible refine (CE.out _).mono ?_; rintro x w3 ⟨rfl, hb3⟩; have J4 := J3.below hb3 (Nat.le_refl _); have C4 := C3.next hb3; have kl4 := C4.lt; have S4 := s2_start J4.at_ C4; have j0 := J4.at_.c 0 rfl; have i0 := J4.at_.f 0 rfl; have jl4 := J4.at_.lt)
    clear z0 z1 z2 z3 z4 z5 z6 z7 z8 y5
    have hjK : jb ≠ K := Ne.symm hjk
    have z0 := C4.c 0 rfl; have z1 := C4.c 1 rfl; have z2 := C4.c 2 rfl; have z3 := C4.c 3 rfl; have z4 := C4.c 4 rfl; have z5 := C4.c 5 rfl; have z6 := C4.c 6 rfl; have z7 := C4.c 7 rfl; have z8 := C4.c 8 rfl
    have y4 := J4.at_.c 0 rfl
    go_region_with (first
        | (go_at_call 70; refine (CS.out _).mono ?_; rintro x w5 ⟨rfl, hb5, hA5⟩; have hb35 := (Below.refl _ w3).drew.trans hb5; have J5 := J4.below hb35 (Nat.le_refl _); have C5 := C4.next hb35; have y5 := J5.at_.c 0 rfl)
        | (go_at_call 66; with_reducible refine (CDel.out _ w3.heap.size B sc g J5.own (atL_drewk hA5) (Nat.ne_of_lt (own_lt J4.own))).mono ?_; rintro x w6 ⟨rfl, hown6, hb6⟩; have A6 := J5.at_.but hb6 J5.at_.lt (Ne.symm hgj); have k0 := A6.c 0 rfl; have f0 := A6.f 0 rfl; have jl6 := A6.lt))
    all_goals
      go_wp2_with fail
      go_ret
      have h1 := ((RowBut.refl K jb (some g) w).below hBA (Nat.le_of_eq HK.out.symm)).below hb3 (Nat.le_of_lt hkl3)
      have h2 := (h1.below hb35 (Nat.le_of_lt kl4)).step hb6 (Nat.le_of_lt (Nat.lt_of_lt_of_le kl4 hb35.size))
      have hne : (Value.slice (some ⟨g, 0, none⟩) (l.filter (fun d => !sameB c d)).length sc).ownBlock ≠ some jb := by simp only [Value.ownBlock, ne_eq, Option.some.injEq]; exact hgj
      exact ⟨rfl, ⟨_, ⟨A6.set 0 _, ownsRow_setCell_other (a := ⟨jb, 0, none⟩) hown6 hne _, hne, by rw [World.size_setCell]; exact Nat.le_trans J5.le hb6.size⟩, fun g' e => .inl e⟩, (by rw [HK.out]; exact h2.setCell ⟨jb, 0, none⟩ (Or.inl rfl) _)⟩
end Go.Proofs.YtgjooigolgdocaaGreatDoor
