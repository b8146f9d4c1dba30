import Derived.Test.YtgjooigolgdocaaGreatDoorG6
import Derived.Test.YtgjooigolgdocaaGreatDoorDC
/- Cookies: storing a new cookie into a full jar: the first ones go. -/
namespace Go.Proofs.YtgjooigolgdocaaGreatDoor
set_option linter.unusedVariables false
set_option linter.unusedSimpArgs false
open Go.RowKit

theorem RowBut.step2 {n n' jb g : Nat} {o : Option Nat} {W w w' : World} (h : RowBut n jb o W w) (k : BelowBut n' g w w') (hn : n ≤ n') (hg : o = some g ∨ n ≤ g) : RowBut n jb o W w' :=
  ⟨k.os.trans h.os, k.tape.trans h.tape, k.output.trans h.output, Nat.le_trans h.size k.size, fun x hx hb ho => (k.block x (by omega) (fun e => by
    rcases hg with hg | hg
    · exact ho (by rw [e, hg])
    · omega)).trans (h.block x hx hb ho)⟩
theorem oldnew_k {v : Value} {K g : Nat} (h : v.ownBlock = some g ∨ K ≤ g) (n cap : Nat) : OldNew v (.slice (some ⟨g, 0, none⟩) n cap) K := fun g' e => by
  have e' : g = g' := by simpa [Value.ownBlock] using e
  subst e'
  exact h
set_option maxRecDepth 20000 in
set_option maxHeartbeats 4000000 in
theorem store_new2 (c : Ck) (a b cc d e f : ByteArray) (now : Int) (w : World) (jb B : Nat) (v : Value) (l : List Ck) (nx : Int) (hJ : JarIn w jb B v l nx)
    (hno : idxI (sameB c) l = -1) (hex : exB c now = false) (hl : l.length < 200) (hn1 : -1152921504606846976 ≤ nx) (hn2 : nx ≤ 1152921504606846976) :
    Calls Tryz.prog 58 #[.pointer (some ⟨jb, 0, none⟩), ckA c, urlA a b cc d e f, .int .i64 now] w fun x w' => x = .returned (.int .i64 0) ∧ (∃ v', JarIn w' jb B v' (l ++ [{ c with cr := nx }]) (nx + 1) ∧ OldNew v v' w.heap.size) ∧ RowBut w.heap.size jb v.ownBlock w w' := by
  have C0 := AtL.new w (ckL c) 29
  have C1 := C0.alloc (.cells (urlL a b cc d e f).toArray 23)
  have U1 := AtL.new (w.alloc (.cells (ckL c).toArray 29)) (urlL a b cc d e f) 23
  have hB1 : Below w.heap.size w ((w.alloc (.cells (ckL c).toArray 29)).alloc (.cells (urlL a b cc d e f).toArray 23)) := ((Below.refl _ w).alloc (Nat.le_refl _) _).alloc (by simp) _
  have J1 := hJ.below hB1 (Nat.le_refl _)
  have hjk : w.heap.size ≠ jb := fun h => by have := hJ.at_.1; omega
  have hvK := own_fresh hJ.own
  have hBw := hJ.le
  have CS := Lib.hid (fun w => same_is c w)
  have CX := Lib.hid (fun (w : World) (v : Value) (k : Nat) (hv : SlK ckL 9 w v l) (hA : AtL w k (ckL c)) => idxs_is (sameB c) 97 #[.pointer (some ⟨k, 0, none⟩)] (enters_of Tryz.func97 (by kernel_rfl) rfl) l v w hv (same_pred c k w hA) (by omega) (-1) hno)
  have CE := Lib.hid (fun w => expired_is c now false hex w)
  clear C0 hno hex hJ
  go_enter Tryz.func58, Tryz.ntmps58
  go_wp2_with fail
  obtain ⟨wA, hwA⟩ : ∃ wA : World, (w.alloc (.cells (ckL c).toArray 29)).alloc (.cells (urlL a b cc d e f).toArray 23) = wA := ⟨_, rfl⟩
  have C2 : AtL wA w.heap.size (ckL c) := by rw [← hwA]; exact C1
  have J2 : JarIn wA jb B v l nx := by rw [← hwA]; exact J1
  have hB2 : Below w.heap.size w wA := by rw [← hwA]; exact hB1
  have hwz : w.heap.size + 1 < wA.heap.size := by rw [← hwA]; simp
  clear C1 J1 hB1 U1
  obtain ⟨K, hK⟩ : ∃ K, w.heap.size = K := ⟨_, rfl⟩
  rw [hK] at C2 hB2 hjk hwz hvK hBw
  rw [hwA, hK]
  clear hwA
  have S1 := s10_start J2.at_ C2
  have hjl := J2.at_.1
  have hkl := C2.1
  go_region_held3 (fun w' => w'.cell? ⟨jb, 0, none⟩ = some v ∧ w'.cell? ⟨K, 0, none⟩ = some (.string c.n) ∧ w'.cell? ⟨K, 1, none⟩ = some (.string c.v) ∧ w'.cell? ⟨K, 2, none⟩ = some (.string c.d) ∧ w'.cell? ⟨K, 3, none⟩ = some (.string c.p) ∧ w'.cell? ⟨K, 4, none⟩ = some (.bool c.ho) ∧ w'.cell? ⟨K, 5, none⟩ = some (.bool c.se) ∧ w'.cell? ⟨K, 6, none⟩ = some (.bool c.hi) ∧ w'.cell? ⟨K, 7, none⟩ = some (.int .i64 c.ex) ∧ w'.cell? ⟨K, 8, none⟩ = some (.int .i64 c.cr) ∧ Below wA.heap.size wA w') (first | exact s10_next hjl hkl S1 (Below.refl _ wA).drew | (apply s10_next hjl hkl; rotate_left; assumption; assumption) | go_keep)
    (first
      | (go_at_call 70; with_reducible refine (CS.out _).mono ?_; rintro x w1 ⟨rfl, hb1, hA1⟩)
      | (go_at_call 69; with_reducible refine (CX.out _ v wA.heap.size ((J2.reads.below ((Below.refl _ wA).drew.trans hb1) (Nat.le_refl _))) (atL_drewk hA1)).mono ?_; rintro x w2 ⟨rfl, hb2⟩))
  have hB3 : Below wA.heap.size wA w2 := s10_below (by assumption)
  have J3 := J2.below hB3 (Nat.le_refl _)
  have C3 := C2.below hB3 hkl
  have hB4 := hB2.trans (hB3.mono (by omega))
  have hjl3 := J3.at_.1
  have hkl3 := C3.1
  have z0 := C3.c 0 rfl; have z1 := C3.c 1 rfl; have z2 := C3.c 2 rfl; have z3 := C3.c 3 rfl; have z4 := C3.c 4 rfl; have z5 := C3.c 5 rfl; have z6 := C3.c 6 rfl; have z7 := C3.c 7 rfl; have z8 := C3.c 8 rfl; have y0 := C3.f 0 rfl; have y1 := C3.f 1 rfl; have y2 := C3.f 2 rfl; have y3 := C3.f 3 rfl; have y4 := C3.f 4 rfl; have y5 := C3.f 5 rfl; have y6 := C3.f 6 rfl; have y7 := C3.f 7 rfl; have y8 := C3.f 8 rfl
  clear hb1 hb2 hA1
  go_wp2_with (go_at_call 60; with_reducible refine (CE.out _).mono ?_; rintro x w3 ⟨rfl, hb3⟩; have J4 := J3.below hb3 (Nat.le_refl _); have C4 := C3.next hb3; have z0 := C4.c 0 rfl; have z1 := C4.c 1 rfl; have z2 := C4.c 2 rfl; have z3 := C4.c 3 rfl; have z4 := C4.c 4 rfl; have z5 := C4.c 5 rfl; have z6 := C4.c 6 rfl; have z7 := C4.c 7 rfl; have z8 := C4.c 8 rfl; have y0 := C4.f 0 rfl; have y1 := C4.f 1 rfl; have y2 := C4.f 2 rfl; have y3 := C4.f 3 rfl; have y4 := C4.f 4 rfl; have y5 := C4.f 5 rfl; have y6 := C4.f 6 rfl; have y7 := C4.f 7 rfl; have y8 := C4.f 8 rfl; have j0 := J4.at_.c 0 rfl; have j1 := J4.at_.c 1 rfl; have i0 := J4.at_.f 0 rfl; have i1 := J4.at_.f 1 rfl; have kl4 := C4.lt; have jl4 := J4.at_.lt)
  have JF := (J4.at_.far ⟨K, 8, none⟩ (.int .i64 nx) hjk).set 1 (.int .i64 (nx + 1))
  have CF : AtL ((w3.setCell ⟨K, 8, none⟩ (.int .i64 nx)).setCell ⟨jb, 1, none⟩ (.int .i64 (nx + 1))) K (ckL { c with cr := nx }) := (C4.set 8 (.int .i64 nx)).far ⟨jb, 1, none⟩ (.int .i64 (nx + 1)) (Ne.symm hjk)
  have OF := ownsRow_setCell_other (a := ⟨jb, 1, none⟩) (ownsRow_setCell_other (a := ⟨K, 8, none⟩) J4.own hvK (.int .i64 nx)) J4.ne (.int .i64 (nx + 1))
  have hF0 := J4.at_.1
  obtain ⟨wF, hwF⟩ : ∃ wF : World, (w3.setCell ⟨K, 8, none⟩ (.int .i64 nx)).setCell ⟨jb, 1, none⟩ (.int .i64 (nx + 1)) = wF := ⟨_, rfl⟩
  have hFs : wF.heap.size = w3.heap.size := by rw [← hwF]; simp
  rw [hwF] at JF CF OF
  rw [hwF]
  have hBF : B ≤ wF.heap.size := by rw [hFs]; exact J4.le
  have HFS := Lib.hid hFs
  clear hFs y0 y1 y2 y3 y4 y5 y6 y7 y8 z0 z1 z2 z3 z4 z5 z6 z7 z8 j0 j1 i0 i1
  have z0 := CF.c 0 rfl; have z1 := CF.c 1 rfl; have z2 := CF.c 2 rfl; have z3 := CF.c 3 rfl; have z4 := CF.c 4 rfl; have z5 := CF.c 5 rfl; have z6 := CF.c 6 rfl; have z7 := CF.c 7 rfl; have z8 := CF.c 8 rfl
  have j0 := JF.c 0 rfl
  have i0 := JF.f 0 rfl
  have kF := CF.lt
  have jF := JF.lt
  go_region_law (first
      | (refine step_app slC wF (by rfl) (.tmp 34) (.tmp 36) (by rfl) B v l.length (cellsK ckL l) (by rfl) OF (ckL { c with cr := nx }) 1 wF.heap.size (by rfl) rfl (by rfl) (one9 _) (by omega) (by omega) (by omega) hBF ?_; intro g cap w5 hown5 hgrow hat hlt; have JG := JF.grown hgrow J4.ne; have j0 := JG.c 0 rfl; have i0 := JG.f 0 rfl; have jl5 := JG.lt))
  all_goals
    go_wp2_with fail
    go_ret
    have hgj : g ≠ jb := fun e => by
      rcases hat with h | h
      · exact J4.ne (by rw [h, e])
      · omega
    have hne : (Value.slice (some ⟨g, 0, none⟩) (l.length + 1) cap).ownBlock ≠ some jb := by
      simp only [Value.ownBlock, ne_eq, Option.some.injEq]; exact hgj
    have hgK : v.ownBlock = some g ∨ K ≤ g := by
      rcases hat with h | h
      · exact .inl h
      · exact .inr (by omega)
    have hb0 : RowBut K jb v.ownBlock w wF := by
      have h1 := ((RowBut.refl K jb v.ownBlock w).below hB4 (Nat.le_refl _)).below hb3 (Nat.le_of_lt hkl3)
      have h2 := (h1.setCell ⟨K, 8, none⟩ (Or.inr (Or.inr (Nat.le_refl _))) (.int .i64 nx)).setCell ⟨jb, 1, none⟩ (Or.inl rfl) (.int .i64 (nx + 1))
      rwa [hwF] at h2
    exact ⟨rfl, ⟨_, ⟨JG.set 0 _, own_eq (ownsRow_setCell_other (a := ⟨jb, 0, none⟩) hown5 hne _) (by simp) (by rw [cellsK_app]; rfl), hne, by rw [World.size_setCell]; exact Nat.le_trans hBF hgrow.size⟩, (by first | exact oldnew_k hgK _ _ | (rw [hK]; exact oldnew_k hgK _ _))⟩, (hb0.grown hgrow (Nat.le_of_lt kF)).setCell ⟨jb, 0, none⟩ (Or.inl rfl) _⟩
set_option maxRecDepth 20000 in
set_option maxHeartbeats 4000000 in
theorem store_evict (c : Ck) (a b cc d e f : ByteArray) (now : Int) (w : World) (jb B : Nat) (v : Value) (l : List Ck) (nx : Int) (hJ : JarIn w jb B v l nx)
    (hno : idxI (sameB c) l = -1) (hex : exB c now = false) (q : Nat) (hq0 : 0 < q) (hq : l.length + 1 = 200 + q) (hq3 : q ≤ 3) (hn1 : -1152921504606846976 ≤ nx) (hn2 : nx ≤ 1152921504606846976) :
    Calls Tryz.prog 58 #[.pointer (some ⟨jb, 0, none⟩), ckA c, urlA a b cc d e f, .int .i64 now] w fun x w' => x = .returned (.int .i64 0) ∧ (∃ v', JarIn w' jb B v' ((l ++ [{ c with cr := nx }]).drop q) (nx + 1) ∧ OldNew v v' w.heap.size) ∧ RowBut w.heap.size jb v.ownBlock w w' := by
  have C0 := AtL.new w (ckL c) 29
  have C1 := C0.alloc (.cells (urlL a b cc d e f).toArray 23)
  have U1 := AtL.new (w.alloc (.cells (ckL c).toArray 29)) (urlL a b cc d e f) 23
  have hB1 : Below w.heap.size w ((w.alloc (.cells (ckL c).toArray 29)).alloc (.cells (urlL a b cc d e f).toArray 23)) := ((Below.refl _ w).alloc (Nat.le_refl _) _).alloc (by simp) _
  have J1 := hJ.below hB1 (Nat.le_refl _)
  have hjk : w.heap.size ≠ jb := fun h => by have := hJ.at_.1; omega
  have hvK := own_fresh hJ.own
  have hBw := hJ.le
  have CS := Lib.hid (fun w => same_is c w)
  have CX := Lib.hid (fun (w : World) (v : Value) (k : Nat) (hv : SlK ckL 9 w v l) (hA : AtL w k (ckL c)) => idxs_is (sameB c) 97 #[.pointer (some ⟨k, 0, none⟩)] (enters_of Tryz.func97 (by kernel_rfl) rfl) l v w hv (same_pred c k w hA) (by omega) (-1) hno)
  have CDl := Lib.hid (fun (w : World) (g cap : Nat) (hown : w.ownsRow B 29 9 (.slice (some ⟨g, 0, none⟩) (l.length + 1) cap) (l.length + 1) (cellsK ckL (l ++ [{ c with cr := nx }]))) => del_front (l ++ [{ c with cr := nx }]) g (l.length + 1) cap q w B (by simp) hown hq0 (by omega) (by omega))
  have HQ := Lib.hid hq
  have hqz : (l.length : Int) + 1 - 200 = (q : Int) := by omega
  have hqp : (0 : Int) < (q : Int) := by omega
  have hlb : l.length ≤ 202 := by omega
  have CE := Lib.hid (fun w => expired_is c now false hex w)
  clear C0 hno hex hJ hq
  go_enter Tryz.func58, Tryz.ntmps58
  go_wp2_with fail
  obtain ⟨wA, hwA⟩ : ∃ wA : World, (w.alloc (.cells (ckL c).toArray 29)).alloc (.cells (urlL a b cc d e f).toArray 23) = wA := ⟨_, rfl⟩
  have C2 : AtL wA w.heap.size (ckL c) := by rw [← hwA]; exact C1
  have J2 : JarIn wA jb B v l nx := by rw [← hwA]; exact J1
  have hB2 : Below w.heap.size w wA := by rw [← hwA]; exact hB1
  have hwz : w.heap.size + 1 < wA.heap.size := by rw [← hwA]; simp
  clear C1 J1 hB1 U1
  obtain ⟨K, hK⟩ : ∃ K, w.heap.size = K := ⟨_, rfl⟩
  rw [hK] at C2 hB2 hjk hwz hvK hBw
  rw [hwA, hK]
  clear hwA
  have S1 := s10_start J2.at_ C2
  have hjl := J2.at_.1
  have hkl := C2.1
  go_region_held3 (fun w' => w'.cell? ⟨jb, 0, none⟩ = some v ∧ w'.cell? ⟨K, 0, none⟩ = some (.string c.n) ∧ w'.cell? ⟨K, 1, none⟩ = some (.string c.v) ∧ w'.cell? ⟨K, 2, none⟩ = some (.string c.d) ∧ w'.cell? ⟨K, 3, none⟩ = some (.string c.p) ∧ w'.cell? ⟨K, 4, none⟩ = some (.bool c.ho) ∧ w'.cell? ⟨K, 5, none⟩ = some (.bool c.se) ∧ w'.cell? ⟨K, 6, none⟩ = some (.bool c.hi) ∧ w'.cell? ⟨K, 7, none⟩ = some (.int .i64 c.ex) ∧ w'.cell? ⟨K, 8, none⟩ = some (.int .i64 c.cr) ∧ Below wA.heap.size wA w') (first | exact s10_next hjl hkl S1 (Below.refl _ wA).drew | (apply s10_next hjl hkl; rotate_left; assumption; assumption) | go_keep)
    (first
      | (go_at_call 70; with_reducible refine (CS.out _).mono ?_; rintro x w1 ⟨rfl, hb1, hA1⟩)
      | (go_at_call 69; with_reducible refine (CX.out _ v wA.heap.size ((J2.reads.below ((Below.refl _ wA).drew.trans hb1) (Nat.le_refl _))) (atL_drewk hA1)).mono ?_; rintro x w2 ⟨rfl, hb2⟩))
  have hB3 : Below wA.heap.size wA w2 := s10_below (by assumption)
  have J3 := J2.below hB3 (Nat.le_refl _)
  have C3 := C2.below hB3 hkl
  have hB4 := hB2.trans (hB3.mono (by omega))
  have hjl3 := J3.at_.1
  have hkl3 := C3.1
  have z0 := C3.c 0 rfl; have z1 := C3.c 1 rfl; have z2 := C3.c 2 rfl; have z3 := C3.c 3 rfl; have z4 := C3.c 4 rfl; have z5 := C3.c 5 rfl; have z6 := C3.c 6 rfl; have z7 := C3.c 7 rfl; have z8 := C3.c 8 rfl; have y0 := C3.f 0 rfl; have y1 := C3.f 1 rfl; have y2 := C3.f 2 rfl; have y3 := C3.f 3 rfl; have y4 := C3.f 4 rfl; have y5 := C3.f 5 rfl; have y6 := C3.f 6 rfl; have y7 := C3.f 7 rfl; have y8 := C3.f 8 rfl
  clear hb1 hb2 hA1
  go_wp2_with (go_at_call 60; with_reducible refine (CE.out _).mono ?_; rintro x w3 ⟨rfl, hb3⟩; have J4 := J3.below hb3 (Nat.le_refl _); have C4 := C3.next hb3; have z0 := C4.c 0 rfl; have z1 := C4.c 1 rfl; have z2 := C4.c 2 rfl; have z3 := C4.c 3 rfl; have z4 := C4.c 4 rfl; have z5 := C4.c 5 rfl; have z6 := C4.c 6 rfl; have z7 := C4.c 7 rfl; have z8 := C4.c 8 rfl; have y0 := C4.f 0 rfl; have y1 := C4.f 1 rfl; have y2 := C4.f 2 rfl; have y3 := C4.f 3 rfl; have y4 := C4.f 4 rfl; have y5 := C4.f 5 rfl; have y6 := C4.f 6 rfl; have y7 := C4.f 7 rfl; have y8 := C4.f 8 rfl; have j0 := J4.at_.c 0 rfl; have j1 := J4.at_.c 1 rfl; have i0 := J4.at_.f 0 rfl; have i1 := J4.at_.f 1 rfl; have kl4 := C4.lt; have jl4 := J4.at_.lt)
  have JF := (J4.at_.far ⟨K, 8, none⟩ (.int .i64 nx) hjk).set 1 (.int .i64 (nx + 1))
  have CF : AtL ((w3.setCell ⟨K, 8, none⟩ (.int .i64 nx)).setCell ⟨jb, 1, none⟩ (.int .i64 (nx + 1))) K (ckL { c with cr := nx }) := (C4.set 8 (.int .i64 nx)).far ⟨jb, 1, none⟩ (.int .i64 (nx + 1)) (Ne.symm hjk)
  have OF := ownsRow_setCell_other (a := ⟨jb, 1, none⟩) (ownsRow_setCell_other (a := ⟨K, 8, none⟩) J4.own hvK (.int .i64 nx)) J4.ne (.int .i64 (nx + 1))
  have hF0 := J4.at_.1
  obtain ⟨wF, hwF⟩ : ∃ wF : World, (w3.setCell ⟨K, 8, none⟩ (.int .i64 nx)).setCell ⟨jb, 1, none⟩ (.int .i64 (nx + 1)) = wF := ⟨_, rfl⟩
  have hFs : wF.heap.size = w3.heap.size := by rw [← hwF]; simp
  rw [hwF] at JF CF OF
  rw [hwF]
  have hBF : B ≤ wF.heap.size := by rw [hFs]; exact J4.le
  have HFS := Lib.hid hFs
  clear hFs y0 y1 y2 y3 y4 y5 y6 y7 y8 z0 z1 z2 z3 z4 z5 z6 z7 z8 j0 j1 i0 i1
  have z0 := CF.c 0 rfl; have z1 := CF.c 1 rfl; have z2 := CF.c 2 rfl; have z3 := CF.c 3 rfl; have z4 := CF.c 4 rfl; have z5 := CF.c 5 rfl; have z6 := CF.c 6 rfl; have z7 := CF.c 7 rfl; have z8 := CF.c 8 rfl
  have j0 := JF.c 0 rfl
  have i0 := JF.f 0 rfl
  have kF := CF.lt
  have jF := JF.lt
  go_region_law (first
      | (refine step_app slC wF (by rfl) (.tmp 34) (.tmp 36) (by rfl) B v l.length (cellsK ckL l) (by rfl) OF (ckL { c with cr := nx }) 1 wF.heap.size (by rfl) rfl (by rfl) (one9 _) (by omega) (by omega) (by omega) hBF ?_; intro g cap w5 hown5 hgrow hat hlt; have JG := JF.grown hgrow J4.ne; have j0 := JG.c 0 rfl; have i0 := JG.f 0 rfl; have jl5 := JG.lt))
  all_goals
    have hgj : g ≠ jb := fun e => by
      rcases hat with h | h
      · exact J4.ne (by rw [h, e])
      · omega
    have hne : ∀ m c2, (Value.slice (some ⟨g, 0, none⟩) m c2).ownBlock ≠ some jb := fun m c2 => by
      simp only [Value.ownBlock, ne_eq, Option.some.injEq]; exact hgj
    have hb0 : RowBut K jb v.ownBlock w wF := by
      have h1 := ((RowBut.refl K jb v.ownBlock w).below hB4 (Nat.le_refl _)).below hb3 (Nat.le_of_lt hkl3)
      have h2 := (h1.setCell ⟨K, 8, none⟩ (Or.inr (Or.inr (Nat.le_refl _))) (.int .i64 nx)).setCell ⟨jb, 1, none⟩ (Or.inl rfl) (.int .i64 (nx + 1))
      rwa [hwF] at h2
    have G6 := JG.set 0 (.slice (some ⟨g, 0, none⟩) (l.length + 1) cap)
    have own6 := own_eq (ownsRow_setCell_other (a := ⟨jb, 0, none⟩) hown5 (hne _ _) (.slice (some ⟨g, 0, none⟩) (l.length + 1) cap)) rfl (by rw [cellsK_app]; rfl : cellsK ckL l ++ ckL { c with cr := nx } = cellsK ckL (l ++ [{ c with cr := nx }]))
    have hb6 := (hb0.grown hgrow (Nat.le_of_lt kF)).setCell ⟨jb, 0, none⟩ (Or.inl rfl) (.slice (some ⟨g, 0, none⟩) (l.length + 1) cap)
    have hK6 : K ≤ (w5.setCell ⟨jb, 0, none⟩ (.slice (some ⟨g, 0, none⟩) (l.length + 1) cap)).heap.size := by rw [World.size_setCell]; exact Nat.le_trans (Nat.le_of_lt kF) hgrow.size
    have hB6 : B ≤ (w5.setCell ⟨jb, 0, none⟩ (.slice (some ⟨g, 0, none⟩) (l.length + 1) cap)).heap.size := by rw [World.size_setCell]; exact Nat.le_trans hBF hgrow.size
    have hgK : v.ownBlock = some g ∨ K ≤ g := by
      rcases hat with h | h
      · exact .inl h
      · exact .inr (by omega)
    clear hown5 hgrow hat hb0 hwF
    go_wp2_with fail
    obtain ⟨w6, hw6⟩ : ∃ w6 : World, w5.setCell ⟨jb, 0, none⟩ (.slice (some ⟨g, 0, none⟩) (l.length + 1) cap) = w6 := ⟨_, rfl⟩
    rw [hw6] at G6 own6 hb6 hK6 hB6
    rw [hw6]
    clear hw6 j0 i0 jl5
    have k0 := G6.c 0 rfl
    have f0 := G6.f 0 rfl
    have jl6 := G6.lt
    go_wp2_with (go_at_call 93; refine (CDl.out _ g cap own6).mono ?_; rintro x w7 ⟨rfl, hown7, hb7⟩; have A7 := G6.but hb7 G6.lt (Ne.symm hgj); have k7 := A7.c 0 rfl; have f7 := A7.f 0 rfl; have jl7 := A7.lt)
    go_ret
    exact ⟨rfl, ⟨_, ⟨A7.set 0 _, own_eq (ownsRow_setCell_other (a := ⟨jb, 0, none⟩) hown7 (hne _ _) _) (by simp) rfl, hne _ _, by rw [World.size_setCell]; exact Nat.le_trans hB6 hb7.size⟩, (by first | exact oldnew_k hgK _ _ | (rw [hK]; exact oldnew_k hgK _ _))⟩, (by rw [hK]; exact (hb6.step2 hb7 hK6 hgK).setCell ⟨jb, 0, none⟩ (Or.inl rfl) _)⟩
end Go.Proofs.YtgjooigolgdocaaGreatDoor

/- Cookies: what storing a cookie makes of a jar, by cases; store in all of them. -/
namespace Go.Proofs.YtgjooigolgdocaaGreatDoor
set_option linter.unusedVariables false
set_option linter.unusedSimpArgs false
open Go.RowKit

/-- https or not secure -/
abbrev OpenS (a : ByteArray) (y : Ck) : Prop := y.se = false ∨ (y.se = true ∧ a.toList = [104, 116, 116, 112, 115])
/-- what storing the cookie c makes of a jar: its list, its next number, the error -/
inductive Put (c : Ck) (gone : Bool) (a : ByteArray) (l : List Ck) (nx : Int) : List Ck → Int → Int → Prop
  | sec (k : Nat) (hk : k < l.length) (hi : idxI (sameB c) l = k) (hs : l[k].se = true) (hn : a.data.toList ≠ httpsL) : Put c gone a l nx l nx 7
  | none (hi : idxI (sameB c) l = -1) (hg : gone = true) : Put c gone a l nx l nx 0
  | del (k : Nat) (hk : k < l.length) (hi : idxI (sameB c) l = k) (hs : OpenS a l[k]) (hg : gone = true) : Put c gone a l nx (l.filter (fun d => !sameB c d)) nx 0
  | put (k : Nat) (hk : k < l.length) (hi : idxI (sameB c) l = k) (hs : OpenS a l[k]) (hg : gone = false) : Put c gone a l nx (l.set k { c with cr := l[k].cr }) nx 0
  | new (hi : idxI (sameB c) l = -1) (hg : gone = false) (hl : l.length < 200) : Put c gone a l nx (l ++ [{ c with cr := nx }]) (nx + 1) 0
  | evict (q : Nat) (hi : idxI (sameB c) l = -1) (hg : gone = false) (hq0 : 0 < q) (hq : l.length + 1 = 200 + q) : Put c gone a l nx ((l ++ [{ c with cr := nx }]).drop q) (nx + 1) 0
theorem idxI_cases (p : Ck → Bool) (l : List Ck) : idxI p l = -1 ∨ ∃ k : Nat, ∃ h : k < l.length, idxI p l = k ∧ p l[k] = true := by
  unfold idxI
  by_cases ha : l.any p
  · right
    rw [if_pos ha]
    have hlt : l.findIdx p < l.length := by
      obtain ⟨x, hx, hp⟩ := List.any_eq_true.1 ha
      exact List.findIdx_lt_length_of_exists ⟨x, hx, hp⟩
    exact ⟨l.findIdx p, hlt, rfl, List.findIdx_getElem⟩
  · left; rw [if_neg ha]
theorem put_ex (c : Ck) (gone : Bool) (a : ByteArray) (l : List Ck) (nx : Int) : ∃ l' nx' er, Put c gone a l nx l' nx' er := by
  rcases idxI_cases (sameB c) l with h | ⟨k, hk, h, _⟩
  · cases gone with
    | true => exact ⟨_, _, _, .none h rfl⟩
    | false =>
      rcases Nat.lt_or_ge l.length 200 with hl | hl
      · exact ⟨_, _, _, .new h rfl hl⟩
      · exact ⟨_, _, _, .evict (l.length + 1 - 200) h rfl (by omega) (by omega)⟩
  · have hs : l[k].se = true ∧ a.data.toList ≠ httpsL ∨ OpenS a l[k] := by
      cases e : l[k].se with
      | false => exact .inr (.inl e)
      | true =>
        by_cases hh : a.data.toList = httpsL
        · exact .inr (.inr ⟨e, by rw [ByteArray.toList_eq]; exact hh⟩)
        · exact .inl ⟨rfl, hh⟩
    rcases hs with ⟨hs, hn⟩ | hs
    · exact ⟨_, _, _, .sec k hk h hs hn⟩
    · cases gone with
      | true => exact ⟨_, _, _, .del k hk h hs rfl⟩
      | false => exact ⟨_, _, _, .put k hk h hs rfl⟩
theorem put_len {c : Ck} {gone : Bool} {a : ByteArray} {l l' : List Ck} {nx nx' er : Int} (h : Put c gone a l nx l' nx' er) (hl : l.length ≤ 202) : l'.length ≤ 202 := by
  cases h with
  | del k hk hi hs hg => exact Nat.le_trans (List.length_filter_le _ _) hl
  | put k hk hi hs hg => rw [List.length_set]; exact hl
  | new hi hg hl2 => simp; omega
  | evict q hi hg h0 hq => simp; omega
  | _ => exact hl
theorem below_row {n jb : Nat} {o : Option Nat} {w w' : World} (h : Below n w w') : RowBut n jb o w w' := (RowBut.refl n jb o w).below h (Nat.le_refl _)
theorem store_any (c : Ck) (a b cc d e f : ByteArray) (now : Int) (w : World) (jb B : Nat) (v : Value) (l l' : List Ck) (nx nx' er : Int) (hJ : JarIn w jb B v l nx)
    (hP : Put c (exB c now) a l nx l' nx' er) (hl : l.length ≤ 202) (hn1 : -1152921504606846976 ≤ nx) (hn2 : nx ≤ 1152921504606846976) :
    Calls Tryz.prog 58 #[.pointer (some ⟨jb, 0, none⟩), ckA c, urlA a b cc d e f, .int .i64 now] w fun x w' => x = .returned (.int .i64 er) ∧ (∃ v', JarIn w' jb B v' l' nx' ∧ OldNew v v' w.heap.size) ∧ RowBut w.heap.size jb v.ownBlock w w' := by
  cases hP with
  | sec k hk hi hs hn => exact (store_sec c a b cc d e f now w jb B v l nx hJ k hk hi hs hn (by omega)).mono fun x w' h => ⟨h.1, ⟨v, hJ.below h.2 (Nat.le_refl _), OldNew.refl _ _⟩, below_row h.2⟩
  | none hi hg => exact (store_gone c a b cc d e f now w jb B v l nx hJ hi hg (by omega)).mono fun x w' h => ⟨h.1, ⟨v, h.2.1, OldNew.refl _ _⟩, h.2.2⟩
  | del k hk hi hs hg => exact store_del c a b cc d e f now w jb B v l nx hJ k hk hi hg hs (by omega)
  | put k hk hi hs hg => exact (store_put c a b cc d e f now w jb B v l nx hJ k hk hi hg hs (by omega)).mono fun x w' h => ⟨h.1, ⟨v, h.2.1, OldNew.refl _ _⟩, h.2.2⟩
  | new hi hg hl2 => exact store_new2 c a b cc d e f now w jb B v l nx hJ hi hg hl2 hn1 hn2
  | evict q hi hg h0 hq => exact store_evict c a b cc d e f now w jb B v l nx hJ hi hg q h0 hq (by omega) hn1 hn2
end Go.Proofs.YtgjooigolgdocaaGreatDoor

/- Cookies: SetScript. -/
namespace Go.Proofs.YtgjooigolgdocaaGreatDoor
set_option linter.unusedVariables false
set_option linter.unusedSimpArgs false
open Go.RowKit
set_option maxRecDepth 20000 in
set_option maxHeartbeats 4000000 in
theorem setscript_a (s a b cc d e f : ByteArray) (now : Int) (T : Bool) (hT : takesB (u6 a b cc d e f) = T) (c : Ck) (hR : parseC s.data.toList T a b d now = (c, 0)) (w : World) (hs : s.size ≤ 100000) (hz : USize 40000 a b cc d e f) (hM : MaxAt w) (jb B : Nat) (v : Value) (l : List Ck) (nx : Int)
    (hJ : JarIn w jb B v l nx) (hl : l.length < 1000) (hh : c.hi = true) (kI : Int) (hid : idxI (sameB c) l = kI) :
    Calls Tryz.prog 31 #[.pointer (some ⟨jb, 0, none⟩), .string s, urlA a b cc d e f, .int .i64 now] w fun x w' => x = .returned (.int .i64 7) ∧ Below w.heap.size w w' := by
  have HH := Lib.hid hh
  clear hh
  have CP := Lib.hid (fun w hM => cparse_ex s a b cc d e f now T hT c 0 hR w hs hz hM)
  have HM := Lib.hid hM
  have CS := Lib.hid (fun w => same_is c w)
  have CX := Lib.hid (fun (w : World) (v : Value) (k : Nat) (hv : SlK ckL 9 w v l) (hA : AtL w k (ckL c)) => idxs_is (sameB c) 97 #[.pointer (some ⟨k, 0, none⟩)] (enters_of Tryz.func97 (by kernel_rfl) rfl) l v w hv (same_pred c k w hA) (by omega) kI hid)
  have hb0 : Below w.heap.size w (w.alloc (.cells (urlL a b cc d e f).toArray 23)) := (Below.refl _ w).alloc (Nat.le_refl _) _
  have hM0 := hM.below hb0 (Nat.le_refl _)
  have U0 := AtL.new w (urlL a b cc d e f) 23
  have J0 := hJ.below hb0 (Nat.le_refl _)
  clear hid hR hT hs hz hM hJ
  go_enter Tryz.func31, Tryz.ntmps31
  go_wp2_with (go_at_call 12; with_reducible refine (CP.out _ hM0).mono ?_; rintro x w1 ⟨rfl, hb1⟩)
  have hB1 := hb0.trans (hb1.mono (by simp))
  have hal : Below w1.heap.size w1 (w1.alloc (.cells (ckL c).toArray 29)) := (Below.refl _ w1).alloc (Nat.le_refl _) _
  have hBA := hB1.trans (hal.mono hB1.size)
  have UA := (U0.next hb1).next hal
  have CA := AtL.new w1 (ckL c) 29
  have J1 := (J0.below hb1 (Nat.le_refl _))
  have hjK : jb ≠ w1.heap.size := Nat.ne_of_lt J1.at_.1
  have JA := J1.below hal (Nat.le_refl _)
  obtain ⟨wA, hwA⟩ : ∃ wA : World, w1.alloc (.cells (ckL c).toArray 29) = wA := ⟨_, rfl⟩
  obtain ⟨K, hK⟩ : ∃ K, w1.heap.size = K := ⟨_, rfl⟩
  obtain ⟨I, hI⟩ : ∃ I, w.heap.size = I := ⟨_, rfl⟩
  rw [hwA] at hBA UA CA JA
  rw [hK] at CA hjK
  rw [hI] at UA
  rw [hwA, hK, hI]
  have HI := Lib.hid hI
  clear hwA hK hI hb0 hM0 U0 J0 hB1 hal J1 hb1
  have S1 := s10_start JA.at_ CA
  have hjl := JA.at_.1
  have hkl1 := CA.1
  go_region_held3 (fun w' => w'.cell? ⟨jb, 0, none⟩ = some v ∧ w'.cell? ⟨K, 0, none⟩ = some (.string c.n) ∧ w'.cell? ⟨K, 1, none⟩ = some (.string c.v) ∧ w'.cell? ⟨K, 2, none⟩ = some (.string c.d) ∧ w'.cell? ⟨K, 3, none⟩ = some (.string c.p) ∧ w'.cell? ⟨K, 4, none⟩ = some (.bool c.ho) ∧ w'.cell? ⟨K, 5, none⟩ = some (.bool c.se) ∧ w'.cell? ⟨K, 6, none⟩ = some (.bool c.hi) ∧ w'.cell? ⟨K, 7, none⟩ = some (.int .i64 c.ex) ∧ w'.cell? ⟨K, 8, none⟩ = some (.int .i64 c.cr) ∧ Below wA.heap.size wA w') (first | exact s10_next hjl hkl1 S1 (Below.refl _ wA).drew | (apply s10_next hjl hkl1; rotate_left; assumption; assumption) | go_keep)
    (first
      | (go_at_call 70; with_reducible refine (CS.out _).mono ?_; rintro x w1 ⟨rfl, hb1, hA1⟩)
      | (go_at_call 69; with_reducible refine (CX.out _ v wA.heap.size ((JA.reads.below ((Below.refl _ wA).drew.trans hb1) (Nat.le_refl _))) (atL_drewk hA1)).mono ?_; rintro x w2 ⟨rfl, hb2⟩))
  have hB3 : Below wA.heap.size wA w2 := s10_below (by assumption)
  have hBD := hBA.trans (hB3.mono hBA.size)
  have J3 := JA.below hB3 (Nat.le_refl _)
  have C3 := CA.below hB3 CA.lt
  have U3 := UA.below hB3 UA.lt
  have u0 := U3.c 0 rfl; have u1 := U3.c 1 rfl; have u2 := U3.c 2 rfl; have u3 := U3.c 3 rfl; have u4 := U3.c 4 rfl; have u5 := U3.c 5 rfl
  have z0 := C3.c 0 rfl; have z1 := C3.c 1 rfl; have z2 := C3.c 2 rfl; have z3 := C3.c 3 rfl; have z4 := C3.c 4 rfl; have z5 := C3.c 5 rfl; have z6 := C3.c 6 rfl; have z7 := C3.c 7 rfl; have z8 := C3.c 8 rfl
  have j0 := J3.at_.c 0 rfl
  have hjl3 := J3.at_.lt
  have hkl3 := C3.lt
  have hul3 := U3.lt
  rw [HH.out] at z6
  go_wp2_with fail
  go_ret
  obtain rfl := HI.out
  exact ⟨rfl, hBD⟩
set_option maxRecDepth 20000 in
set_option maxHeartbeats 4000000 in
theorem setscript_b (s a b cc d e f : ByteArray) (now : Int) (T : Bool) (hT : takesB (u6 a b cc d e f) = T) (c : Ck) (hR : parseC s.data.toList T a b d now = (c, 0)) (w : World) (hs : s.size ≤ 100000) (hz : USize 40000 a b cc d e f) (hM : MaxAt w) (jb B : Nat) (v : Value) (l : List Ck) (nx : Int)
    (hJ : JarIn w jb B v l nx) (hl : l.length < 1000) (hh : c.hi = false) (kk : Nat) (hkl : kk < l.length) (hid : idxI (sameB c) l = kk) (hb : l[kk].hi = true) :
    Calls Tryz.prog 31 #[.pointer (some ⟨jb, 0, none⟩), .string s, urlA a b cc d e f, .int .i64 now] w fun x w' => x = .returned (.int .i64 7) ∧ Below w.heap.size w w' := by
  have HH := Lib.hid hh
  clear hh
  obtain ⟨kI, hkI⟩ : ∃ kI : Int, (kk : Int) = kI := ⟨_, rfl⟩
  rw [hkI] at hid
  obtain ⟨g, sc, rfl, hBg, hgw, hgj, hcell⟩ := hJ.row (by omega)
  have hc6 := hcell kk hkl 6 _ rfl
  rw [hb] at hc6
  have HC6 := Lib.hid hc6
  clear hcell hc6 hb
  obtain ⟨v, hv⟩ : ∃ v, (Value.slice (some ⟨g, 0, none⟩) l.length sc) = v := ⟨_, rfl⟩
  rw [hv] at hJ
  have HV := Lib.hid hv
  clear hv
  have CP := Lib.hid (fun w hM => cparse_ex s a b cc d e f now T hT c 0 hR w hs hz hM)
  have HM := Lib.hid hM
  have CS := Lib.hid (fun w => same_is c w)
  have CX := Lib.hid (fun (w : World) (v : Value) (k : Nat) (hv : SlK ckL 9 w v l) (hA : AtL w k (ckL c)) => idxs_is (sameB c) 97 #[.pointer (some ⟨k, 0, none⟩)] (enters_of Tryz.func97 (by kernel_rfl) rfl) l v w hv (same_pred c k w hA) (by omega) kI hid)
  have hb0 : Below w.heap.size w (w.alloc (.cells (urlL a b cc d e f).toArray 23)) := (Below.refl _ w).alloc (Nat.le_refl _) _
  have hM0 := hM.below hb0 (Nat.le_refl _)
  have U0 := AtL.new w (urlL a b cc d e f) 23
  have J0 := hJ.below hb0 (Nat.le_refl _)
  clear hid hR hT hs hz hM hJ
  go_enter Tryz.func31, Tryz.ntmps31
  go_wp2_with (go_at_call 12; with_reducible refine (CP.out _ hM0).mono ?_; rintro x w1 ⟨rfl, hb1⟩)
  have hB1 := hb0.trans (hb1.mono (by simp))
  have hal : Below w1.heap.size w1 (w1.alloc (.cells (ckL c).toArray 29)) := (Below.refl _ w1).alloc (Nat.le_refl _) _
  have hBA := hB1.trans (hal.mono hB1.size)
  have UA := (U0.next hb1).next hal
  have CA := AtL.new w1 (ckL c) 29
  have J1 := (J0.below hb1 (Nat.le_refl _))
  have hjK : jb ≠ w1.heap.size := Nat.ne_of_lt J1.at_.1
  have JA := J1.below hal (Nat.le_refl _)
  obtain ⟨wA, hwA⟩ : ∃ wA : World, w1.alloc (.cells (ckL c).toArray 29) = wA := ⟨_, rfl⟩
  obtain ⟨K, hK⟩ : ∃ K, w1.heap.size = K := ⟨_, rfl⟩
  obtain ⟨I, hI⟩ : ∃ I, w.heap.size = I := ⟨_, rfl⟩
  rw [hwA] at hBA UA CA JA
  rw [hK] at CA hjK
  rw [hI] at UA
  rw [hwA, hK, hI]
  have HI := Lib.hid hI
  clear hwA hK hI hb0 hM0 U0 J0 hB1 hal J1 hb1
  have S1 := s10_start JA.at_ CA
  have hjl := JA.at_.1
  have hkl1 := CA.1
  go_region_held3 (fun w' => w'.cell? ⟨jb, 0, none⟩ = some v ∧ w'.cell? ⟨K, 0, none⟩ = some (.string c.n) ∧ w'.cell? ⟨K, 1, none⟩ = some (.string c.v) ∧ w'.cell? ⟨K, 2, none⟩ = some (.string c.d) ∧ w'.cell? ⟨K, 3, none⟩ = some (.string c.p) ∧ w'.cell? ⟨K, 4, none⟩ = some (.bool c.ho) ∧ w'.cell? ⟨K, 5, none⟩ = some (.bool c.se) ∧ w'.cell? ⟨K, 6, none⟩ = some (.bool c.hi) ∧ w'.cell? ⟨K, 7, none⟩ = some (.int .i64 c.ex) ∧ w'.cell? ⟨K, 8, none⟩ = some (.int .i64 c.cr) ∧ Below wA.heap.size wA w') (first | exact s10_next hjl hkl1 S1 (Below.refl _ wA).drew | (apply s10_next hjl hkl1; rotate_left; assumption; assumption) | go_keep)
    (first
      | (go_at_call 70; with_reducible refine (CS.out _).mono ?_; rintro x w1 ⟨rfl, hb1, hA1⟩)
      | (go_at_call 69; with_reducible refine (CX.out _ v wA.heap.size ((JA.reads.below ((Below.refl _ wA).drew.trans hb1) (Nat.le_refl _))) (atL_drewk hA1)).mono ?_; rintro x w2 ⟨rfl, hb2⟩))
  have hB3 : Below wA.heap.size wA w2 := s10_below (by assumption)
  have hBD := hBA.trans (hB3.mono hBA.size)
  have J3 := JA.below hB3 (Nat.le_refl _)
  have C3 := CA.below hB3 CA.lt
  have U3 := UA.below hB3 UA.lt
  have u0 := U3.c 0 rfl; have u1 := U3.c 1 rfl; have u2 := U3.c 2 rfl; have u3 := U3.c 3 rfl; have u4 := U3.c 4 rfl; have u5 := U3.c 5 rfl
  have z0 := C3.c 0 rfl; have z1 := C3.c 1 rfl; have z2 := C3.c 2 rfl; have z3 := C3.c 3 rfl; have z4 := C3.c 4 rfl; have z5 := C3.c 5 rfl; have z6 := C3.c 6 rfl; have z7 := C3.c 7 rfl; have z8 := C3.c 8 rfl
  have j0 := J3.at_.c 0 rfl
  have hjl3 := J3.at_.lt
  have hkl3 := C3.lt
  have hul3 := U3.lt
  obtain rfl := HV.out
  have hc6 := (brl hBD _ _ hgw).trans HC6.out
  subst hkI
  rw [HH.out] at z6
  have hkz : (kk : Int) < (l.length : Int) := by omega
  have hk0 : (0 : Int) ≤ (kk : Int) := by omega
  go_wp2_with fail
  go_ret
  obtain rfl := HI.out
  exact ⟨rfl, hBD⟩
set_option maxRecDepth 20000 in
set_option maxHeartbeats 4000000 in
theorem setscript_c (s a b cc d e f : ByteArray) (now : Int) (T : Bool) (hT : takesB (u6 a b cc d e f) = T) (c : Ck) (hR : parseC s.data.toList T a b d now = (c, 0)) (w : World) (hs : s.size ≤ 100000) (hz : USize 40000 a b cc d e f) (hM : MaxAt w) (jb B : Nat) (v : Value) (l : List Ck) (nx : Int)
    (hJ : JarIn w jb B v l nx) (hl : l.length < 1000) (hh : c.hi = false) (kI : Int) (hid : idxI (sameB c) l = kI) (hb : kI = -1)
    (er : Int) (Q : World → Prop)
    (hst : ∀ w', Below w.heap.size w w' → Calls Tryz.prog 58 #[.pointer (some ⟨jb, 0, none⟩), ckA c, urlA a b cc d e f, .int .i64 now] w' fun x w'' => x = .returned (.int .i64 er) ∧ Q w'') :
    Calls Tryz.prog 31 #[.pointer (some ⟨jb, 0, none⟩), .string s, urlA a b cc d e f, .int .i64 now] w fun x w' => x = .returned (.int .i64 er) ∧ Q w' := by
  have hcA : ckA c = .agg #[.string c.n, .string c.v, .string c.d, .string c.p, .bool c.ho, .bool c.se, .bool false, .int .i64 c.ex, .int .i64 c.cr] := by
    obtain ⟨_, _, _, _, _, _, _, _, _⟩ := c
    simp only at hh
    subst hh
    rfl
  rw [hcA] at hst
  clear hcA
  have HH := Lib.hid hh
  clear hh
  have ST := Lib.hid hst
  clear hst
  have CP := Lib.hid (fun w hM => cparse_ex s a b cc d e f now T hT c 0 hR w hs hz hM)
  have HM := Lib.hid hM
  have CS := Lib.hid (fun w => same_is c w)
  have CX := Lib.hid (fun (w : World) (v : Value) (k : Nat) (hv : SlK ckL 9 w v l) (hA : AtL w k (ckL c)) => idxs_is (sameB c) 97 #[.pointer (some ⟨k, 0, none⟩)] (enters_of Tryz.func97 (by kernel_rfl) rfl) l v w hv (same_pred c k w hA) (by omega) kI hid)
  have hb0 : Below w.heap.size w (w.alloc (.cells (urlL a b cc d e f).toArray 23)) := (Below.refl _ w).alloc (Nat.le_refl _) _
  have hM0 := hM.below hb0 (Nat.le_refl _)
  have U0 := AtL.new w (urlL a b cc d e f) 23
  have J0 := hJ.below hb0 (Nat.le_refl _)
  clear hid hR hT hs hz hM hJ
  go_enter Tryz.func31, Tryz.ntmps31
  go_wp2_with (go_at_call 12; with_reducible refine (CP.out _ hM0).mono ?_; rintro x w1 ⟨rfl, hb1⟩)
  have hB1 := hb0.trans (hb1.mono (by simp))
  have hal : Below w1.heap.size w1 (w1.alloc (.cells (ckL c).toArray 29)) := (Below.refl _ w1).alloc (Nat.le_refl _) _
  have hBA := hB1.trans (hal.mono hB1.size)
  have UA := (U0.next hb1).next hal
  have CA := AtL.new w1 (ckL c) 29
  have J1 := (J0.below hb1 (Nat.le_refl _))
  have hjK : jb ≠ w1.heap.size := Nat.ne_of_lt J1.at_.1
  have JA := J1.below hal (Nat.le_refl _)
  obtain ⟨wA, hwA⟩ : ∃ wA : World, w1.alloc (.cells (ckL c).toArray 29) = wA := ⟨_, rfl⟩
  obtain ⟨K, hK⟩ : ∃ K, w1.heap.size = K := ⟨_, rfl⟩
  obtain ⟨I, hI⟩ : ∃ I, w.heap.size = I := ⟨_, rfl⟩
  rw [hwA] at hBA UA CA JA
  rw [hK] at CA hjK
  rw [hI] at UA
  rw [hwA, hK, hI]
  have HI := Lib.hid hI
  clear hwA hK hI hb0 hM0 U0 J0 hB1 hal J1 hb1
  have S1 := s10_start JA.at_ CA
  have hjl := JA.at_.1
  have hkl1 := CA.1
  go_region_held3 (fun w' => w'.cell? ⟨jb, 0, none⟩ = some v ∧ w'.cell? ⟨K, 0, none⟩ = some (.string c.n) ∧ w'.cell? ⟨K, 1, none⟩ = some (.string c.v) ∧ w'.cell? ⟨K, 2, none⟩ = some (.string c.d) ∧ w'.cell? ⟨K, 3, none⟩ = some (.string c.p) ∧ w'.cell? ⟨K, 4, none⟩ = some (.bool c.ho) ∧ w'.cell? ⟨K, 5, none⟩ = some (.bool c.se) ∧ w'.cell? ⟨K, 6, none⟩ = some (.bool c.hi) ∧ w'.cell? ⟨K, 7, none⟩ = some (.int .i64 c.ex) ∧ w'.cell? ⟨K, 8, none⟩ = some (.int .i64 c.cr) ∧ Below wA.heap.size wA w') (first | exact s10_next hjl hkl1 S1 (Below.refl _ wA).drew | (apply s10_next hjl hkl1; rotate_left; assumption; assumption) | go_keep)
    (first
      | (go_at_call 70; with_reducible refine (CS.out _).mono ?_; rintro x w1 ⟨rfl, hb1, hA1⟩)
      | (go_at_call 69; with_reducible refine (CX.out _ v wA.heap.size ((JA.reads.below ((Below.refl _ wA).drew.trans hb1) (Nat.le_refl _))) (atL_drewk hA1)).mono ?_; rintro x w2 ⟨rfl, hb2⟩))
  have hB3 : Below wA.heap.size wA w2 := s10_below (by assumption)
  have hBD := hBA.trans (hB3.mono hBA.size)
  have J3 := JA.below hB3 (Nat.le_refl _)
  have C3 := CA.below hB3 CA.lt
  have U3 := UA.below hB3 UA.lt
  have u0 := U3.c 0 rfl; have u1 := U3.c 1 rfl; have u2 := U3.c 2 rfl; have u3 := U3.c 3 rfl; have u4 := U3.c 4 rfl; have u5 := U3.c 5 rfl
  have z0 := C3.c 0 rfl; have z1 := C3.c 1 rfl; have z2 := C3.c 2 rfl; have z3 := C3.c 3 rfl; have z4 := C3.c 4 rfl; have z5 := C3.c 5 rfl; have z6 := C3.c 6 rfl; have z7 := C3.c 7 rfl; have z8 := C3.c 8 rfl
  have j0 := J3.at_.c 0 rfl
  have hjl3 := J3.at_.lt
  have hkl3 := C3.lt
  have hul3 := U3.lt
  subst hb
  have hBD' := hBD
  rw [HH.out] at z6
  go_wp2_with (go_at_call 58; with_reducible refine (ST.out _ hBD').mono ?_; rintro x w2 ⟨rfl, hq⟩)
  all_goals first
    | exact absurd ‹c.hi = true› (by rw [HH.out]; decide)
    | (go_ret; exact ⟨rfl, hq⟩)
set_option maxRecDepth 20000 in
set_option maxHeartbeats 4000000 in
theorem setscript_d (s a b cc d e f : ByteArray) (now : Int) (T : Bool) (hT : takesB (u6 a b cc d e f) = T) (c : Ck) (hR : parseC s.data.toList T a b d now = (c, 0)) (w : World) (hs : s.size ≤ 100000) (hz : USize 40000 a b cc d e f) (hM : MaxAt w) (jb B : Nat) (v : Value) (l : List Ck) (nx : Int)
    (hJ : JarIn w jb B v l nx) (hl : l.length < 1000) (hh : c.hi = false) (kk : Nat) (hkl : kk < l.length) (hid : idxI (sameB c) l = kk) (hb : l[kk].hi = false)
    (er : Int) (Q : World → Prop)
    (hst : ∀ w', Below w.heap.size w w' → Calls Tryz.prog 58 #[.pointer (some ⟨jb, 0, none⟩), ckA c, urlA a b cc d e f, .int .i64 now] w' fun x w'' => x = .returned (.int .i64 er) ∧ Q w'') :
    Calls Tryz.prog 31 #[.pointer (some ⟨jb, 0, none⟩), .string s, urlA a b cc d e f, .int .i64 now] w fun x w' => x = .returned (.int .i64 er) ∧ Q w' := by
  have hcA : ckA c = .agg #[.string c.n, .string c.v, .string c.d, .string c.p, .bool c.ho, .bool c.se, .bool false, .int .i64 c.ex, .int .i64 c.cr] := by
    obtain ⟨_, _, _, _, _, _, _, _, _⟩ := c
    simp only at hh
    subst hh
    rfl
  rw [hcA] at hst
  clear hcA
  have HH := Lib.hid hh
  clear hh
  have ST := Lib.hid hst
  clear hst
  obtain ⟨kI, hkI⟩ : ∃ kI : Int, (kk : Int) = kI := ⟨_, rfl⟩
  rw [hkI] at hid
  obtain ⟨g, sc, rfl, hBg, hgw, hgj, hcell⟩ := hJ.row (by omega)
  have hc6 := hcell kk hkl 6 _ rfl
  rw [hb] at hc6
  have HC6 := Lib.hid hc6
  clear hcell hc6 hb
  obtain ⟨v, hv⟩ : ∃ v, (Value.slice (some ⟨g, 0, none⟩) l.length sc) = v := ⟨_, rfl⟩
  rw [hv] at hJ
  have HV := Lib.hid hv
  clear hv
  have CP := Lib.hid (fun w hM => cparse_ex s a b cc d e f now T hT c 0 hR w hs hz hM)
  have HM := Lib.hid hM
  have CS := Lib.hid (fun w => same_is c w)
  have CX := Lib.hid (fun (w : World) (v : Value) (k : Nat) (hv : SlK ckL 9 w v l) (hA : AtL w k (ckL c)) => idxs_is (sameB c) 97 #[.pointer (some ⟨k, 0, none⟩)] (enters_of Tryz.func97 (by kernel_rfl) rfl) l v w hv (same_pred c k w hA) (by omega) kI hid)
  have hb0 : Below w.heap.size w (w.alloc (.cells (urlL a b cc d e f).toArray 23)) := (Below.refl _ w).alloc (Nat.le_refl _) _
  have hM0 := hM.below hb0 (Nat.le_refl _)
  have U0 := AtL.new w (urlL a b cc d e f) 23
  have J0 := hJ.below hb0 (Nat.le_refl _)
  clear hid hR hT hs hz hM hJ
  go_enter Tryz.func31, Tryz.ntmps31
  go_wp2_with (go_at_call 12; with_reducible refine (CP.out _ hM0).mono ?_; rintro x w1 ⟨rfl, hb1⟩)
  have hB1 := hb0.trans (hb1.mono (by simp))
  have hal : Below w1.heap.size w1 (w1.alloc (.cells (ckL c).toArray 29)) := (Below.refl _ w1).alloc (Nat.le_refl _) _
  have hBA := hB1.trans (hal.mono hB1.size)
  have UA := (U0.next hb1).next hal
  have CA := AtL.new w1 (ckL c) 29
  have J1 := (J0.below hb1 (Nat.le_refl _))
  have hjK : jb ≠ w1.heap.size := Nat.ne_of_lt J1.at_.1
  have JA := J1.below hal (Nat.le_refl _)
  obtain ⟨wA, hwA⟩ : ∃ wA : World, w1.alloc (.cells (ckL c).toArray 29) = wA := ⟨_, rfl⟩
  obtain ⟨K, hK⟩ : ∃ K, w1.heap.size = K := ⟨_, rfl⟩
  obtain ⟨I, hI⟩ : ∃ I, w.heap.size = I := ⟨_, rfl⟩
  rw [hwA] at hBA UA CA JA
  rw [hK] at CA hjK
  rw [hI] at UA
  rw [hwA, hK, hI]
  have HI := Lib.hid hI
  clear hwA hK hI hb0 hM0 U0 J0 hB1 hal J1 hb1
  have S1 := s10_start JA.at_ CA
  have hjl := JA.at_.1
  have hkl1 := CA.1
  go_region_held3 (fun w' => w'.cell? ⟨jb, 0, none⟩ = some v ∧ w'.cell? ⟨K, 0, none⟩ = some (.string c.n) ∧ w'.cell? ⟨K, 1, none⟩ = some (.string c.v) ∧ w'.cell? ⟨K, 2, none⟩ = some (.string c.d) ∧ w'.cell? ⟨K, 3, none⟩ = some (.string c.p) ∧ w'.cell? ⟨K, 4, none⟩ = some (.bool c.ho) ∧ w'.cell? ⟨K, 5, none⟩ = some (.bool c.se) ∧ w'.cell? ⟨K, 6, none⟩ = some (.bool c.hi) ∧ w'.cell? ⟨K, 7, none⟩ = some (.int .i64 c.ex) ∧ w'.cell? ⟨K, 8, none⟩ = some (.int .i64 c.cr) ∧ Below wA.heap.size wA w') (first | exact s10_next hjl hkl1 S1 (Below.refl _ wA).drew | (apply s10_next hjl hkl1; rotate_left; assumption; assumption) | go_keep)
    (first
      | (go_at_call 70; with_reducible refine (CS.out _).mono ?_; rintro x w1 ⟨rfl, hb1, hA1⟩)
      | (go_at_call 69; with_reducible refine (CX.out _ v wA.heap.size ((JA.reads.below ((Below.refl _ wA).drew.trans hb1) (Nat.le_refl _))) (atL_drewk hA1)).mono ?_; rintro x w2 ⟨rfl, hb2⟩))
  have hB3 : Below wA.heap.size wA w2 := s10_below (by assumption)
  have hBD := hBA.trans (hB3.mono hBA.size)
  have J3 := JA.below hB3 (Nat.le_refl _)
  have C3 := CA.below hB3 CA.lt
  have U3 := UA.below hB3 UA.lt
  have u0 := U3.c 0 rfl; have u1 := U3.c 1 rfl; have u2 := U3.c 2 rfl; have u3 := U3.c 3 rfl; have u4 := U3.c 4 rfl; have u5 := U3.c 5 rfl
  have z0 := C3.c 0 rfl; have z1 := C3.c 1 rfl; have z2 := C3.c 2 rfl; have z3 := C3.c 3 rfl; have z4 := C3.c 4 rfl; have z5 := C3.c 5 rfl; have z6 := C3.c 6 rfl; have z7 := C3.c 7 rfl; have z8 := C3.c 8 rfl
  have j0 := J3.at_.c 0 rfl
  have hjl3 := J3.at_.lt
  have hkl3 := C3.lt
  have hul3 := U3.lt
  obtain rfl := HV.out
  have hc6 := (brl hBD _ _ hgw).trans HC6.out
  subst hkI
  have hBD' := hBD
  rw [HH.out] at z6
  have hkz : (kk : Int) < (l.length : Int) := by omega
  have hk0 : (0 : Int) ≤ (kk : Int) := by omega
  go_wp2_with (go_at_call 58; with_reducible refine (ST.out _ hBD').mono ?_; rintro x w2 ⟨rfl, hq⟩)
  go_ret
  exact ⟨rfl, hq⟩
end Go.Proofs.YtgjooigolgdocaaGreatDoor

/- Cookies: the reference's Set: what does not change the jar. -/
namespace Go.Proofs.YtgjooigolgdocaaGreatDoor
set_option linter.unusedVariables false
set_option linter.unusedSimpArgs false
open Go.RowKit

theorem sameB_comm (c d : Ck) : sameB c d = sameB d c := by
  unfold sameB
  rw [Bool.beq_comm (a := c.n.toList), Bool.beq_comm (a := c.d.toList), Bool.beq_comm (a := c.p.toList)]
/-- a place counted downwards -/
def DownI (k : Nat) (i : Int) : Prop := (k = 0 ∧ i = -1) ∨ (∃ m : Nat, k = m + 1 ∧ i = m)
theorem down_pred (m : Nat) : DownI m ((m : Int) - 1) := by
  cases m with
  | zero => exact .inl ⟨rfl, rfl⟩
  | succ m => exact .inr ⟨m, rfl, by omega⟩
/-- the first place from k on at which p holds, or -1 -/
def AtK (p : Ck → Bool) (l : List Ck) (k : Nat) (A : Int) : Prop :=
  (A = -1 ∧ ∀ j (h : j < l.length), k ≤ j → p l[j] = false) ∨ (∃ a, ∃ h : a < l.length, A = a ∧ k ≤ a ∧ p l[a] = true ∧ ∀ j (h2 : j < l.length), k ≤ j → j < a → p l[j] = false)
theorem atK_start (p : Ck → Bool) (l : List Ck) : AtK p l l.length (-1) := .inl ⟨rfl, fun j h h2 => by omega⟩
theorem atK_zero {p : Ck → Bool} {l : List Ck} {A : Int} (h : AtK p l 0 A) : A = idxI p l := by
  rcases h with ⟨rfl, h⟩ | ⟨a, ha, rfl, _, h1, h2⟩
  · exact (idxI_miss p l fun j hj => h j hj (Nat.zero_le _)).symm
  · exact (idxI_hit p l a ha h1 fun j hj => h2 j (by omega) (Nat.zero_le _) hj).symm
theorem atK_hit {p : Ck → Bool} {l : List Ck} {m : Nat} (hm : m < l.length) (h : p l[m] = true) : AtK p l m m := .inr ⟨m, hm, rfl, Nat.le_refl _, h, fun j h2 h3 h4 => by omega⟩
theorem atK_miss {p : Ck → Bool} {l : List Ck} {m : Nat} {A : Int} (h : AtK p l (m + 1) A) (hm : m < l.length) (hp : p l[m] = false) : AtK p l m A := by
  rcases h with ⟨rfl, h⟩ | ⟨a, ha, rfl, h0, h1, h2⟩
  · refine .inl ⟨rfl, fun j hj hmj => ?_⟩
    rcases Nat.eq_or_lt_of_le hmj with rfl | h3
    · exact hp
    · exact h j hj h3
  · refine .inr ⟨a, ha, rfl, by omega, h1, fun j hj hmj hja => ?_⟩
    rcases Nat.eq_or_lt_of_le hmj with rfl | h3
    · exact hp
    · exact h2 j hj h3 hja
/-- the results of a function that gives a struct of two cells and one thing more -/
theorem ret2x_run {P : Program} {fn : Func} {q T r : Nat} (hr : fn.results = #[.cell q T, .tmp r]) (hz : ∀ w, (Go.sizeOf T).run P w = .ok 2 w) (ha : ∀ w, (isAgg T).run P w = .ok true w) (tmps : Array Value) (W : World) (k : Nat) (a b x : Value) (h2 : tmps.getD q undef = .pointer (some ⟨k, 0, none⟩)) (h3 : tmps.getD r undef = x) (hA : AtL W k [a, b]) :
    (results fn tmps).run P W = .ok (.tuple #[.agg #[a, b], x]) W := by
  have c0 := hA.c 0 rfl
  have c1 := hA.c 1 rfl
  rw [Array.getD_eq_getD_getElem?] at h2 h3
  simp [results, hr, h2, h3, go_sem, hz, ha, c0, c1]
theorem SlK.base {α : Type} {enc : α → List Value} {k : Nat} {w : World} {sa : Option Addr} {n c : Nat} {l : List α} (h : SlK enc k w (.slice sa n c) l) : ∀ b0 off, sa = some ⟨b0, off, none⟩ → 0 < l.length → b0 < w.heap.size := by
  rintro b0 off rfl h0
  rcases h with ⟨rfl, _⟩ | ⟨_, b1, off1, cap, he, _, _, h4, _⟩
  · simp at h0
  · injection he with e1
    injection e1 with e1
    injection e1 with e1
    subst e1; exact h4
/-- what the reference's Set gives -/
def RsQ (w : World) (l' : List Ck) (nx' er : Int) (x : Ending) (w' : World) : Prop := ∃ v', x = .returned (.tuple #[.agg #[v', .int .i64 nx'], .int .i64 er]) ∧ SlK ckL 9 w' v' l' ∧ Below w.heap.size w w'
theorem own_nb {w : World} {b e s n k : Nat} {v : Value} {xs : List Value} (h : w.ownsRow b e s v n xs) (hk : k < b) : v.ownBlock ≠ some k := fun e => by have := own_base h e; omega
theorem RsQ.mk {w w' : World} {l' : List Ck} {nx' er : Int} {v' : Value} (h1 : SlK ckL 9 w' v' l') (h2 : Below w.heap.size w w') : RsQ w l' nx' er (.returned (.tuple #[.agg #[v', .int .i64 nx'], .int .i64 er])) w' := ⟨v', rfl, h1, h2⟩
set_option maxRecDepth 20000 in
set_option maxHeartbeats 8000000 in
theorem rset_err (s a b cc d e f : ByteArray) (now : Int) (T : Bool) (hT : takesB (u6 a b cc d e f) = T) (c : Ck) (hR : parseC s.data.toList T a b d now = (c, 0)) (w : World) (hs : s.size ≤ 100000) (hz : USize 40000 a b cc d e f) (hM : MaxAt w) (v : Value) (l : List Ck) (nx : Int)
    (hv : SlK ckL 9 w v l) (hll : l.length ≤ 1000) (sc : Bool) (kI : Int) (hid : idxI (sameB c) l = kI)
    (hE : (sc = true ∧ c.hi = true) ∨ (∃ kk : Nat, ∃ h : kk < l.length, kI = kk ∧ ((sc = true ∧ l[kk].hi = true) ∨ (l[kk].se = true ∧ a.data.toList ≠ httpsL)))) :
    Calls Tryz.prog 32 #[.agg #[v, .int .i64 nx], .string s, urlA a b cc d e f, .int .i64 now, .bool sc] w fun x w' => x = .returned (.tuple #[.agg #[v, .int .i64 nx], .int .i64 7]) ∧ Below w.heap.size w w' := by
  have HID := Lib.hid hid
  have HE := Lib.hid hE
  clear hid hE
  have CP := Lib.hid (fun w hM => rparse_ex s a b cc d e f now T hT c 0 hR w hs hz hM)
  have CA := Lib.hid (fun (y : Ck) (R : Bool) (h : sameB c y = R) (X : Int) (W : World) => alike_is y { c with cr := X } R (by rw [← h]; exact sameB_comm y c) W)
  have hb0 : Below w.heap.size w (((w.alloc (.cells [v, .int .i64 nx].toArray 46)).alloc (.cells (urlL a b cc d e f).toArray 23)).alloc (.cells [.slice none 0 0, .int .i64 0].toArray 46)) := (((Below.refl _ w).alloc (Nat.le_refl _) _).alloc (by simp) _).alloc (by simp; omega) _
  have J0 := ((AtL.new w [v, .int .i64 nx] 46).alloc (.cells (urlL a b cc d e f).toArray 23)).alloc (.cells [.slice none 0 0, .int .i64 0].toArray 46)
  have I0 := (AtL.new (w.alloc (.cells [v, .int .i64 nx].toArray 46)) (urlL a b cc d e f) 23).alloc (.cells [.slice none 0 0, .int .i64 0].toArray 46)
  have O0 := AtL.new ((w.alloc (.cells [v, .int .i64 nx].toArray 46)).alloc (.cells (urlL a b cc d e f).toArray 23)) [.slice none 0 0, .int .i64 0] 46
  rw [show (w.alloc (.cells [v, .int .i64 nx].toArray 46)).heap.size = w.heap.size + 1 by simp] at I0
  rw [show ((w.alloc (.cells [v, .int .i64 nx].toArray 46)).alloc (.cells (urlL a b cc d e f).toArray 23)).heap.size = w.heap.size + 1 + 1 by simp] at O0
  have hM0 := hM.below hb0 (Nat.le_refl _)
  have hv0 := hv.below hb0 (Nat.le_refl _)
  obtain ⟨sa, sl, rfl, _⟩ := hv.shape
  have HBW := Lib.hid hv.base
  clear hR hT hs hz hM hv
  go_enter Tryz.func32, Tryz.ntmps32
  go_wp2_with fail
  obtain ⟨w0, hw0⟩ : ∃ w0 : World, ((w.alloc (.cells [.slice sa l.length sl, .int .i64 nx].toArray 46)).alloc (.cells (urlL a b cc d e f).toArray 23)).alloc (.cells [.slice none 0 0, .int .i64 0].toArray 46) = w0 := ⟨_, rfl⟩
  obtain ⟨O, hO⟩ : ∃ O, w.heap.size + 1 + 1 = O := ⟨_, rfl⟩
  obtain ⟨I, hI⟩ : ∃ I, w.heap.size + 1 = I := ⟨_, rfl⟩
  obtain ⟨J, hJ⟩ : ∃ J, w.heap.size = J := ⟨_, rfl⟩
  have hJI : J < I := by omega
  have hIO : I < O := by omega
  have hgw0 : w.heap.size ≤ J := by omega
  rw [hw0] at J0 I0 O0 hb0 hM0 hv0
  rw [hO] at O0
  rw [hI] at I0
  rw [hJ] at J0
  rw [hw0, hO, hI, hJ]
  have HJ := Lib.hid hJ
  clear hw0 hO hI hJ
  have j0 := J0.c 0 rfl; have j1 := J0.c 1 rfl
  have u0 := I0.c 0 rfl; have u1 := I0.c 1 rfl; have u2 := I0.c 2 rfl; have u3 := I0.c 3 rfl; have u4 := I0.c 4 rfl; have u5 := I0.c 5 rfl
  have jl0 := J0.lt
  have il0 := I0.lt
  have ol0 := O0.lt
  go_wp2_with (go_at_call 13; with_reducible refine (CP.out _ hM0).mono ?_; rintro x w1 ⟨rfl, hb1⟩; have hal : Below w1.heap.size w1 (w1.alloc (.cells (ckL c).toArray 29)) := (Below.refl _ w1).alloc (Nat.le_refl _) _; have JA := (J0.next hb1).next hal; have IA := (I0.next hb1).next hal; have OA := (O0.next hb1).next hal; have KA := AtL.new w1 (ckL c) 29; have hvA := (hv0.below hb1 (Nat.le_refl _)).below hal (Nat.le_refl _); have hB1 := hb0.trans (hb1.mono hb0.size); have hBA := hB1.trans (hal.mono hB1.size); have hOK := (O0.next hb1).lt; clear j0 j1 u0 u1 u2 u3 u4 u5; have j0 := JA.c 0 rfl; have j1 := JA.c 1 rfl; have u0 := IA.c 0 rfl; have u1 := IA.c 1 rfl; have u2 := IA.c 2 rfl; have u3 := IA.c 3 rfl; have u4 := IA.c 4 rfl; have u5 := IA.c 5 rfl; have jlA := JA.lt; have ilA := IA.lt)
  obtain ⟨wA, hwA⟩ : ∃ wA : World, w1.alloc (.cells (ckL c).toArray 29) = wA := ⟨_, rfl⟩
  obtain ⟨K, hK⟩ : ∃ K, w1.heap.size = K := ⟨_, rfl⟩
  rw [hwA] at JA IA OA KA hvA hBA j0 j1 u0 u1 u2 u3 u4 u5 jlA ilA
  rw [hK] at KA hOK
  rw [hwA, hK]
  clear hwA hK hal hb1 hb0 hM0 hv0 J0 I0 O0 hB1 jl0 il0 ol0
  clear j0 j1 u0 u1 u2 u3 u4 u5 jlA ilA
  have hROW : ∀ m (h : m < l.length), ∃ b0 off : Nat, sa = some ⟨b0, off, none⟩ ∧ b0 < J ∧ ∀ q u, (ckL l[m])[q]? = some u → wA.cell? ⟨b0, off + m * 9 + q, none⟩ = some u := fun m h => by
    rcases hvA with ⟨rfl, _⟩ | ⟨_, b0, off, cap, he, hc1, hc2, hc3, hcell⟩
    · simp at h
    injection he with e1 e2 e3
    exact ⟨b0, off, e1, by rw [← HJ.out]; exact HBW.out _ _ e1 (by omega), fun q u hu => hcell m h q u hu⟩
  have HROW := Lib.hid hROW
  clear hROW hvA
  have HLL := Lib.hid hll
  clear hll
  go_loopw [14, 15] (fun av iv wr => ∃ (k : Nat) (A i : Int), iv = .int .i64 i ∧ av = .int .i64 A ∧ k ≤ l.length ∧ DownI k i ∧ AtK (sameB c) l k A ∧ Below wA.heap.size wA wr) (fun _ iv _ => (intOf iv + 1).toNat)
  case atStart => exact ⟨l.length, -1, (l.length : Int) - 1, by go_num, rfl, Nat.le_refl _, down_pred l.length, atK_start _ _, Below.refl _ _⟩
  case round =>
    obtain ⟨k, A, i, rfl, rfl, hk, hd, hA, hbw⟩ := hrel
    have HA := Lib.hid hA
    clear hA
    have JB := JA.below hbw JA.lt
    have IB := IA.below hbw IA.lt
    have KB := KA.below hbw KA.lt
    have j0 := JB.c 0 rfl; have j1 := JB.c 1 rfl
    have z0 := KB.c 0 rfl; have z1 := KB.c 1 rfl; have z2 := KB.c 2 rfl; have z3 := KB.c 3 rfl; have z4 := KB.c 4 rfl; have z5 := KB.c 5 rfl; have z6 := KB.c 6 rfl; have z7 := KB.c 7 rfl; have z8 := KB.c 8 rfl
    have jlB := JB.lt
    have klB := KB.lt
    rcases hd with ⟨rfl, rfl⟩ | ⟨m, rfl, rfl⟩
    rotate_left
    · have hm : m < l.length := by omega
      have hmz : (m : Int) < (l.length : Int) := by omega
      have hm1000 : m ≤ 1000 := by have := HLL.out; omega
      obtain ⟨b0, off, rfl, hb0, hcell⟩ := HROW.out m hm
      have cc : ∀ j u, (ckL l[m])[j]? = some u → wr.cell? ⟨b0, off + m * 9 + j, none⟩ = some u := fun j u hu => (brl hbw _ _ (cell_lt (hcell j u hu))).trans (hcell j u hu)
      obtain ⟨y, hy⟩ : ∃ y, l[m] = y := ⟨_, rfl⟩
      rw [hy] at cc
      have HY := Lib.hid hy
      clear hy hcell
      obtain ⟨yn, yv, yd, yp, yho, yse, yhi, yex, ycr⟩ := y
      have c0 := cc 0 _ rfl
      have c1 := cc 1 _ rfl
      have c2 := cc 2 _ rfl
      have c3 := cc 3 _ rfl
      have c4 := cc 4 _ rfl
      have c5 := cc 5 _ rfl
      have c6 := cc 6 _ rfl
      have c7 := cc 7 _ rfl
      have c8 := cc 8 _ rfl
      simp only [Nat.add_zero] at c0
      clear cc
      obtain ⟨R, hR⟩ : ∃ R, sameB c ⟨yn, yv, yd, yp, yho, yse, yhi, yex, ycr⟩ = R := ⟨_, rfl⟩
      have CAR := Lib.hid (fun W => CA.out _ R hR c.cr W)
      have HR := Lib.hid hR
      clear hR
      cases R
      all_goals
        go_wp2_with fail
        go_region_with (go_at_call 71; with_reducible refine (CAR.out _).mono ?_; rintro x w2 ⟨rfl, hb2⟩)
        all_goals
          go_wp2_with fail
          go_roundw
          case rel => exact ⟨m, _, (m : Int) - 1, by go_num, by go_num, by omega, down_pred m, by first | exact atK_miss HA.out hm (by rw [HY.out]; exact HR.out) | exact atK_hit hm (by rw [HY.out]; exact HR.out), hbw.trans ((Below.refl _ wr).drew.trans hb2 |>.mono hbw.size)⟩
          case measure => first | (simp [intOf]; done) | (simp [intOf]; omega)
    · have hA0 := atK_zero HA.out
      rw [HID.out] at hA0
      subst hA0
      clear HA
      have u0 := IB.c 0 rfl; have u1 := IB.c 1 rfl; have u2 := IB.c 2 rfl; have u3 := IB.c 3 rfl; have u4 := IB.c 4 rfl; have u5 := IB.c 5 rfl
      have ilB := IB.lt
      have hBB := hBA.trans (hbw.mono hBA.size)
      have hcol := OA.below hbw OA.lt
      have f0 := hcol.f 0 rfl
      have f1 := hcol.f 1 rfl
      have g0 := hcol.c 0 rfl
      have g1 := hcol.c 1 rfl
      have olB := hcol.lt
      obtain rfl := HJ.out
      rcases HE.out with ⟨rfl, hc⟩ | ⟨kk, hkl, hkI, hE⟩
      · rw [hc] at z6
        clear HE
        go_wp2_with fail
        refine bodyPost_ret (ret2x_run (q := 10) (r := 11) (T := 46) (by rfl) (fun w => by kernel_rfl) (fun w => by kernel_rfl) _ _ O _ _ _ (by rfl) (by rfl) ((hcol.set 0 _).set 1 _)) rfl ⟨rfl, (hBB.setCell (by show w.heap.size ≤ O; omega) _).setCell (by show w.heap.size ≤ O; omega) _⟩
      · subst hkI
        obtain ⟨b0, off, rfl, hb0, hcell⟩ := HROW.out kk hkl
        have cc : ∀ j u, (ckL l[kk])[j]? = some u → wr.cell? ⟨b0, off + kk * 9 + j, none⟩ = some u := fun j u hu => (brl hbw _ _ (cell_lt (hcell j u hu))).trans (hcell j u hu)
        have y5 := cc 5 _ rfl
        have y6 := cc 6 _ rfl
        clear cc hcell
        have hkz : (kk : Int) < (l.length : Int) := by omega
        have hk0 : (0 : Int) ≤ (kk : Int) := by omega
        clear HE
        obtain ⟨p, hp⟩ : ∃ p, c.hi = p := ⟨_, rfl⟩
        obtain ⟨q, hq⟩ : ∃ q, l[kk].hi = q := ⟨_, rfl⟩
        rw [hp] at z6
        rw [hq] at y6
        rw [hq] at hE
        clear hp hq
        rcases hE with ⟨rfl, rfl⟩ | ⟨hse, hsc⟩
        · cases p
          all_goals
            go_wp2_with fail
            refine bodyPost_ret (ret2x_run (q := 10) (r := 11) (T := 46) (by rfl) (fun w => by kernel_rfl) (fun w => by kernel_rfl) _ _ O _ _ _ (by rfl) (by rfl) ((hcol.set 0 _).set 1 _)) rfl ⟨rfl, (hBB.setCell (by show w.heap.size ≤ O; omega) _).setCell (by show w.heap.size ≤ O; omega) _⟩
        · rw [hse] at y5
          have hs2 : ¬ a.toList = [104, 116, 116, 112, 115] := by rw [ByteArray.toList_eq]; exact hsc
          have hs3 : (a.toList == [104, 116, 116, 112, 115]) = false := beq_eq_false_iff_ne.2 hs2
          clear hse hsc
          cases sc <;> cases p <;> cases q
          all_goals
            go_wp2_with fail
            refine bodyPost_ret (ret2x_run (q := 10) (r := 11) (T := 46) (by rfl) (fun w => by kernel_rfl) (fun w => by kernel_rfl) _ _ O _ _ _ (by rfl) (by rfl) ((hcol.set 0 _).set 1 _)) rfl ⟨rfl, (hBB.setCell (by show w.heap.size ≤ O; omega) _).setCell (by show w.heap.size ≤ O; omega) _⟩
end Go.Proofs.YtgjooigolgdocaaGreatDoor
