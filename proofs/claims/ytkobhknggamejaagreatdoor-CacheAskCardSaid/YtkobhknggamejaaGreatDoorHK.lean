/- Cache: rows of entries: slices.IndexFunc and slices.DeleteFunc. -/
import Derived.Test.YtkobhknggamejaaGreatDoorHJ
namespace Go.Proofs.YtkobhknggamejaaGreatDoor
set_option linter.unusedVariables false
set_option linter.unusedSimpArgs false
open Go.RowKit

abbrev eeput (W : World) (g o : Nat) (c : Ee) : World := ((((((W.setCell ⟨g, o, none⟩ (.string c.1.u)).setCell ⟨g, o + 1, none⟩ (c.1.vv)).setCell ⟨g, o + 2, none⟩ (.int .i64 c.1.st)).setCell ⟨g, o + 3, none⟩ (c.1.hv)).setCell ⟨g, o + 4, none⟩ (.string c.1.bo)).setCell ⟨g, o + 5, none⟩ (.int .i64 c.1.ti))
theorem eeput_eq (W : World) (g o : Nat) (c : Ee) : eeput W g o c = W.setCells g o (eeC c) := rfl
theorem eelen (c : Ee) : (eeC c).length = 6 := rfl
theorem eeown_put {w : World} {b e n g cap : Nat} {l : List Ee} (hl : l.length = n) (h : w.ownsRow b e 6 (.slice (some ⟨g, 0, none⟩) n cap) n (cellsK eeC l)) (k : Nat) (hk : k < n) (c : Ee) :
    (eeput w g (k * 6) c).ownsRow b e 6 (.slice (some ⟨g, 0, none⟩) n cap) n (cellsK eeC (l.set k c)) := by
  rw [eeput_eq, cellsK_set eelen l k (by omega) c]
  exact own_setCells2 (eeC c) (k * 6) w _ h (by rw [eelen]; omega)
set_option maxRecDepth 20000 in
set_option maxHeartbeats 2000000 in
theorem eeidxf (p : Ee → Bool) (g : Nat) (cb : Array Value) (eg : ∀ args w, (callFunc g args).run Tryz.prog w = .ok (.enter g args) w) (l : List Ee) (b off cap : Nat) (w : World)
    (hp : ∀ W d, d ∈ l → Below w.heap.size w W → Calls Tryz.prog g (#[eeA d] ++ cb) W fun e W' => e = .returned (.bool (p d)) ∧ Below W.heap.size W W') (hn : l.length ≤ 1000000) (hb : b < w.heap.size) (hc : ∀ i (h : i < l.length) j u, (eeC l[i])[j]? = some u → w.cell? ⟨b, off + i * 6 + j, none⟩ = some u) (R : Int) (hR : idxI p l = R) :
    Calls Tryz.prog 78 #[.slice (some ⟨b, off, none⟩) l.length cap, .func (.func g) #[] cb] w fun e w' => e = .returned (.int .i64 R) ∧ Below w.heap.size w w' := by
  have HR := Lib.hid hR
  have HC := Lib.hid hc
  have HP := Lib.hid hp
  clear hR hc hp
  go_enter Tryz.func78, Tryz.ntmps78
  go_wp2
  go_loopw [5, 8] (fun _ s8 wr => ∃ kk : Nat, kk ≤ l.length ∧ s8 = .int .i64 kk ∧ Below w.heap.size w wr ∧ ∀ j (h : j < l.length), j < kk → p l[j] = false) (fun _ s8 _ => l.length - (intOf s8).toNat)
  case atStart => exact ⟨0, Nat.zero_le _, rfl, Below.refl _ w, fun j _ hj => absurd hj (Nat.not_lt_zero _)⟩
  case round =>
    obtain ⟨kk, hkk, rfl, BW, A⟩ := hrel
    have HA := Lib.hid A
    clear A
    by_cases hlt : kk < l.length
    · have hltz : (kk : Int) < (l.length : Int) := by omega
      have hcc := HC.out kk hlt
      have cc : ∀ j u, (eeC l[kk])[j]? = some u → wr.cell? ⟨b, off + kk * 6 + j, none⟩ = some u := fun j u hu => (BW.cell (p := ⟨b, off + kk * 6 + j, none⟩) hb).trans (hcc j u hu)
      have hcall := HP.out wr l[kk] (List.getElem_mem hlt) BW
      obtain ⟨y, hy⟩ : ∃ y, l[kk] = y := ⟨_, rfl⟩
      rw [hy] at cc hcall
      have HY := Lib.hid hy
      have c0 := cc 0 _ rfl
      have c1 := cc 1 _ rfl
      have c2 := cc 2 _ rfl
      have c3 := cc 3 _ rfl
      have c4 := cc 4 _ rfl
      have c5 := cc 5 _ rfl
      simp only [Nat.add_zero] at c0
      clear cc hcc hy
      have hBs := BW.size
      cases hq : p y with
      | true =>
        rw [hq] at hcall
        have HQ := Lib.hid hq
        have HCall := Lib.hid hcall
        clear hq hcall
        go_wp2_with (go_at_fn g; refine HCall.out.mono ?_; rintro e w' ⟨rfl, hb'⟩)
        go_ret
        exact ⟨ret_int (by rw [← HR.out]; exact (idxI_hit p l kk hlt (by rw [HY.out]; exact HQ.out) (fun j hj => HA.out j (by omega) hj)).symm), BW.trans (hb'.mono hBs)⟩
      | false =>
        rw [hq] at hcall
        have HQ := Lib.hid hq
        have HCall := Lib.hid hcall
        clear hq hcall
        go_wp2_with (go_at_fn g; refine HCall.out.mono ?_; rintro e w' ⟨rfl, hb'⟩)
        go_roundw
        case rel =>
          refine ⟨kk + 1, by omega, by go_num, BW.trans (hb'.mono hBs), fun j h hj => ?_⟩
          by_cases e : j = kk
          · subst e; rw [HY.out]; exact HQ.out
          · exact HA.out j h (by omega)
        case measure => simp [intOf]; omega
    · obtain rfl : kk = l.length := by omega
      go_wp2
      go_ret
      exact ⟨ret_int (by rw [← HR.out]; exact (idxI_miss p l (fun j hj => HA.out j hj hj)).symm), BW⟩
theorem eeidx_nil (fv : Value) (a : Option Addr) (cap : Nat) (w : World) :
    Calls Tryz.prog 78 #[.slice a 0 cap, fv] w fun e w' => e = .returned (.int .i64 (-1)) ∧ w = w' := by
  go_enter Tryz.func78, Tryz.ntmps78
  go_wp2
  refine wp_loop_rounds 1 ?_
  rw [rounds_succ]
  go_wp2
  go_ret
  exact ⟨rfl, rfl⟩
theorem eeidx (p : Ee → Bool) (g : Nat) (cb : Array Value) (eg : ∀ args w, (callFunc g args).run Tryz.prog w = .ok (.enter g args) w) (l : List Ee) (v : Value) (w : World)
    (hv : SlK eeC 6 w v l) (hp : ∀ W d, d ∈ l → Below w.heap.size w W → Calls Tryz.prog g (#[eeA d] ++ cb) W fun e W' => e = .returned (.bool (p d)) ∧ Below W.heap.size W W') (hn : l.length ≤ 1000000) (R : Int) (hR : idxI p l = R) :
    Calls Tryz.prog 78 #[v, .func (.func g) #[] cb] w fun e w' => e = .returned (.int .i64 R) ∧ Below w.heap.size w w' := by
  rcases hv with ⟨rfl, a, cap, rfl, h2⟩ | ⟨h0, b, off, cap, rfl, h2, h3, h4, h5⟩
  · subst hR
    refine (eeidx_nil _ a cap w).mono ?_
    rintro e w' ⟨rfl, rfl⟩
    exact ⟨rfl, Below.refl _ _⟩
  · exact eeidxf p g cb eg l b off cap w hp hn h4 h5 R hR
theorem eerow_cells {w : World} {b e n g cap : Nat} {l : List Ee} (hl : l.length = n) (h : w.ownsRow b e 6 (.slice (some ⟨g, 0, none⟩) n cap) n (cellsK eeC l)) (h0 : 0 < n) : b ≤ g ∧ g < w.heap.size ∧ ∀ i (hi : i < l.length) j u, (eeC l[i])[j]? = some u → w.cell? ⟨g, i * 6 + j, none⟩ = some u := by
  obtain ⟨a, cap', hv, hc, hm, ha⟩ := own_reads h
  injection hv with e1 e2 e3
  rcases ha with ⟨rfl, h1⟩ | ⟨g', rfl, hg, hgw, hcell⟩
  · omega
  · injection e1 with e1
    injection e1 with e1
    subst e1
    exact ⟨hg, hgw, fun i hi j u hu => hcell _ _ (cellsK_get eelen l i hi j u hu)⟩
set_option maxRecDepth 20000 in
set_option maxHeartbeats 4000000 in
theorem eedel_some (p : Ee → Bool) (gf : Nat) (cb : Array Value) (eg : ∀ args w, (callFunc gf args).run Tryz.prog w = .ok (.enter gf args) w) (l : List Ee) (g cap : Nat) (w : World) (B : Nat) (hsh : ∀ x ∈ l, eeShp x) 
    (hown : w.ownsRow B 40 6 (.slice (some ⟨g, 0, none⟩) l.length cap) l.length (cellsK eeC l))
    (hp : ∀ W d, d ∈ l → BelowBut w.heap.size g w W → Calls Tryz.prog gf (#[eeA d] ++ cb) W fun e W' => e = .returned (.bool (p d)) ∧ Below W.heap.size W W')
    (hn : l.length ≤ 1000) (k : Nat) (hR : idxI p l = k) :
    Calls Tryz.prog 58 #[.slice (some ⟨g, 0, none⟩) l.length cap, .func (.func gf) #[] cb] w fun e w' =>
      e = .returned (.slice (some ⟨g, 0, none⟩) (l.filter (fun c => !p c)).length cap) ∧ w'.ownsRow B 40 6 (.slice (some ⟨g, 0, none⟩) (l.filter (fun c => !p c)).length cap) (l.filter (fun c => !p c)).length (cellsK eeC (l.filter (fun c => !p c))) ∧ BelowBut w.heap.size g w w' := by
  obtain ⟨hkl, hpk, hfk⟩ := filtg_start p l k hR
  have CX := Lib.hid (eeidx p gf cb eg l _ w (SlK.of_own eelen hown) (fun W d hd hb => hp W d hd ((BelowBut.refl _ g w).below hb (Nat.le_refl _))) (by omega) k hR)
  have HP := Lib.hid hp
  have hk1 : ((k : Int) == -1) = false := beq_eq_false_iff_ne.2 (by omega)
  clear hp hR
  go_enter Tryz.func58, Tryz.ntmps58
  go_wp2_with (go_at_call 78; with_reducible refine CX.out.mono ?_; rintro x w1 ⟨rfl, hb1⟩)
  have hown1 := own_below hown hb1 (Nat.le_refl _)
  have hbb1 : BelowBut w.heap.size g w w1 := (BelowBut.refl _ g w).below hb1 (Nat.le_refl _)
  go_loopw [5, 6] (fun iv jv wr => ∃ (i j : Nat) (M : List Ee), i < j ∧ j ≤ l.length ∧ iv = .int .i64 i ∧ jv = .int .i64 j ∧ M.length = l.length ∧ M.take i = (l.take j).filter (fun c => !p c) ∧ M.drop j = l.drop j ∧ wr.ownsRow B 40 6 (.slice (some ⟨g, 0, none⟩) l.length cap) l.length (cellsK eeC M) ∧ BelowBut w.heap.size g w wr) (fun _ jv _ => l.length - (intOf jv).toNat)
  case atStart => exact ⟨k, k + 1, l, by omega, by omega, rfl, by go_num, rfl, hfk.symm, rfl, hown1, hbb1⟩
  case round =>
    obtain ⟨i, j, M, hij, hjl, rfl, rfl, hM, hMi, hMj, ho, hbb⟩ := hrel
    by_cases hlt : j < l.length
    · obtain ⟨hBg, hgw, hcell⟩ := eerow_cells hM ho (by omega)
      have hfree := own_free ho
      have hy0 : M[j]'(by omega) = l[j] := by
        have e := congrArg List.head? hMj
        rw [List.head?_drop, List.head?_drop, List.getElem?_eq_getElem (by omega), List.getElem?_eq_getElem hlt] at e
        exact Option.some.inj e
      have cc : ∀ q u, (eeC l[j])[q]? = some u → wr.cell? ⟨g, j * 6 + q, none⟩ = some u := fun q u hu => hcell j (by omega) q u (by rw [hy0]; exact hu)
      have hdrop : M.drop (j + 1) = l.drop (j + 1) := by
        have e := congrArg (List.drop 1) hMj
        rwa [List.drop_drop, List.drop_drop] at e
      have hfil : (l.take (j + 1)).filter (fun c => !p c) = (l.take j).filter (fun c => !p c) ++ (if p l[j] then [] else [l[j]]) := by
        rw [List.take_succ_eq_append_getElem hlt, List.filter_append]
        cases hq : p l[j] <;> simp [hq]
      have hmem := List.getElem_mem hlt
      have hsy := hsh _ hmem
      obtain ⟨y, hy⟩ : ∃ y, l[j] = y := ⟨_, rfl⟩
      rw [hy] at cc hfil hy0 hmem hsy
      have HY := Lib.hid hy
      have HC := Lib.hid cc
      clear hy hcell
      obtain ⟨⟨yu, yvv, yst, yhv, ybo, yti⟩, ye⟩ := y
      obtain ⟨⟨a1, n1, k1, e1⟩, a2, n2, k2, e2⟩ := hsy
      have e1 : yvv = .slice a1 n1 k1 := e1
      have e2 : yhv = .slice a2 n2 k2 := e2
      subst e1 e2
      have c0 := cc 0 _ rfl
      have c1 := cc 1 _ rfl
      have c2 := cc 2 _ rfl
      have c3 := cc 3 _ rfl
      have c4 := cc 4 _ rfl
      have c5 := cc 5 _ rfl
      simp only [Nat.add_zero] at c0
      have YA := AtL.new wr (eeC (⟨yu, .slice a1 n1 k1, yst, .slice a2 n2 k2, ybo, yti⟩, ye)) 40
      have hbA : Below wr.heap.size wr (wr.alloc (.cells (eeC (⟨yu, .slice a1 n1 k1, yst, .slice a2 n2 k2, ybo, yti⟩, ye)).toArray 40)) := (Below.refl _ wr).alloc (Nat.le_refl _) _
      have hBwr : w.heap.size ≤ wr.heap.size := hbb.size
      have hcall := HP.out _ (⟨yu, .slice a1 n1 k1, yst, .slice a2 n2 k2, ybo, yti⟩, ye) hmem (hbb.below hbA hBwr)
      have hji : (j : Int) < (l.length : Int) := by omega
      have hii : (i : Int) < (l.length : Int) := by omega
      have hIc := (eerow_cells hM ho (by omega)).2.2 i (by omega)
      have HIc := Lib.hid hIc
      have HMi := Lib.hid hMi
      clear cc hIc hMi hmem
      cases hq : p (⟨yu, .slice a1 n1 k1, yst, .slice a2 n2 k2, ybo, yti⟩, ye) with
      | true =>
        rw [hq] at hcall hfil
        have HCall := Lib.hid hcall
        have HF := Lib.hid hfil
        clear hcall hfil hq
        go_wp2_with (go_at_fn gf; refine HCall.out.mono ?_; rintro e w' ⟨rfl, hb'⟩)
        go_roundw
        case rel =>
          have hbt := hbA.trans (hb'.mono hbA.size)
          exact ⟨i, j + 1, M, by omega, by omega, rfl, by go_num, hM, by rw [HMi.out, HF.out]; simp, hdrop, own_below ho hbt (Nat.le_refl _), hbb.below hbt hbb.size⟩
        case measure => simp [intOf]; omega
      | false =>
        rw [hq] at hcall hfil
        have HCall := Lib.hid hcall
        have HF := Lib.hid hfil
        clear hcall hfil hq
        go_wp2_with (go_at_fn gf; refine HCall.out.mono ?_; rintro e w' ⟨rfl, hb'⟩; have hbt := hbA.trans (hb'.mono hbA.size); have Y2 := YA.next hb'; have z0 := Y2.c 0 rfl; have z1 := Y2.c 1 rfl; have z2 := Y2.c 2 rfl; have z3 := Y2.c 3 rfl; have z4 := Y2.c 4 rfl; have z5 := Y2.c 5 rfl; have hzl := Y2.lt; have o2 := own_below ho hbt (Nat.le_refl _); have r0 := (brl hbt _ _ hgw).trans (HIc.out 0 _ rfl); have r1 := (brl hbt _ _ hgw).trans (HIc.out 1 _ rfl); have r2 := (brl hbt _ _ hgw).trans (HIc.out 2 _ rfl); have r3 := (brl hbt _ _ hgw).trans (HIc.out 3 _ rfl); have r4 := (brl hbt _ _ hgw).trans (HIc.out 4 _ rfl); have r5 := (brl hbt _ _ hgw).trans (HIc.out 5 _ rfl); simp only [Nat.add_zero] at r0; have f0 := own_free o2 (i * 6); have f1 := own_free o2 (i * 6 + 1); have f2 := own_free o2 (i * 6 + 2); have f3 := own_free o2 (i * 6 + 3); have f4 := own_free o2 (i * 6 + 4); have f5 := own_free o2 (i * 6 + 5))
        go_roundw
        case rel =>
          have o4 := eeown_put hM o2 i (by omega) (⟨yu, .slice a1 n1 k1, yst, .slice a2 n2 k2, ybo, yti⟩, ye)
          have hb3 := hbb.below hbt hbb.size
          have hb4 : BelowBut w.heap.size g w (eeput w' g (i * 6) (⟨yu, .slice a1 n1 k1, yst, .slice a2 n2 k2, ybo, yti⟩, ye)) := by rw [eeput_eq]; exact BelowBut.setCells _ _ _ hb3
          refine ⟨i + 1, j + 1, M.set i (⟨yu, .slice a1 n1 k1, yst, .slice a2 n2 k2, ybo, yti⟩, ye), by omega, by omega, by go_num, by go_num, by rw [List.length_set]; exact hM, ?_, ?_, o4, hb4⟩
          · rw [HF.out, ← HMi.out, List.take_succ_eq_append_getElem (by rw [List.length_set]; omega)]
            simp [List.take_set_of_le]
          · rw [← hdrop, List.drop_set_of_lt (by omega)]
        case measure => simp [intOf]; omega
    · obtain rfl : j = l.length := by omega
      have hin : (i : Int) ≤ (l.length : Int) := by omega
      have hcap : l.length ≤ cap := by
        obtain ⟨a2, c2, hv2, hc2, _, _⟩ := own_reads ho
        injection hv2 with _ _ e3
        omega
      have hic : (i : Int) ≤ (cap : Int) := by omega
      have hlc : (l.length : Int) ≤ (cap : Int) := by omega
      have hic' : ¬ cap = i := by omega
      have hfil : (l.filter (fun c => !p c)).length = i := by
        have e := congrArg List.length hMi
        rw [List.take_length, List.length_take, hM, Nat.min_eq_left (by omega)] at e
        exact e.symm
      have hfr : ∀ j, j < (l.length - i) * 6 → wr.frozen? ⟨g, i * 6 + j, none⟩ = false := fun j _ => own_free ho _
      have hce : ∀ j, j < (l.length - i) * 6 → (wr.cell? ⟨g, i * 6 + j, none⟩).isSome = true := fun j hj => by
        obtain ⟨a2, c2, hv2, _, _, ha2⟩ := own_reads ho
        injection hv2 with e1 _ _
        rcases ha2 with ⟨rfl, _⟩ | ⟨g', rfl, _, _, hcc⟩
        · cases e1
        · injection e1 with e1
          injection e1 with e1
          subst e1
          have hlt : i * 6 + j < (cellsK eeC M).length := by rw [cellsK_len eelen, hM]; omega
          rw [hcc _ _ (List.getElem?_eq_getElem hlt)]; rfl
      obtain ⟨zs, hzl, hcl⟩ := run_clearK (P := Tryz.prog) wr 33 40 0 (eeA ee0) 6 Tryz.underlying33 (zero_run (by kernel_rfl)) rfl eezone g (i * 6) (l.length - i) (cap - i) (by omega) (by decide) hce hfr
      obtain ⟨xs', hx1, hx2⟩ := own_setCells zs (i * 6) wr (cellsK eeC M) ho (by rw [hzl]; omega)
      have hr := own_cut hx1 i (by omega)
      rw [hx2, cellsG_take eelen M i (by omega), hMi, List.take_length] at hr
      have hbz := BelowBut.setCells zs (i * 6) wr hbb
      clear hx1 hx2 hfr hce hzl hMi hMj ho hbb
      have hr' : (wr.setCells g (i * 6) zs).ownsRow B 40 6 (.slice (some ⟨g, 0, none⟩) (l.filter (fun c => !p c)).length cap) (l.filter (fun c => !p c)).length (cellsK eeC (l.filter (fun c => !p c))) := by rw [hfil]; exact hr
      have HF := Lib.hid hfil
      clear hfil
      go_wp2_with fail
      go_ret
      exact ⟨by rw [HF.out]; rfl, hr', hbz⟩
theorem eedel_none (p : Ee → Bool) (g : Nat) (cb : Array Value) (eg : ∀ args w, (callFunc g args).run Tryz.prog w = .ok (.enter g args) w) (l : List Ee) (v : Value) (w : World)
    (hv : SlK eeC 6 w v l) (hp : ∀ W d, d ∈ l → Below w.heap.size w W → Calls Tryz.prog g (#[eeA d] ++ cb) W fun e W' => e = .returned (.bool (p d)) ∧ Below W.heap.size W W') (hn : l.length ≤ 1000000) (hR : idxI p l = -1) :
    Calls Tryz.prog 58 #[v, .func (.func g) #[] cb] w fun e w' => e = .returned v ∧ Below w.heap.size w w' := by
  have CX := Lib.hid (eeidx p g cb eg l v w hv hp hn (-1) hR)
  obtain ⟨sa, sc, rfl, _⟩ := hv.shape
  clear hv hp hR
  go_enter Tryz.func58, Tryz.ntmps58
  go_wp2_with (go_at_call 78; with_reducible refine CX.out.mono ?_; rintro x w1 ⟨rfl, hb1⟩)
  go_ret
  exact ⟨rfl, hb1⟩
/-- slices.DeleteFunc on an owned row -/
theorem eedel (p : Ee → Bool) (gf : Nat) (cb : Array Value) (eg : ∀ args w, (callFunc gf args).run Tryz.prog w = .ok (.enter gf args) w) (l : List Ee) (v : Value) (w : World) (B : Nat) (hsh : ∀ x ∈ l, eeShp x) 
    (hown : w.ownsRow B 40 6 v l.length (cellsK eeC l))
    (hp : ∀ W d, d ∈ l → (∀ jb, RowBut w.heap.size jb v.ownBlock w W) → Calls Tryz.prog gf (#[eeA d] ++ cb) W fun e W' => e = .returned (.bool (p d)) ∧ Below W.heap.size W W')
    (hn : l.length ≤ 1000) :
    Calls Tryz.prog 58 #[v, .func (.func gf) #[] cb] w (DelQ eeC 6 40 B w v (l.filter (fun c => !p c))) := by
  have hq : ∀ W d, d ∈ l → Below w.heap.size w W → Calls Tryz.prog gf (#[eeA d] ++ cb) W fun e W' => e = .returned (.bool (p d)) ∧ Below W.heap.size W W' := fun W d hd hb => hp W d hd (fun jb => (RowBut.refl _ jb _ w).below hb (Nat.le_refl _))
  by_cases hR : idxI p l = -1
  · refine (eedel_none p gf cb eg l v w (SlK.of_own eelen hown) hq (by omega) hR).mono ?_
    rintro e w' ⟨rfl, hb⟩
    rw [filtg_none p l hR]
    exact ⟨v, rfl, own_below hown hb (Nat.le_refl _), rfl, fun jb => (RowBut.refl _ jb _ w).below hb (Nat.le_refl _)⟩
  · obtain ⟨k, hk⟩ : ∃ k : Nat, idxI p l = k := by
      unfold idxI at hR ⊢
      split
      · exact ⟨_, rfl⟩
      · next h => rw [if_neg h] at hR; exact absurd rfl hR
    obtain ⟨hkl, -, -⟩ := filtg_start p l k hk
    obtain ⟨a, cap, rfl, _, _, ha⟩ := own_reads hown
    rcases ha with ⟨_, h0⟩ | ⟨g, rfl, _⟩
    · omega
    · refine (eedel_some p gf cb eg l g cap w B hsh hown (fun W d hd hb => hp W d hd (fun jb => hb.toRow jb)) hn k hk).mono ?_
      rintro e w' ⟨rfl, ho, hb⟩
      exact ⟨_, rfl, ho, rfl, fun jb => hb.toRow jb⟩
end Go.Proofs.YtkobhknggamejaaGreatDoor
