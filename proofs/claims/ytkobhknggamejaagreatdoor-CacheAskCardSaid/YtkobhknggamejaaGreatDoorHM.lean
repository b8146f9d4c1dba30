/- Cache: whether an entry answers a request, in both packages. -/
import Derived.Test.YtkobhknggamejaaGreatDoorHL
namespace Go.Proofs.YtkobhknggamejaaGreatDoor
set_option linter.unusedVariables false
set_option linter.unusedSimpArgs false
open Go.RowKit

/-- the value of a header of a request, empty without one -/
def valL (rq : List Hd) (name : List UInt8) : ByteArray := (hdrL rq name).getD ⟨#[]⟩
def misH (rq : List Hd) (d : Hd) : Bool := !((valL rq d.1.data.toList).toList == d.2.toList)
def urlB (u v : ByteArray) : Bool := u.toList == v.toList
/-- whether an entry answers a request -/
def ansB (x : En) (url : ByteArray) (rq : List Hd) : Bool := urlB x.u url && !(x.va.any (misH rq))
theorem hdcont (p : Hd → Bool) (g : Nat) (cb : Array Value) (eg : ∀ args w, (callFunc g args).run Tryz.prog w = .ok (.enter g args) w) (l : List Hd) (v : Value) (w : World)
    (hv : SlK hdC 2 w v l) (hp : ∀ W d, d ∈ l → Below w.heap.size w W → Calls Tryz.prog g (#[hdA d] ++ cb) W fun e W' => e = .returned (.bool (p d)) ∧ Below W.heap.size W W') (hn : l.length ≤ 1000000) (R : Bool) (hR : l.any p = R) :
    Calls Tryz.prog 62 #[v, .func (.func g) #[] cb] w fun e w' => e = .returned (.bool R) ∧ Below w.heap.size w w' := by
  obtain ⟨sa, sc, rfl, _⟩ := hv.shape
  cases R with
  | true =>
    have e : idxI p l = ((l.findIdx p : Nat) : Int) := by unfold idxI; rw [if_pos hR]
    obtain ⟨n, hn2⟩ : ∃ n, l.findIdx p = n := ⟨_, rfl⟩
    rw [hn2] at e
    have C := Lib.hid (hdidx p g cb eg l _ w hv hp hn _ e)
    clear e hn2 hR hp hv
    go_enter Tryz.func62, Tryz.ntmps62
    go_wp2_with (go_at_call 80; with_reducible refine C.out.mono ?_; rintro e w1 ⟨rfl, hb1⟩)
    go_ret
    exact ⟨rfl, hb1⟩
  | false =>
    have e : idxI p l = -1 := by unfold idxI; rw [if_neg (by rw [hR]; simp)]
    have C := Lib.hid (hdidx p g cb eg l _ w hv hp hn _ e)
    clear e hR hp hv
    go_enter Tryz.func62, Tryz.ntmps62
    go_wp2_with (go_at_call 80; with_reducible refine C.out.mono ?_; rintro e w1 ⟨rfl, hb1⟩)
    go_ret
    exact ⟨rfl, hb1⟩
theorem ansclos (rq : List Hd) (vr : Value) (B : Nat) (W : World) (d : Hd) (hA : AtL W B [vr]) (hv : SlK hdC 2 W vr rq) (hz : HdSz rq) (hd : d.1.size ≤ 100000) (R : Bool) (hR : misH rq d = R) :
    Calls Tryz.prog 79 #[hdA d, .pointer (some ⟨B, 0, none⟩)] W fun e W' => e = .returned (.bool R) ∧ Below W.heap.size W W' := by
  obtain ⟨yn, yv⟩ := d
  have hd : yn.size ≤ 100000 := hd
  have hR : (!((valL rq yn.data.toList).toList == yv.toList)) = R := hR
  unfold valL at hR
  obtain ⟨V, hV⟩ : ∃ V, (hdrL rq yn.data.toList).getD ⟨#[]⟩ = V := ⟨_, rfl⟩
  obtain ⟨B2, hB2⟩ : ∃ B2, (hdrL rq yn.data.toList).isSome = B2 := ⟨_, rfl⟩
  rw [hV] at hR
  have HR := Lib.hid hR
  have CH := Lib.hid (fun w hv => hdr_at rq vr yn w hv hz hd V B2 hV hB2)
  have hal := (Below.refl _ W).alloc (Nat.le_refl _) (.cells (hdC (yn, yv)).toArray 68)
  have KA := AtL.new W (hdC (yn, yv)) 68
  have hv1 := hv.below hal (Nat.le_refl _)
  obtain ⟨sa, sc, rfl, _⟩ := hv.shape
  have b0 := hA.c 0 rfl
  have bl := hA.lt
  clear hV hB2 hR hz hv hA
  go_enter Tryz.func79, Tryz.ntmps79
  go_wp2_with (go_at_call 12; with_reducible refine (CH.out _ hv1).mono ?_; rintro e w1 ⟨rfl, hb1⟩; have K1 := KA.next hb1; have z0 := K1.c 0 rfl; have z1 := K1.c 1 rfl; have kl := K1.lt)
  go_ret
  exact ⟨ret_bool (by rw [← HR.out]), hal.trans (hb1.mono hal.size)⟩
set_option maxRecDepth 20000 in
theorem ans_is (x : Ee) (url : ByteArray) (rq : List Hd) (vr : Value) (w : World) (hr : Rd w x.1 x.2) (hv : SlK hdC 2 w vr rq) (hz : HdSz rq) (hy : HdSz x.2.va) (R : Bool) (hR : ansB x.2 url rq = R) :
    Calls Tryz.prog 60 #[eeA x, .string url, vr] w fun e w' => e = .returned (.bool R) ∧ Below w.heap.size w w' := by
  obtain ⟨⟨u, vv, st, hh, bo, ti⟩, ⟨u', va, st', hd, bo', ti'⟩⟩ := x
  obtain rfl : u = u' := hr.u
  have hva : SlK hdC 2 w vv va := hr.va
  have hhd : SlK hdC 2 w hh hd := hr.hd
  have hy : HdSz va := hy
  have hR2 : (urlB u url && !(va.any (misH rq))) = R := hR
  clear hR
  obtain ⟨M, hM⟩ : ∃ M, va.any (misH rq) = M := ⟨_, rfl⟩
  rw [hM] at hR2
  have hB0 : Below w.heap.size w ((w.alloc (.cells (erC ⟨u, vv, st, hh, bo, ti⟩).toArray 40)).alloc (.cells [vr].toArray 22)) := ((Below.refl _ w).alloc (Nat.le_refl _) _).alloc (by simp) _
  have A0 := AtL.new (w.alloc (.cells (erC ⟨u, vv, st, hh, bo, ti⟩).toArray 40)) [vr] 22
  rw [show (w.alloc (.cells (erC ⟨u, vv, st, hh, bo, ti⟩).toArray 40)).heap.size = w.heap.size + 1 by simp] at A0
  have hv1 := hv.below hB0 (Nat.le_refl _)
  have hva1 := hva.below hB0 (Nat.le_refl _)
  have CC := Lib.hid (fun (W : World) (B : Nat) (hA : AtL W B [vr]) (hva : SlK hdC 2 W vv va) (hvq : SlK hdC 2 W vr rq) => hdcont (misH rq) 79 #[.pointer (some ⟨B, 0, none⟩)] (enters_of Tryz.func79 (by kernel_rfl) rfl) va vv W hva
    (fun W' d hd hb => ansclos rq vr B W' d (hA.next hb) (hvq.below hb (Nat.le_refl _)) hz (hy.2 d hd).1 _ rfl) hy.1 M hM)
  obtain ⟨sa, sc, rfl, _⟩ := hv.shape
  obtain ⟨ta, tc, rfl, _⟩ := hva.shape
  obtain ⟨ua, uc, rfl, _⟩ := hhd.shape
  have HR := Lib.hid hR2
  clear hM hR2 hr hv hva hhd hz hy
  cases hu : urlB u url with
  | false =>
    have hu2 : (u.toList == url.toList) = false := hu
    have HU := Lib.hid hu
    clear hu
    go_enter Tryz.func60, Tryz.ntmps60
    go_wp2_with fail
    go_ret
    exact ⟨ret_bool (by rw [← HR.out, HU.out]; rfl), hB0⟩
  | true =>
    have hu2 : (u.toList == url.toList) = true := hu
    have HU := Lib.hid hu
    clear hu
    go_enter Tryz.func60, Tryz.ntmps60
    go_wp2_with (go_at_call 62; with_reducible refine (CC.out _ _ A0 hva1 hv1).mono ?_; rintro e w1 ⟨rfl, hb1⟩)
    go_ret
    exact ⟨ret_bool (by rw [← HR.out, HU.out]; rfl), hB0.trans (hb1.mono hB0.size)⟩
theorem ra_mk {W w' : World} {C b o p : Nat} {x y z : Value} (hx : W.cell? ⟨C, 1, none⟩ = some x) (hy : W.cell? ⟨b, o, none⟩ = some y) (hz : W.cell? ⟨b, p, none⟩ = some z) (hb : Below W.heap.size W w') : w'.cell? ⟨C, 1, none⟩ = some x ∧ w'.cell? ⟨b, o, none⟩ = some y ∧ w'.cell? ⟨b, p, none⟩ = some z :=
  ⟨(brl hb _ _ (cell_lt hx)).trans hx, (brl hb _ _ (cell_lt hy)).trans hy, (brl hb _ _ (cell_lt hz)).trans hz⟩
theorem any_step {α : Type} (p : α → Bool) (l : List α) (k : Nat) (h : k < l.length) : (l.take (k + 1)).any p = ((l.take k).any p || p l[k]) := by
  rw [List.take_succ_eq_append_getElem h, List.any_append]; simp
theorem any_hit {α : Type} (p : α → Bool) (l : List α) (k : Nat) (h : k < l.length) (hp : p l[k] = true) : l.any p = true := List.any_eq_true.2 ⟨_, List.getElem_mem h, hp⟩
set_option maxRecDepth 20000 in
set_option maxHeartbeats 1000000 in
theorem rans_is (x : Ee) (url : ByteArray) (rq : List Hd) (vr : Value) (w : World) (hr : Rd w x.1 x.2) (hv : SlK hdC 2 w vr rq) (hz : HdSz rq) (hy : HdSz x.2.va) (R : Bool) (hR : ansB x.2 url rq = R) :
    Calls Tryz.prog 32 #[eeA x, .string url, vr] w fun e w' => e = .returned (.bool R) ∧ Below w.heap.size w w' := by
  obtain ⟨⟨u, vv, st, hh, bo, ti⟩, ⟨u', va, st', hd, bo', ti'⟩⟩ := x
  obtain rfl : u = u' := hr.u
  have hva : SlK hdC 2 w vv va := hr.va
  have hhd : SlK hdC 2 w hh hd := hr.hd
  have hy : HdSz va := hy
  have hR2 : (urlB u url && !(va.any (misH rq))) = R := hR
  clear hR
  have hB0 : Below w.heap.size w (w.alloc (.cells (erC ⟨u, vv, st, hh, bo, ti⟩).toArray 40)) := (Below.refl _ w).alloc (Nat.le_refl _) _
  have A0 := AtL.new w (erC ⟨u, vv, st, hh, bo, ti⟩) 40
  have hv0 := hv.below hB0 (Nat.le_refl _)
  have hva0 := hva.below hB0 (Nat.le_refl _)
  have CV := Lib.hid (fun (w : World) (y : Hd) (hy : y.1.size ≤ 100000) (hv : SlK hdC 2 w vr rq) => rvalue_is rq vr y.1 w hv hz hy (valL rq y.1.data.toList) rfl)
  obtain ⟨sa, sc, rfl, _⟩ := hv.shape
  obtain ⟨ta, tc, rfl, htc⟩ := hva.shape
  obtain ⟨ua, uc, rfl, _⟩ := hhd.shape
  have HR := Lib.hid hR2
  have HZ := Lib.hid hy.2
  have hyl := hy.1
  clear hR2 hr hv hva hhd hz hy
  cases hu : urlB u url with
  | false =>
    have hu2 : (u.toList == url.toList) = false := hu
    have hu3 : (u.toList != url.toList) = true := by simp only [bne]; rw [hu2]; rfl
    have HU := Lib.hid hu
    clear hu
    go_enter Tryz.func32, Tryz.ntmps32
    go_wp2_with fail
    go_ret
    exact ⟨ret_bool (by rw [← HR.out, HU.out]; rfl), hB0⟩
  | true =>
    have hu2 : (u.toList == url.toList) = true := hu
    have hu3 : (u.toList != url.toList) = false := by simp only [bne]; rw [hu2]; rfl
    have HU := Lib.hid hu
    clear hu
    go_enter Tryz.func32, Tryz.ntmps32
    go_wp2_with fail
    obtain ⟨w1, hw1⟩ : ∃ w1 : World, w.alloc (.cells (erC ⟨u, .slice ta va.length tc, st, .slice ua hd.length uc, bo, ti⟩).toArray 40) = w1 := ⟨_, rfl⟩
    obtain ⟨C, hC⟩ : ∃ C, w.heap.size = C := ⟨_, rfl⟩
    rw [hw1] at hB0 A0 hv0 hva0
    rw [hC] at A0
    rw [hw1, hC]
    clear hw1 hC
    go_loopw [7] (fun iv wr => ∃ k : Nat, k ≤ va.length ∧ iv = .int .i64 k ∧ Hid ((va.take k).any (misH rq) = false) ∧ Below w1.heap.size w1 wr) (fun iv _ => va.length - (intOf iv).toNat)
    case atStart => exact ⟨0, Nat.zero_le _, rfl, Lib.hid rfl, Below.refl _ _⟩
    case round =>
      obtain ⟨k, hk, rfl, HA, hbw⟩ := hrel
      have hwz := hbw.size
      have Aw := A0.next hbw
      have z0 := Aw.c 0 rfl; have z1 := Aw.c 1 rfl; have z2 := Aw.c 2 rfl; have z3 := Aw.c 3 rfl; have z4 := Aw.c 4 rfl; have z5 := Aw.c 5 rfl
      have al := Aw.lt
      by_cases hlt : k < va.length
      · have hki : (k : Int) < (va.length : Int) := by omega
        have hk0 : (0 : Int) ≤ (k : Int) := by omega
        have hva2 := hva0
        rcases hva2 with ⟨rfl, _⟩ | ⟨_, b0, off, cap, he, hc1, hc2, hc3, hcell⟩
        · simp at hlt
        injection he with e1 e2 e3
        subst e1 e3
        have cc : ∀ j u, (hdC va[k])[j]? = some u → wr.cell? ⟨b0, off + k * 2 + j, none⟩ = some u := fun j u hu => (hbw.cell (p := ⟨b0, off + k * 2 + j, none⟩) hc3).trans (hcell k hlt j u hu)
        have hsz := HZ.out _ (List.getElem_mem hlt)
        have hst := any_step (misH rq) va k hlt
        have hit := any_hit (misH rq) va k hlt
        rw [HA.out, Bool.false_or] at hst
        obtain ⟨y, hy⟩ : ∃ y, va[k] = y := ⟨_, rfl⟩
        rw [hy] at cc hsz hst hit
        clear hy hcell
        obtain ⟨yn, yv⟩ := y
        have hyn : yn.size ≤ 100000 := hsz.1
        have c0 := cc 0 _ rfl
        have c1 := cc 1 _ rfl
        simp only [Nat.add_zero] at c0
        clear cc hsz
        have hb0 : b0 < wr.heap.size := Nat.lt_of_lt_of_le hc3 hwz
        have hvr := hv0.below hbw (Nat.le_refl _)
        obtain ⟨V, hV⟩ : ∃ V, valL rq yn.data.toList = V := ⟨_, rfl⟩
        have CV1 := CV.out
        have CVV := Lib.hid (fun (w : World) (hv : SlK hdC 2 w (.slice sa rq.length sc) rq) => by have := CV1 w (yn, yv) hyn hv; rw [hV] at this; exact this)
        cases hm : misH rq (yn, yv) with
        | true =>
          have HH := Lib.hid (hit hm)
          have hne : (V.toList == yv.toList) = false := by
            have hm2 : (!((valL rq yn.data.toList).toList == yv.toList)) = true := hm
            rw [hV] at hm2; simpa using hm2
          have hne2 : (V.toList != yv.toList) = true := by simp only [bne]; rw [hne]; rfl
          clear hst hit hm hV CV1
          go_upto_region 6 with fail
          go_region_held3 (fun w' => w'.cell? ⟨C, 1, none⟩ = some (.slice (some ⟨b0, off, none⟩) va.length tc) ∧ w'.cell? ⟨b0, off + k * 2, none⟩ = some (.string yn) ∧ w'.cell? ⟨b0, off + k * 2 + 1, none⟩ = some (.string yv))
            (first | exact ra_mk z1 c0 c1 (Below.refl _ wr).drew | exact ra_mk z1 c0 c1 hb4 | go_keep)
            (first | (go_at_call 48; (with_reducible refine (CVV.out _ (hvr.below (Below.refl _ wr).drew (Nat.le_refl _))).mono ?_); rintro e w4 ⟨rfl, hbb4⟩; have hb4 := (Below.refl _ wr).drew.trans hbb4))
          go_wp2_with fail
          go_ret
          exact ⟨ret_bool (by rw [← HR.out, HU.out, HH.out]; rfl), hB0.trans ((hbw.trans (hb4.mono hwz)).mono hB0.size)⟩
        | false =>
          have HST := Lib.hid (hst.trans hm)
          have hne : (V.toList == yv.toList) = true := by
            have hm2 : (!((valL rq yn.data.toList).toList == yv.toList)) = false := hm
            rw [hV] at hm2; simpa using hm2
          have hne2 : (V.toList != yv.toList) = false := by simp only [bne]; rw [hne]; rfl
          clear hst hit hm hV CV1
          go_upto_region 6 with fail
          go_region_held3 (fun w' => w'.cell? ⟨C, 1, none⟩ = some (.slice (some ⟨b0, off, none⟩) va.length tc) ∧ w'.cell? ⟨b0, off + k * 2, none⟩ = some (.string yn) ∧ w'.cell? ⟨b0, off + k * 2 + 1, none⟩ = some (.string yv))
            (first | exact ra_mk z1 c0 c1 (Below.refl _ wr).drew | exact ra_mk z1 c0 c1 hb4 | go_keep)
            (first | (go_at_call 48; (with_reducible refine (CVV.out _ (hvr.below (Below.refl _ wr).drew (Nat.le_refl _))).mono ?_); rintro e w4 ⟨rfl, hbb4⟩; have hb4 := (Below.refl _ wr).drew.trans hbb4))
          go_wp2_with fail
          go_roundw
          case rel => exact ⟨k + 1, by omega, by go_num, HST, hbw.trans (hb4.mono hwz)⟩
          case measure => simp [intOf]; omega
      · obtain rfl : k = va.length := by omega
        have HF := Lib.hid (show va.any (misH rq) = false by rw [← HA.out, List.take_length])
        go_wp2_with fail
        go_ret
        exact ⟨ret_bool (by rw [← HR.out, HU.out, HF.out]; rfl), hB0.trans (hbw.mono hB0.size)⟩
end Go.Proofs.YtkobhknggamejaaGreatDoor
