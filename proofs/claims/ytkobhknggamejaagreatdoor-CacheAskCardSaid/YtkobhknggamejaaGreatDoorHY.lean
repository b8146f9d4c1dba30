/- Cache: the reference's Last, Back. -/
import Derived.Test.YtkobhknggamejaaGreatDoorHR
namespace Go.Proofs.YtkobhknggamejaaGreatDoor
set_option linter.unusedVariables false
set_option linter.unusedSimpArgs false
open Go.RowKit

theorem ee_cells {w : World} {l : List Ee} {sa : Option Addr} {n c : Nat} (hv : SlK eeC 6 w (.slice sa n c) l) (hn : l.length = n) :
    0 < n → ∃ b0 off : Nat, sa = some ⟨b0, off, none⟩ ∧ b0 < w.heap.size ∧ ∀ kk (h : kk < l.length) j u, (eeC l[kk])[j]? = some u → w.cell? ⟨b0, off + kk * 6 + j, none⟩ = some u := by
  intro h0
  rcases hv with ⟨rfl, _⟩ | ⟨_, b0, off, cap, he, hc1, hc2, hc3, hcell⟩
  · simp at hn; omega
  · injection he with e1 _ _
    exact ⟨b0, off, e1, hc3, hcell⟩
theorem e6_mk {W : World} {b o : Nat} {x0 x1 x2 x3 x4 x5 : Value} (hx : ∀ j u, [x0, x1, x2, x3, x4, x5][j]? = some u → W.cell? ⟨b, o + j, none⟩ = some u) :
    W.cell? ⟨b, o, none⟩ = some x0 ∧ W.cell? ⟨b, o + 1, none⟩ = some x1 ∧ W.cell? ⟨b, o + 2, none⟩ = some x2 ∧ W.cell? ⟨b, o + 3, none⟩ = some x3 ∧ W.cell? ⟨b, o + 4, none⟩ = some x4 ∧ W.cell? ⟨b, o + 5, none⟩ = some x5 :=
  ⟨hx 0 _ rfl, hx 1 _ rfl, hx 2 _ rfl, hx 3 _ rfl, hx 4 _ rfl, hx 5 _ rfl⟩
/-- sizes at which the code's functions on entries are walked -/
def SzE (e : En) : Prop := HdSz e.va ∧ HdSz e.hd
set_option maxRecDepth 20000 in
set_option maxHeartbeats 1000000 in
theorem rlast_is (l : List Ee) (v : Value) (url : ByteArray) (rq : List Hd) (vr : Value) (w : World) (hv : SlK eeC 6 w v l) (hr : ∀ x ∈ l, Rd w x.1 x.2) (hz : ∀ x ∈ l, HdSz x.2.va) (hq : SlK hdC 2 w vr rq) (hzq : HdSz rq) (hl : l.length ≤ 1000000) (R : Int) (hR : LastAt (fun x => ansB x.2 url rq) l R) :
    Calls Tryz.prog 36 #[v, .string url, vr] w fun e w' => e = .returned (.int .i64 R) ∧ Below w.heap.size w w' := by
  have HR := Lib.hid hR
  have HZ := Lib.hid hz
  have HRD := Lib.hid hr
  obtain ⟨sa, sc, rfl, _⟩ := hv.shape
  have HC := Lib.hid (ee_cells hv rfl)
  obtain ⟨qa, qc, rfl, _⟩ := hq.shape
  clear hv hr hz hR
  go_enter Tryz.func36, Tryz.ntmps36
  go_wp2_with fail
  go_loopw [7, 8] (fun av iv wr => ∃ (kk : Nat) (A : Int), kk ≤ l.length ∧ iv = .int .i64 kk ∧ av = .int .i64 A ∧ Hid (LastAt (fun x => ansB x.2 url rq) (l.take kk) A) ∧ Below w.heap.size w wr) (fun _ iv _ => l.length - (intOf iv).toNat)
  case atStart => exact ⟨0, -1, Nat.zero_le _, rfl, rfl, Lib.hid (.inl ⟨rfl, fun j h => absurd h (by simp)⟩), Below.refl _ _⟩
  case round =>
    obtain ⟨kk, A, hk, rfl, rfl, HA, hbw⟩ := hrel
    by_cases hlt : kk < l.length
    · have hst := lastAt_step (fun x => ansB x.2 url rq) l kk hlt _ rfl A HA.out
      obtain ⟨b0, off, rfl, hb0, hcell⟩ := HC.out (by omega)
      have cc : ∀ j u, (eeC l[kk])[j]? = some u → wr.cell? ⟨b0, off + kk * 6 + j, none⟩ = some u := fun j u hu => (brl hbw _ _ hb0).trans (hcell kk hlt j u hu)
      have hmem : l[kk] ∈ l := List.getElem_mem hlt
      have hrd := (HRD.out _ hmem).below hbw (Nat.le_refl _)
      have hzz := HZ.out _ hmem
      obtain ⟨y, hy⟩ : ∃ y, l[kk] = y := ⟨_, rfl⟩
      rw [hy] at cc hrd hzz
      have HY := Lib.hid hy
      obtain ⟨⟨a1, n1, k1, f1⟩, a2, n2, k2, f2⟩ := hrd.shp
      clear hy hcell hmem
      rw [HY.out] at hst
      have hqr := hq.below hbw (Nat.le_refl _)
      have hki : (kk : Int) < (l.length : Int) := by omega
      have HST := Lib.hid hst
      have HRD2 := Lib.hid hrd
      clear hst hrd
      cases hans : ansB y.2 url rq with
      | true =>
        have CA := Lib.hid (rans_is y url rq (.slice qa rq.length qc) wr HRD2.out hqr hzq hzz true hans)
        have HST2 : Hid (LastAt (fun x => ansB x.2 url rq) (l.take (kk + 1)) (kk : Nat)) := Lib.hid (by have := HST.out; rw [if_pos hans] at this; exact this)
        clear hans
        obtain ⟨⟨u, vv, st, hh, bo, ti⟩, ex⟩ := y
        have f1 : vv = .slice a1 n1 k1 := f1
        have f2 : hh = .slice a2 n2 k2 := f2
        subst f1 f2
        obtain ⟨c0, c1, c2, c3, c4, c5⟩ := e6_mk cc
        clear cc
        go_wp2_with (go_at_call 32; with_reducible refine CA.out.mono ?_; rintro e w4 ⟨rfl, hb4⟩)
        go_roundw
        case rel => exact ⟨kk + 1, _, by omega, by go_num, rfl, HST2, hbw.trans (hb4.mono hbw.size)⟩
        case measure => simp [intOf]; omega
      | false =>
        have CA := Lib.hid (rans_is y url rq (.slice qa rq.length qc) wr HRD2.out hqr hzq hzz false hans)
        have HST2 : Hid (LastAt (fun x => ansB x.2 url rq) (l.take (kk + 1)) A) := Lib.hid (by have := HST.out; rw [if_neg (by rw [hans]; simp)] at this; exact this)
        clear hans
        obtain ⟨⟨u, vv, st, hh, bo, ti⟩, ex⟩ := y
        have f1 : vv = .slice a1 n1 k1 := f1
        have f2 : hh = .slice a2 n2 k2 := f2
        subst f1 f2
        obtain ⟨c0, c1, c2, c3, c4, c5⟩ := e6_mk cc
        clear cc
        go_wp2_with (go_at_call 32; with_reducible refine CA.out.mono ?_; rintro e w4 ⟨rfl, hb4⟩)
        go_roundw
        case rel => exact ⟨kk + 1, _, by omega, by go_num, rfl, HST2, hbw.trans (hb4.mono hbw.size)⟩
        case measure => simp [intOf]; omega
    · obtain rfl : kk = l.length := by omega
      have hm := HA.out
      rw [List.take_length] at hm
      have HM := Lib.hid hm
      clear hm HA
      go_wp2_with fail
      go_ret
      refine ⟨ret_int ?_, hbw⟩
      rcases HR.out with ⟨e, hn⟩ | ⟨k, hk2, e, hp, hn⟩
      · rw [e]; exact HM.out.none hn
      · rw [e]; exact HM.out.some k hk2 hp hn
theorem back_step {α : Type} (l : List α) (i k : Nat) (hk : k < l.length) : (l.take (k + 1)).eraseIdx i = if k = i then (l.take k).eraseIdx i else (l.take k).eraseIdx i ++ [l[k]] := by
  have hl : (l.take k).length = k := by rw [List.length_take]; omega
  rw [List.take_succ_eq_append_getElem hk]
  by_cases h : k = i
  · subst h
    rw [if_pos rfl, List.eraseIdx_append_of_length_le (by omega), hl, Nat.sub_self, List.eraseIdx_of_length_le (l := l.take k) (by omega)]
    simp
  · rw [if_neg h]
    by_cases h2 : i < k
    · rw [List.eraseIdx_append_of_lt_length (by omega)]
    · rw [List.eraseIdx_append_of_length_le (by omega), hl, List.eraseIdx_of_length_le (l := l.take k) (by omega), List.eraseIdx_of_length_le (by simp; omega)]
/-- a new row with these entries -/
def RowQ (w : World) (l : List Ee) (x : Ending) (w' : World) : Prop := ∃ (a : Option Addr) (c : Nat), x = .returned (.slice a l.length c) ∧ w'.ownsRow w.heap.size 40 6 (.slice a l.length c) l.length (cellsK eeC l) ∧ Below w.heap.size w w'
set_option maxRecDepth 20000 in
set_option maxHeartbeats 1000000 in
theorem rback_is (l : List Ee) (v : Value) (w : World) (hv : SlK eeC 6 w v l) (hr : ∀ x ∈ l, Rd w x.1 x.2) (hl : l.length ≤ 1000) (i : Nat) (hi : i < l.length) (x : Ee) (hx : l[i] = x) :
    Calls Tryz.prog 37 #[v, .int .i64 i] w (RowQ w (l.eraseIdx i ++ [x])) := by
  have HRD := Lib.hid hr
  have HX := Lib.hid hx
  have HZ : Hid (∀ x ∈ l, eeShp x) := Lib.hid (fun x hx => (hr x hx).shp)
  obtain ⟨sa, sc, rfl, _⟩ := hv.shape
  have HC := Lib.hid (ee_cells hv rfl)
  have hle := List.length_eraseIdx (l := l) (i := i)
  rw [if_pos hi] at hle
  have HLE := Lib.hid hle
  clear hv hr hx hle
  go_enter Tryz.func37, Tryz.ntmps37
  go_wp2_with fail
  go_loopw [5, 6] (fun ov iv wr => ∃ (kk : Nat) (lo : List Ee), kk ≤ l.length ∧ iv = .int .i64 kk ∧ Hid (lo = (l.take kk).eraseIdx i) ∧ lo.length ≤ kk ∧ wr.ownsRow w.heap.size 40 6 ov lo.length (cellsK eeC lo) ∧ Below w.heap.size w wr) (fun _ iv _ => l.length - (intOf iv).toNat)
  case atStart => exact ⟨0, [], Nat.zero_le _, rfl, Lib.hid rfl, Nat.le_refl _, World.ownsRow_nil _ _ _ _, Below.refl _ _⟩
  case round =>
    obtain ⟨kk, lo, hk, rfl, HL, hlk, hown, hbw⟩ := hrel
    have hws := hbw.size
    by_cases hlt : kk < l.length
    · have hst := back_step l i kk hlt
      obtain ⟨b0, off, rfl, hb0, hcell⟩ := HC.out (by omega)
      have cc : ∀ j u, (eeC l[kk])[j]? = some u → wr.cell? ⟨b0, off + kk * 6 + j, none⟩ = some u := fun j u hu => (brl hbw _ _ hb0).trans (hcell kk hlt j u hu)
      have hmem : l[kk] ∈ l := List.getElem_mem hlt
      have hrd := (HRD.out _ hmem).below hbw (Nat.le_refl _)
      have hzz := HZ.out _ hmem
      obtain ⟨y, hy⟩ : ∃ y, l[kk] = y := ⟨_, rfl⟩
      rw [hy] at cc hrd hzz
      have HY := Lib.hid hy
      obtain ⟨⟨a1, n1, k1, f1⟩, a2, n2, k2, f2⟩ := hrd.shp
      clear hy hcell hmem
      rw [HY.out, ← HL.out] at hst
      have hki : (kk : Int) < (l.length : Int) := by omega
      have hone := one6 y hrd.shp
      by_cases hki2 : kk = i
      · rw [if_pos hki2] at hst
        have HST := Lib.hid hst
        clear hst
        have hii : ((kk : Int) != (i : Int)) = false := by simp [hki2]
        obtain ⟨oa, oc, rfl, _⟩ := own_reads hown
        clear hki2 hrd hone
        obtain ⟨⟨u, vv, st, hh, bo, ti⟩, ex⟩ := y
        have f1 : vv = .slice a1 n1 k1 := f1
        have f2 : hh = .slice a2 n2 k2 := f2
        subst f1 f2
        obtain ⟨c0, c1, c2, c3, c4, c5⟩ := e6_mk cc
        clear cc
        go_wp2_with fail
        go_roundw
        case rel => exact ⟨kk + 1, lo, by omega, by go_num, Lib.hid HST.out.symm, by omega, hown, hbw⟩
        case measure => simp [intOf]; omega
      · rw [if_neg hki2] at hst
        have HST := Lib.hid hst
        have HONE := Lib.hid hone
        clear hst
        have hii : ((kk : Int) != (i : Int)) = true := by simp; omega
        obtain ⟨oa, oc, rfl, _⟩ := own_reads hown
        clear hki2 hrd hone
        obtain ⟨⟨u, vv, st, hh, bo, ti⟩, ex⟩ := y
        have f1 : vv = .slice a1 n1 k1 := f1
        have f2 : hh = .slice a2 n2 k2 := f2
        subst f1 f2
        obtain ⟨c0, c1, c2, c3, c4, c5⟩ := e6_mk cc
        clear cc
        go_wp2_with (refine app2 slE wr (by rfl) (.tmp 16) (.tmp 21) (by rfl) w.heap.size _ _ _ (by rfl) hown (eeC (⟨u, .slice a1 n1 k1, st, .slice a2 n2 k2, bo, ti⟩, ex)) 1 wr.heap.size (by rfl) rfl (by rfl) HONE.out (by decide) (by omega) (by omega) hws ?_; intro v11 w11 o11 g11 f11; obtain ⟨ub, uk, rfl, _, _, _⟩ := own_reads o11)
        go_roundw
        case rel => exact ⟨kk + 1, lo ++ [(⟨u, .slice a1 n1 k1, st, .slice a2 n2 k2, bo, ti⟩, ex)], by omega, by go_num, Lib.hid HST.out.symm, by simp; omega, own_eq o11 (by simp) (by rw [cellsK_app]; simp [cellsK]), below_own hbw hown g11 hws (Nat.le_refl _)⟩
        case measure => simp [intOf]; omega
    · obtain rfl : kk = l.length := by omega
      have hm := HL.out
      rw [List.take_length] at hm
      have hxl : lo.length + 1 = (l.eraseIdx i ++ [x]).length := by rw [hm]; simp
      have HM := Lib.hid hm
      have HXL := Lib.hid hxl
      clear hm HL hxl
      obtain ⟨b0, off, rfl, hb0, hcell⟩ := HC.out (by omega)
      have cc : ∀ j u, (eeC l[i])[j]? = some u → wr.cell? ⟨b0, off + i * 6 + j, none⟩ = some u := fun j u hu => (brl hbw _ _ hb0).trans (hcell i hi j u hu)
      have hrd := HRD.out _ (List.getElem_mem hi)
      rw [HX.out] at cc hrd
      obtain ⟨⟨a1, n1, k1, f1⟩, a2, n2, k2, f2⟩ := hrd.shp
      have hone := one6 x hrd.shp
      clear hcell hrd
      have HONE := Lib.hid hone
      clear hone
      obtain ⟨oa, oc, rfl, _⟩ := own_reads hown
      obtain ⟨⟨u, vv, st, hh, bo, ti⟩, ex⟩ := x
      have f1 : vv = .slice a1 n1 k1 := f1
      have f2 : hh = .slice a2 n2 k2 := f2
      subst f1 f2
      obtain ⟨c0, c1, c2, c3, c4, c5⟩ := e6_mk cc
      clear cc
      have hii : (i : Int) < (l.length : Int) := by omega
      have hi0 : (0 : Int) ≤ (i : Int) := by omega
      go_wp2_with (refine app2 slE wr (by rfl) (.tmp 23) (.tmp 28) (by rfl) w.heap.size _ _ _ (by rfl) hown (eeC (⟨u, .slice a1 n1 k1, st, .slice a2 n2 k2, bo, ti⟩, ex)) 1 wr.heap.size (by rfl) rfl (by rfl) HONE.out (by decide) (by omega) (by omega) hws ?_; intro v11 w11 o11 g11 f11; obtain ⟨ub, uk, rfl, _, _, _⟩ := own_reads o11)
      go_ret
      refine ⟨ub, uk, by show Ending.returned (.slice ub (lo.length + 1) uk) = _; rw [HXL.out], ?_, below_own hbw hown g11 hws (Nat.le_refl _)⟩
      rw [← HXL.out]
      exact own_eq o11 rfl (by rw [cellsK_app, HM.out]; simp [cellsK])
end Go.Proofs.YtkobhknggamejaaGreatDoor
