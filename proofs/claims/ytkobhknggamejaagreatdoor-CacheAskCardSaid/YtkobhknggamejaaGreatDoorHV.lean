/- Cache: SameAttrs, SameEntry, Same of what reads alike. -/
import Derived.Test.YtkobhknggamejaaGreatDoorHN
import Derived.BigQuiet
namespace Go.Proofs.YtkobhknggamejaaGreatDoor
set_option linter.unusedVariables false
set_option linter.unusedSimpArgs false
open Go.RowKit

/-- two slices of headers that read alike -/
theorem two_h {w : World} {l : List Hd} {sa sb : Option Addr} {sc sd : Nat} (hv : SlK hdC 2 w (.slice sa l.length sc) l) (hv2 : SlK hdC 2 w (.slice sb l.length sd) l) :
    0 < l.length → ∃ b0 off b2 off2 : Nat, sa = some ⟨b0, off, none⟩ ∧ sb = some ⟨b2, off2, none⟩ ∧ ∀ kk (h : kk < l.length) j u, (hdC l[kk])[j]? = some u → w.cell? ⟨b0, off + kk * 2 + j, none⟩ = some u ∧ w.cell? ⟨b2, off2 + kk * 2 + j, none⟩ = some u := by
  intro hlt
  rcases hv with ⟨rfl, _⟩ | ⟨_, b0, off, cap, he, hc1, hc2, hc3, hcell⟩
  · simp at hlt
  rcases hv2 with ⟨rfl, _⟩ | ⟨_, b2, off2, cap2, he2, hd1, hd2, hd3, hcell2⟩
  · simp at hlt
  injection he with e1 e2 e3
  injection he2 with f1 f2 f3
  exact ⟨b0, off, b2, off2, e1, f1, fun kk h j u hu => ⟨hcell kk h j u hu, hcell2 kk h j u hu⟩⟩
set_option maxRecDepth 20000 in
theorem sameA (l : List Hd) (v v2 : Value) (w : World) (hv : SlK hdC 2 w v l) (hv2 : SlK hdC 2 w v2 l) (hl : l.length ≤ 1000000) :
    Calls Tryz.prog 27 #[v, v2] w fun x w' => x = .returned (.bool true) ∧ Below w.heap.size w w' := by
  obtain ⟨sa, sc, rfl, _⟩ := hv.shape
  obtain ⟨sb, sd, rfl, _⟩ := hv2.shape
  have HC := Lib.hid (two_h hv hv2)
  clear hv hv2
  go_enter Tryz.func27, Tryz.ntmps27
  go_wp2_with fail
  go_loopw [5] (fun iv wr => ∃ k : Nat, k ≤ l.length ∧ iv = .int .i64 k ∧ Below w.heap.size w wr) (fun iv _ => l.length - (intOf iv).toNat)
  case atStart => exact ⟨0, Nat.zero_le _, rfl, Below.refl _ _⟩
  case round =>
    obtain ⟨kk, hk, rfl, hbw⟩ := hrel
    by_cases hlt : kk < l.length
    · obtain ⟨b0, off, b2, off2, rfl, rfl, hcell⟩ := HC.out (by omega)
      have cc : ∀ j u, (hdC l[kk])[j]? = some u → wr.cell? ⟨b0, off + kk * 2 + j, none⟩ = some u := fun j u hu => (brl hbw _ _ (cell_lt (hcell kk hlt j u hu).1)).trans (hcell kk hlt j u hu).1
      have dd : ∀ j u, (hdC l[kk])[j]? = some u → wr.cell? ⟨b2, off2 + kk * 2 + j, none⟩ = some u := fun j u hu => (brl hbw _ _ (cell_lt (hcell kk hlt j u hu).2)).trans (hcell kk hlt j u hu).2
      obtain ⟨y, hy⟩ : ∃ y, l[kk] = y := ⟨_, rfl⟩
      rw [hy] at cc dd
      clear hy hcell
      obtain ⟨yn, yv⟩ := y
      have c0 := cc 0 _ rfl
      have c1 := cc 1 _ rfl
      have d0 := dd 0 _ rfl
      have d1 := dd 1 _ rfl
      simp only [Nat.add_zero] at c0 d0
      clear cc dd
      have hki : (kk : Int) < (l.length : Int) := by omega
      go_wp2_with fail
      go_quiet (fail)
      go_wp2_with fail
      go_roundw
      case rel => exact ⟨kk + 1, by omega, by go_num, below_drewN hbw _⟩
      case measure => simp [intOf]; omega
    · obtain rfl : kk = l.length := by omega
      go_wp2_with fail
      go_ret
      exact ⟨rfl, hbw⟩
set_option maxRecDepth 20000 in
theorem sameE (x y : Ee) (he : x.2 = y.2) (w : World) (hx : Rd w x.1 x.2) (hy : Rd w y.1 y.2) (h1 : x.2.va.length ≤ 1000000) (h2 : x.2.hd.length ≤ 1000000) :
    Calls Tryz.prog 26 #[eeA x, eeA y] w fun e w' => e = .returned (.bool true) ∧ Below w.heap.size w w' := by
  obtain ⟨⟨u, vv, st, hh, bo, ti⟩, ex⟩ := x
  obtain ⟨⟨u2, vv2, st2, hh2, bo2, ti2⟩, ey⟩ := y
  have he : ex = ey := he
  subst he
  have e1 : u = ex.u := hx.u
  have e2 : st = ex.st := hx.st
  have e3 : bo = ex.bo := hx.bo
  have e4 : ti = ex.ti := hx.ti
  have f1 : u2 = ex.u := hy.u
  have f2 : st2 = ex.st := hy.st
  have f3 : bo2 = ex.bo := hy.bo
  have f4 : ti2 = ex.ti := hy.ti
  have sa : SlK hdC 2 w vv ex.va := hx.va
  have sb : SlK hdC 2 w hh ex.hd := hx.hd
  have ta : SlK hdC 2 w vv2 ex.va := hy.va
  have tb : SlK hdC 2 w hh2 ex.hd := hy.hd
  rw [← f1] at e1; rw [← f2] at e2; rw [← f3] at e3; rw [← f4] at e4
  subst e1 e2 e3 e4
  clear f1 f2 f3 f4 hx hy
  obtain ⟨va, hva⟩ : ∃ va, ex.va = va := ⟨_, rfl⟩
  obtain ⟨hd, hhd⟩ : ∃ hd, ex.hd = hd := ⟨_, rfl⟩
  have h1 : ex.va.length ≤ 1000000 := h1
  have h2 : ex.hd.length ≤ 1000000 := h2
  rw [hva] at sa ta h1
  rw [hhd] at sb tb h2
  clear hva hhd
  have hB : Below w.heap.size w ((w.alloc (.cells [.string u, vv, .int .i64 st, hh, .string bo, .int .i64 ti].toArray 40)).alloc (.cells [.string u, vv2, .int .i64 st, hh2, .string bo, .int .i64 ti].toArray 40)) := ((Below.refl _ w).alloc (Nat.le_refl _) _).alloc (by simp) _
  have C1 := Lib.hid (fun w (h1' : SlK hdC 2 w vv va) (h2' : SlK hdC 2 w vv2 va) => sameA va vv vv2 w h1' h2' h1)
  have C2 := Lib.hid (fun w (h1' : SlK hdC 2 w hh hd) (h2' : SlK hdC 2 w hh2 hd) => sameA hd hh hh2 w h1' h2' h2)
  have hsa := sa.below hB (Nat.le_refl _)
  have hsb := sb.below hB (Nat.le_refl _)
  have hta := ta.below hB (Nat.le_refl _)
  have htb := tb.below hB (Nat.le_refl _)
  have AA := (AtL.new w [.string u, vv, .int .i64 st, hh, .string bo, .int .i64 ti] 40).alloc (.cells [.string u, vv2, .int .i64 st, hh2, .string bo, .int .i64 ti].toArray 40)
  have BB := AtL.new (w.alloc (.cells [.string u, vv, .int .i64 st, hh, .string bo, .int .i64 ti].toArray 40)) [.string u, vv2, .int .i64 st, hh2, .string bo, .int .i64 ti] 40
  rw [show (w.alloc (.cells [.string u, vv, .int .i64 st, hh, .string bo, .int .i64 ti].toArray 40)).heap.size = w.heap.size + 1 by simp] at BB
  obtain ⟨sa1, sa2, rfl, _⟩ := sa.shape
  obtain ⟨sb1, sb2, rfl, _⟩ := sb.shape
  obtain ⟨ta1, ta2, rfl, _⟩ := ta.shape
  obtain ⟨tb1, tb2, rfl, _⟩ := tb.shape
  clear sa sb ta tb
  go_enter Tryz.func26, Tryz.ntmps26
  go_wp2_with (first
    | (go_at_call 27; with_reducible refine (C1.out _ hsa hta).mono ?_; rintro e w1 ⟨rfl, hb1⟩; have A1 := AA.next hb1; have B1 := BB.next hb1; have z3 := A1.c 3 rfl; have y3 := B1.c 3 rfl; have al1 := A1.lt; have bl1 := B1.lt; have hsb1 := hsb.below hb1 (Nat.le_refl _); have htb1 := htb.below hb1 (Nat.le_refl _))
    | (go_at_call 27; with_reducible refine (C2.out _ hsb1 htb1).mono ?_; rintro e w2 ⟨rfl, hb2⟩))
  go_ret
  exact ⟨rfl, hB.trans ((hb1.trans (hb2.mono hb1.size)).mono hB.size)⟩
theorem two_e {w : World} {l l2 : List Ee} {sa sb : Option Addr} {n sc sd : Nat} (hn : l.length = n) (hm : l.map (·.2) = l2.map (·.2)) (hv : SlK eeC 6 w (.slice sa n sc) l) (hv2 : SlK eeC 6 w (.slice sb n sd) l2) (hr : ∀ x ∈ l, Rd w x.1 x.2) (hr2 : ∀ x ∈ l2, Rd w x.1 x.2) :
    0 < n → ∃ b0 off b2 off2 : Nat, sa = some ⟨b0, off, none⟩ ∧ sb = some ⟨b2, off2, none⟩ ∧ ∀ kk (h : kk < n), ∃ x y : Ee, x ∈ l ∧ x.2 = y.2 ∧ Rd w x.1 x.2 ∧ Rd w y.1 y.2 ∧ (∀ j u, (eeC x)[j]? = some u → w.cell? ⟨b0, off + kk * 6 + j, none⟩ = some u) ∧ (∀ j u, (eeC y)[j]? = some u → w.cell? ⟨b2, off2 + kk * 6 + j, none⟩ = some u) := by
  intro hlt
  have hl2 : l2.length = n := by have := congrArg List.length hm; simp at this; omega
  rcases hv with ⟨rfl, _⟩ | ⟨_, b0, off, cap, he, hc1, hc2, hc3, hcell⟩
  · simp at hn; omega
  rcases hv2 with ⟨rfl, _⟩ | ⟨_, b2, off2, cap2, he2, hd1, hd2, hd3, hcell2⟩
  · simp at hl2; omega
  injection he with e1 e2 e3
  injection he2 with f1 f2 f3
  refine ⟨b0, off, b2, off2, e1, f1, fun kk h => ⟨l[kk], l2[kk], List.getElem_mem _, ?_, hr _ (List.getElem_mem _), hr2 _ (List.getElem_mem _), fun j u hu => hcell kk (by omega) j u hu, fun j u hu => hcell2 kk (by omega) j u hu⟩⟩
  have := congrArg (fun z => z[kk]?) hm
  simp only [List.getElem?_map, List.getElem?_eq_getElem (show kk < l.length by omega), List.getElem?_eq_getElem (show kk < l2.length by omega), Option.map_some, Option.some.injEq] at this
  exact this
theorem e12_mk {W w' : World} {b o c p : Nat} {x0 x1 x2 x3 x4 x5 y0 y1 y2 y3 y4 y5 : Value} (hx : ∀ j u, [x0, x1, x2, x3, x4, x5][j]? = some u → W.cell? ⟨b, o + j, none⟩ = some u) (hy : ∀ j u, [y0, y1, y2, y3, y4, y5][j]? = some u → W.cell? ⟨c, p + j, none⟩ = some u) (hb : Below W.heap.size W w') :
    w'.cell? ⟨b, o, none⟩ = some x0 ∧ w'.cell? ⟨b, o + 1, none⟩ = some x1 ∧ w'.cell? ⟨b, o + 2, none⟩ = some x2 ∧ w'.cell? ⟨b, o + 3, none⟩ = some x3 ∧ w'.cell? ⟨b, o + 4, none⟩ = some x4 ∧ w'.cell? ⟨b, o + 5, none⟩ = some x5 ∧ w'.cell? ⟨c, p, none⟩ = some y0 ∧ w'.cell? ⟨c, p + 1, none⟩ = some y1 ∧ w'.cell? ⟨c, p + 2, none⟩ = some y2 ∧ w'.cell? ⟨c, p + 3, none⟩ = some y3 ∧ w'.cell? ⟨c, p + 4, none⟩ = some y4 ∧ w'.cell? ⟨c, p + 5, none⟩ = some y5 :=
  have k := fun (b o : Nat) (u : Value) (h : W.cell? ⟨b, o, none⟩ = some u) => (hb.cell (p := ⟨b, o, none⟩) (cell_lt h)).trans h
  ⟨k _ _ _ (hx 0 _ rfl), k _ _ _ (hx 1 _ rfl), k _ _ _ (hx 2 _ rfl), k _ _ _ (hx 3 _ rfl), k _ _ _ (hx 4 _ rfl), k _ _ _ (hx 5 _ rfl), k _ _ _ (hy 0 _ rfl), k _ _ _ (hy 1 _ rfl), k _ _ _ (hy 2 _ rfl), k _ _ _ (hy 3 _ rfl), k _ _ _ (hy 4 _ rfl), k _ _ _ (hy 5 _ rfl)⟩
set_option maxRecDepth 20000 in
set_option maxHeartbeats 1000000 in
theorem sameL (l l2 : List Ee) (hm : l.map (·.2) = l2.map (·.2)) (v v2 : Value) (w : World) (hv : SlK eeC 6 w v l) (hv2 : SlK eeC 6 w v2 l2) (hr : ∀ x ∈ l, Rd w x.1 x.2) (hr2 : ∀ x ∈ l2, Rd w x.1 x.2) (hz : ∀ x ∈ l, x.2.va.length ≤ 1000000 ∧ x.2.hd.length ≤ 1000000) (hl : l.length ≤ 1000000) :
    Calls Tryz.prog 28 #[v, v2] w fun x w' => x = .returned (.bool true) ∧ Below w.heap.size w w' := by
  have hl2 : l2.length = l.length := by have := congrArg List.length hm; simp at this; omega
  obtain ⟨sa, sc, rfl, _⟩ := hv.shape
  obtain ⟨sb, sd, rfl, _⟩ := hv2.shape
  rw [hl2] at hv2 ⊢
  have HC := Lib.hid (two_e rfl hm hv hv2 hr hr2)
  have HZ := Lib.hid hz
  obtain ⟨n, hn⟩ : ∃ n, l.length = n := ⟨_, rfl⟩
  rw [hn] at hl HC ⊢
  clear hv hv2 hr hr2 hm hl2 hn hz
  go_enter Tryz.func28, Tryz.ntmps28
  go_wp2_with fail
  go_loopw [5] (fun iv wr => ∃ k : Nat, k ≤ n ∧ iv = .int .i64 k ∧ Below w.heap.size w wr) (fun iv _ => n - (intOf iv).toNat)
  case atStart => exact ⟨0, Nat.zero_le _, rfl, Below.refl _ _⟩
  case round =>
    obtain ⟨kk, hk, rfl, hbw⟩ := hrel
    by_cases hlt : kk < n
    · obtain ⟨b0, off, b2, off2, rfl, rfl, hcell⟩ := HC.out (by omega)
      obtain ⟨x, y, hxl, hxy, hrx, hry, hcx, hcy⟩ := hcell kk hlt
      clear hcell
      have hzx := HZ.out x hxl
      have cx : ∀ j u, (eeC x)[j]? = some u → wr.cell? ⟨b0, off + kk * 6 + j, none⟩ = some u := fun j u hu => (brl hbw _ _ (cell_lt (hcx j u hu))).trans (hcx j u hu)
      have cy : ∀ j u, (eeC y)[j]? = some u → wr.cell? ⟨b2, off2 + kk * 6 + j, none⟩ = some u := fun j u hu => (brl hbw _ _ (cell_lt (hcy j u hu))).trans (hcy j u hu)
      have hrx' := hrx.below hbw (Nat.le_refl _)
      have hry' := hry.below hbw (Nat.le_refl _)
      obtain ⟨⟨a1, n1, k1, e1⟩, a2, n2, k2, e2⟩ := hrx.shp
      obtain ⟨⟨a3, n3, k3, e3⟩, a4, n4, k4, e4⟩ := hry.shp
      have CE := Lib.hid (sameE x y hxy wr.drew (hrx'.below (Below.refl _ wr).drew (Nat.le_refl _)) (hry'.below (Below.refl _ wr).drew (Nat.le_refl _)) hzx.1 hzx.2)
      obtain ⟨⟨u, vv, st, hh, bo, ti⟩, ex⟩ := x
      obtain ⟨⟨u2, vv2, st2, hh2, bo2, ti2⟩, ey⟩ := y
      have e1 : vv = .slice a1 n1 k1 := e1
      have e2 : hh = .slice a2 n2 k2 := e2
      have e3 : vv2 = .slice a3 n3 k3 := e3
      have e4 : hh2 = .slice a4 n4 k4 := e4
      subst e1 e2 e3 e4
      have HX := Lib.hid cx
      have HY := Lib.hid cy
      clear hcx hcy hrx hry hrx' hry' hxy hzx hxl
      have hki : (kk : Int) < (n : Int) := by omega
      have hk0 : (0 : Int) ≤ (kk : Int) := by omega
      obtain ⟨c0, c1, c2, c3, c4, c5, d0, d1, d2, d3, d4, d5⟩ := e12_mk cx cy (Below.refl _ wr)
      clear cx cy
      go_wp2_with fail
      go_region_held3 (fun w' => w'.cell? ⟨b0, off + kk * 6, none⟩ = some (.string u) ∧ w'.cell? ⟨b0, off + kk * 6 + 1, none⟩ = some (.slice a1 n1 k1) ∧ w'.cell? ⟨b0, off + kk * 6 + 2, none⟩ = some (.int .i64 st) ∧ w'.cell? ⟨b0, off + kk * 6 + 3, none⟩ = some (.slice a2 n2 k2) ∧ w'.cell? ⟨b0, off + kk * 6 + 4, none⟩ = some (.string bo) ∧ w'.cell? ⟨b0, off + kk * 6 + 5, none⟩ = some (.int .i64 ti) ∧ w'.cell? ⟨b2, off2 + kk * 6, none⟩ = some (.string u2) ∧ w'.cell? ⟨b2, off2 + kk * 6 + 1, none⟩ = some (.slice a3 n3 k3) ∧ w'.cell? ⟨b2, off2 + kk * 6 + 2, none⟩ = some (.int .i64 st2) ∧ w'.cell? ⟨b2, off2 + kk * 6 + 3, none⟩ = some (.slice a4 n4 k4) ∧ w'.cell? ⟨b2, off2 + kk * 6 + 4, none⟩ = some (.string bo2) ∧ w'.cell? ⟨b2, off2 + kk * 6 + 5, none⟩ = some (.int .i64 ti2))
        (first | exact e12_mk HX.out HY.out (Below.refl _ wr).drew | exact e12_mk HX.out HY.out hb4 | go_keep)
        (first | (go_at_call 26; (with_reducible refine CE.out.mono ?_); rintro e w4 ⟨rfl, hbb4⟩; have hb4 := (Below.refl _ wr).drew.trans hbb4))
      go_wp2_with fail
      go_roundw
      case rel => exact ⟨kk + 1, by omega, by go_num, hbw.trans (hb4.mono hbw.size)⟩
      case measure => simp [intOf]; omega
    · obtain rfl : kk = n := by omega
      go_wp2_with fail
      go_ret
      exact ⟨rfl, hbw⟩
end Go.Proofs.YtkobhknggamejaaGreatDoor
