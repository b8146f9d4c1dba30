import Derived.Test.YtgjooigolgdocaaGreatDoorG1
import Derived.Test.YtgjooigolgdocaaGreatDoorK2
import Derived.Test.YtgjooigolgdocaaGreatDoorLA
import Derived.Test.YtgjooigolgdocaaGreatDoorUS
import Derived.KernelRfl
import Derived.Test.YtgjooigolgdocaaGreatDoorCJ
/- Cookies: Match, by what the sort makes of the cookies that match. -/
namespace Go.Proofs.YtgjooigolgdocaaGreatDoor
set_option linter.unusedVariables false
set_option linter.unusedSimpArgs false
open Go.RowKit

/-- the cookies that are sent -/
def hitB (a b d : ByteArray) (now : Int) (c : Ck) : Bool :=
  (if c.ho then c.d.toList == b.toList else domL b.data.toList c.d.data.toList) && !exB c now && pathL d.data.toList c.p.data.toList && (!c.se || a.toList == httpsL)
/-- what SortStableFunc makes of a list -/
def SortTo (hits out : List Ck) : Prop := ∀ (W : World) (B : Nat) (v : Value), W.ownsRow B 29 9 v hits.length (cellsK ckL hits) → B ≤ W.heap.size →
  Calls Tryz.prog 61 #[v, .func (.func 62) #[] #[]] W fun x W' => x = .returned (.tuple #[]) ∧ W'.ownsRow B 29 9 v out.length (cellsK ckL out) ∧ Below B W W'
theorem SortTo.run {hits out : List Ck} (h : SortTo hits out) {W : World} {B : Nat} {v : Value} (hown : W.ownsRow B 29 9 v hits.length (cellsK ckL hits)) (hB : B ≤ W.heap.size) :
    Calls Tryz.prog 61 #[v, .func (.func 62) #[] #[]] W fun x W' => x = .returned (.tuple #[]) ∧ W'.ownsRow B 29 9 v out.length (cellsK ckL out) ∧ Below B W W' := h W B v hown hB
theorem ins_short (a : Option Addr) (n cap : Nat) (h : n ≤ 1) (W : World) : Calls Tryz.prog 114 #[.slice a n cap, .int .i64 0, .int .i64 n, .func (.func 62) #[] #[]] W fun x W' => x = .returned (.tuple #[]) ∧ W' = W := by
  go_enter Tryz.func114, Tryz.ntmps114
  go_wp2_with fail
  refine wp_loop_rounds 1 ?_
  rw [rounds_succ]
  go_wp2_with fail
  go_end0
  exact ⟨rfl, rfl⟩
theorem sort_short (hits : List Ck) (h : hits.length ≤ 1) : SortTo hits hits := by
  intro W B v hown hB
  have hO := Lib.hid hown
  obtain ⟨a, cap, rfl, hc, hm, _⟩ := own_reads hown
  clear hown
  obtain ⟨n, hn⟩ : ∃ n, hits.length = n := ⟨_, rfl⟩
  rw [hn] at hO hc h
  rw [hn]
  have CI : ∀ W : World, Calls Tryz.prog 95 #[.slice a n cap, .int .i64 n, .func (.func 62) #[] #[]] W fun x W' => x = .returned (.tuple #[]) ∧ W' = W := by
    intro W
    have CJ := Lib.hid (ins_short a n cap h)
    go_enter Tryz.func95, Tryz.ntmps95
    go_wp2_with fail
    refine wp_loop_rounds 1 ?_
    rw [rounds_succ]
    go_wp2_with (go_at_call 114; with_reducible refine (CJ.out _).mono ?_; rintro x w1 ⟨rfl, rfl⟩)
    refine wp_loop_rounds 1 ?_
    rw [rounds_succ]
    go_wp2_with fail
    go_end0
    exact ⟨rfl, rfl⟩
  have CII := Lib.hid CI
  clear CI
  go_enter Tryz.func61, Tryz.ntmps61
  go_wp2_with (go_at_call 95; with_reducible refine (CII.out _).mono ?_; rintro x w1 ⟨rfl, rfl⟩)
  go_end0
  exact ⟨rfl, hO.out, Below.refl _ _⟩
theorem take_hit (p : Ck → Bool) (l : List Ck) (k : Nat) (h : k < l.length) (y : Ck) (hy : l[k] = y) (b : Bool) (hb : p y = b) : (l.take (k + 1)).filter p = (l.take k).filter p ++ (if b then [y] else []) := by
  subst hy hb
  rw [List.take_succ_eq_append_getElem h, List.filter_append]
  cases hp : p l[k] <;> simp [hp]
set_option maxRecDepth 20000 in
set_option maxHeartbeats 4000000 in
/-- Match where the address has cookies -/
theorem match_yes (a b cc d e f : ByteArray) (now : Int) (hT : takesB (u6 a b cc d e f) = true) (l : List Ck) (v nx : Value) (jb : Nat) (w : World) (hz : USize 40000 a b cc d e f) (hM : MaxAt w) (hv : SlK ckL 9 w v l) (hJ : AtL w jb [v, nx])
    (hl : l.length ≤ 1000) (hsz : ∀ c ∈ l, c.d.size ≤ 100000 ∧ c.p.size ≤ 100000) (hits out : List Ck) (hh : l.filter (hitB a b d now) = hits) (hS : SortTo hits out) :
    Calls Tryz.prog 24 #[.pointer (some ⟨jb, 0, none⟩), urlA a b cc d e f, .int .i64 now] w fun x w' => ∃ v', x = .returned v' ∧ w'.ownsRow w.heap.size 29 9 v' out.length (cellsK ckL out) ∧ Below w.heap.size w w' := by
  have CT := Lib.hid (fun w hM => takes_is a b cc d e f true hT w hz hM)
  have U0 := AtL.new w (urlL a b cc d e f) 23
  have hb0 : Below w.heap.size w (w.alloc (.cells (urlL a b cc d e f).toArray 23)) := (Below.refl _ w).alloc (Nat.le_refl _) _
  have hM0 := hM.below hb0 (Nat.le_refl _)
  have J0 := hJ.below hb0 hJ.1
  have hv0 := hv.below hb0 (Nat.le_refl _)
  obtain ⟨sa, sc, rfl, _⟩ := hv.shape
  have HZ := Lib.hid hsz
  obtain ⟨pr, hpr⟩ : ∃ pr, hitB a b d now = pr := ⟨_, rfl⟩
  rw [hpr] at hh
  have HPR := Lib.hid hpr
  have HH := Lib.hid hh
  have HS := Lib.hid hS
  have hza := hz.a
  have hzb := hz.b
  have hzd := hz.d
  clear hT hz hM hsz hh hpr hS hv hJ
  go_enter Tryz.func24, Tryz.ntmps24
  go_wp2_with (go_at_call 34; with_reducible refine (CT.out _ hM0).mono ?_; rintro x w1 ⟨rfl, hb1⟩; have U1 := U0.next hb1; have J1 := J0.next hb1; have hv1 := hv0.below hb1 (Nat.le_refl _); have hB1 := hb0.trans (hb1.mono (by simp)); have j0 := J1.c 0 rfl)
  obtain ⟨U, hU⟩ : ∃ U, w.heap.size = U := ⟨_, rfl⟩
  rw [hU] at U1
  rw [hU]
  have HU := Lib.hid hU
  clear hU hM0 U0 J0 hv0 hb0 hb1 j0
  have hul := U1.lt
  go_loopw [7, 19] (fun pv iv wr => ∃ (k : Nat) (ps : List Ck), k ≤ l.length ∧ iv = .int .i64 k ∧ wr.ownsRow w1.heap.size 29 9 pv ps.length (cellsK ckL ps) ∧ ps = (l.take k).filter pr ∧ Below w1.heap.size w1 wr) (fun _ iv _ => l.length - (intOf iv).toNat)
  case atStart => exact ⟨0, [], Nat.zero_le _, rfl, World.ownsRow_nil _ _ _ _, rfl, Below.refl _ _⟩
  case round =>
    obtain ⟨kk, ps, hk, rfl, hown, hps, hbw⟩ := hrel
    have hwz := hbw.size
    have HP := Lib.hid hps
    have hpl : ps.length ≤ kk := by rw [hps]; exact Nat.le_trans (List.length_filter_le _ _) (by simp; omega)
    clear hps
    by_cases hlt : kk < l.length
    · rcases hv1 with ⟨rfl, _⟩ | ⟨_, b0, off, cap, he, hc1, hc2, hc3, hcell⟩
      · simp at hlt
      injection he with e1 e2 e3
      subst e1 e3
      have cc : ∀ j u, (ckL l[kk])[j]? = some u → wr.cell? ⟨b0, off + kk * 9 + j, none⟩ = some u := fun j u hu => (hbw.cell (p := ⟨b0, off + kk * 9 + j, none⟩) hc3).trans (hcell kk hlt j u hu)
      have hsz := HZ.out _ (List.getElem_mem hlt)
      obtain ⟨y, hy⟩ : ∃ y, l[kk] = y := ⟨_, rfl⟩
      rw [hy] at cc hsz
      have hTK := take_hit pr l kk hlt y hy
      clear hcell hy
      obtain ⟨yn, yv, yd, yp, yho, yse, yhi, yex, ycr⟩ := y
      have hsd : yd.size ≤ 100000 := hsz.1
      have hsp : yp.size ≤ 100000 := hsz.2
      clear hsz
      have c0 := cc 0 _ rfl
      have c1 := cc 1 _ rfl
      have c2 := cc 2 _ rfl
      have c3 := cc 3 _ rfl
      have c4 := cc 4 _ rfl
      have c5 := cc 5 _ rfl
      have c6 := cc 6 _ rfl
      have c7 := cc 7 _ rfl
      have c8 := cc 8 _ rfl
      simp only [Nat.add_zero] at c0
      clear cc
      obtain ⟨E, hE⟩ : ∃ E, exB ⟨yn, yv, yd, yp, yho, yse, yhi, yex, ycr⟩ now = E := ⟨_, rfl⟩
      obtain ⟨D, hD⟩ : ∃ D, domL b.data.toList yd.data.toList = D := ⟨_, rfl⟩
      obtain ⟨Pp, hPp⟩ : ∃ Pp, pathL d.data.toList yp.data.toList = Pp := ⟨_, rfl⟩
      have CE := Lib.hid (fun w => expired_is ⟨yn, yv, yd, yp, yho, yse, yhi, yex, ycr⟩ now E hE w)
      have cDm := fun w => dom_any b yd w (by omega) (by omega)
      have cPa := fun w => path_any d yp w (by omega) (by omega)
      have hBB : pr ⟨yn, yv, yd, yp, yho, yse, yhi, yex, ycr⟩ = ((if yho then yd.toList == b.toList else D) && !E && Pp && (!yse || a.toList == httpsL))   := by rw [← HPR.out]; unfold hitB; rw [hE]; simp only [hD, hPp]
      rw [hD] at cDm
      rw [hPp] at cPa
      have CDm := Lib.hid cDm
      have CPa := Lib.hid cPa
      have CA := AtL.new wr (ckL ⟨yn, yv, yd, yp, yho, yse, yhi, yex, ycr⟩) 29
      have UA := (U1.below hbw hul).alloc (.cells (ckL ⟨yn, yv, yd, yp, yho, yse, yhi, yex, ycr⟩).toArray 29)
      have hBa := hbw.alloc hwz (.cells (ckL ⟨yn, yv, yd, yp, yho, yse, yhi, yex, ycr⟩).toArray 29)
      have hoa := hown.alloc (.cells (ckL ⟨yn, yv, yd, yp, yho, yse, yhi, yex, ycr⟩).toArray 29)
      have v0 := UA.c 0 rfl; have v1 := UA.c 1 rfl; have v2 := UA.c 2 rfl; have v3 := UA.c 3 rfl; have v4 := UA.c 4 rfl; have v5 := UA.c 5 rfl
      have hua := UA.lt
      have hki : (kk : Int) < (l.length : Int) := by omega
      clear hE hD hPp cDm cPa
      cases yho
      · cases D
        · have HS := Lib.hid (hTK false (by rw [hBB]; rfl))
          clear hTK hBB
          go_wp2_with (go_at_call 14; with_reducible refine (CDm.out _).mono ?_; rintro x w2 ⟨rfl, hb2⟩; have hB9 := hBa.trans (hb2.mono hBa.size); have hown9 := own_below hoa hb2 (Nat.le_refl _); have C2 := CA.next hb2; have U2 := UA.next hb2; have z0 := C2.c 0 rfl; have z1 := C2.c 1 rfl; have z2 := C2.c 2 rfl; have z3 := C2.c 3 rfl; have z4 := C2.c 4 rfl; have z5 := C2.c 5 rfl; have z6 := C2.c 6 rfl; have z7 := C2.c 7 rfl; have z8 := C2.c 8 rfl; have u0 := U2.c 0 rfl; have u1 := U2.c 1 rfl; have u2 := U2.c 2 rfl; have u3 := U2.c 3 rfl; have u4 := U2.c 4 rfl; have u5 := U2.c 5 rfl; have hk3 := C2.lt; have hu3 := U2.lt)
          go_roundw
          case rel => exact ⟨kk + 1, ps, by omega, by go_num, hown9, by rw [HS.out, HP.out]; simp, hB9⟩
          case measure => simp [intOf]; omega
        · have hBB := hBB
          go_wp2_with (go_at_call 14; with_reducible refine (CDm.out _).mono ?_; rintro x w2 ⟨rfl, hb2⟩; have hB2 := hBa.trans (hb2.mono hBa.size); have ho2 := own_below hoa hb2 (Nat.le_refl _); have C2 := CA.next hb2; have U2 := UA.next hb2; have y0 := C2.c 0 rfl; have y1 := C2.c 1 rfl; have y2 := C2.c 2 rfl; have y3 := C2.c 3 rfl; have y4 := C2.c 4 rfl; have y5 := C2.c 5 rfl; have y6 := C2.c 6 rfl; have y7 := C2.c 7 rfl; have y8 := C2.c 8 rfl; have t0 := U2.c 0 rfl; have t1 := U2.c 1 rfl; have t2 := U2.c 2 rfl; have t3 := U2.c 3 rfl; have t4 := U2.c 4 rfl; have t5 := U2.c 5 rfl; have hk2 := C2.lt; have hu2 := U2.lt)
          clear y0 y1 y2 y3 y4 y5 y6 y7 y8 t0 t1 t2 t3 t4 t5
          have y0 := C2.c 0 rfl; have y1 := C2.c 1 rfl; have y2 := C2.c 2 rfl; have y3 := C2.c 3 rfl; have y4 := C2.c 4 rfl; have y5 := C2.c 5 rfl; have y6 := C2.c 6 rfl; have y7 := C2.c 7 rfl; have y8 := C2.c 8 rfl
          have t0 := U2.c 0 rfl; have t1 := U2.c 1 rfl; have t2 := U2.c 2 rfl; have t3 := U2.c 3 rfl; have t4 := U2.c 4 rfl; have t5 := U2.c 5 rfl
          have hk2 := C2.lt
          have hu2 := U2.lt
          have hz2 := hB2.size
          cases E
          · cases Pp
            · have HS := Lib.hid (hTK false (by rw [hBB]; rfl))
              clear hTK hBB
              go_wp2_with (first
                |
                  (go_at_call 60; with_reducible refine (CE.out _).mono ?_; rintro x w3 ⟨rfl, hb3⟩; have hB3 := hB2.trans (hb3.mono hz2); have ho3 := own_below ho2 hb3 (Nat.le_refl _); have C3 := C2.next hb3; have U3 := U2.next hb3; have z0 := C3.c 0 rfl; have z1 := C3.c 1 rfl; have z2 := C3.c 2 rfl; have z3 := C3.c 3 rfl; have z4 := C3.c 4 rfl; have z5 := C3.c 5 rfl; have z6 := C3.c 6 rfl; have z7 := C3.c 7 rfl; have z8 := C3.c 8 rfl; have u0 := U3.c 0 rfl; have u1 := U3.c 1 rfl; have u2 := U3.c 2 rfl; have u3 := U3.c 3 rfl; have u4 := U3.c 4 rfl; have u5 := U3.c 5 rfl; have hk3 := C3.lt; have hu3 := U3.lt; have hz3 := hB3.size)
                  | (go_at_call 16; with_reducible refine (CPa.out _).mono ?_; rintro x w4 ⟨rfl, rfl⟩)
                )
              have hown9 := ho3
              have hB9 := hB3
              go_roundw
              case rel => exact ⟨kk + 1, ps, by omega, by go_num, hown9, by rw [HS.out, HP.out]; simp, hB9⟩
              case measure => simp [intOf]; omega
            · cases yse
              · have HS := Lib.hid (hTK true (by rw [hBB]; rfl))
                clear hTK hBB
                go_wp2_with (first
                  |
                    (go_at_call 60; with_reducible refine (CE.out _).mono ?_; rintro x w3 ⟨rfl, hb3⟩; have hB3 := hB2.trans (hb3.mono hz2); have ho3 := own_below ho2 hb3 (Nat.le_refl _); have C3 := C2.next hb3; have U3 := U2.next hb3; have z0 := C3.c 0 rfl; have z1 := C3.c 1 rfl; have z2 := C3.c 2 rfl; have z3 := C3.c 3 rfl; have z4 := C3.c 4 rfl; have z5 := C3.c 5 rfl; have z6 := C3.c 6 rfl; have z7 := C3.c 7 rfl; have z8 := C3.c 8 rfl; have u0 := U3.c 0 rfl; have u1 := U3.c 1 rfl; have u2 := U3.c 2 rfl; have u3 := U3.c 3 rfl; have u4 := U3.c 4 rfl; have u5 := U3.c 5 rfl; have hk3 := C3.lt; have hu3 := U3.lt; have hz3 := hB3.size)
                    | (go_at_call 16; with_reducible refine (CPa.out _).mono ?_; rintro x w4 ⟨rfl, rfl⟩)
                    | (refine app2 slC _ (by rfl) (.tmp 60) (.tmp 62) (by rfl) w1.heap.size _ _ _ (by rfl) ho3 [_, _, _, _, _, _, _, _, _] 1 _ (by rfl) rfl (by rfl) (by intro u hu; simp at hu; rcases hu with rfl | rfl | rfl | rfl | rfl | rfl | rfl | rfl | rfl <;> rfl) (by decide) (by omega) (by omega) hz3 ?_; intro v2 w5 hA2 gA fA; have hB9 := below_own hB3 ho3 gA hz3 (Nat.le_refl _))
                  )
                go_roundw
                case rel => exact ⟨kk + 1, (l.take (kk + 1)).filter pr, by omega, by go_num, own_eq hA2 (by rw [HS.out, ← HP.out]; simp) (by rw [HS.out, ← HP.out, cellsK_app]; rfl), rfl, hB9⟩
                case measure => simp [intOf]; omega
              · by_cases hsc : a.toList = httpsL
                · have HS := Lib.hid (hTK true (by rw [hBB, hsc]; rfl))
                  have hs2 : a.toList = [104, 116, 116, 112, 115] := hsc
                  clear hTK hBB hsc
                  go_wp2_with (first
                    |
                      (go_at_call 60; with_reducible refine (CE.out _).mono ?_; rintro x w3 ⟨rfl, hb3⟩; have hB3 := hB2.trans (hb3.mono hz2); have ho3 := own_below ho2 hb3 (Nat.le_refl _); have C3 := C2.next hb3; have U3 := U2.next hb3; have z0 := C3.c 0 rfl; have z1 := C3.c 1 rfl; have z2 := C3.c 2 rfl; have z3 := C3.c 3 rfl; have z4 := C3.c 4 rfl; have z5 := C3.c 5 rfl; have z6 := C3.c 6 rfl; have z7 := C3.c 7 rfl; have z8 := C3.c 8 rfl; have u0 := U3.c 0 rfl; have u1 := U3.c 1 rfl; have u2 := U3.c 2 rfl; have u3 := U3.c 3 rfl; have u4 := U3.c 4 rfl; have u5 := U3.c 5 rfl; have hk3 := C3.lt; have hu3 := U3.lt; have hz3 := hB3.size)
                      | (go_at_call 16; with_reducible refine (CPa.out _).mono ?_; rintro x w4 ⟨rfl, rfl⟩)
                      | (refine app2 slC _ (by rfl) (.tmp 60) (.tmp 62) (by rfl) w1.heap.size _ _ _ (by rfl) ho3 [_, _, _, _, _, _, _, _, _] 1 _ (by rfl) rfl (by rfl) (by intro u hu; simp at hu; rcases hu with rfl | rfl | rfl | rfl | rfl | rfl | rfl | rfl | rfl <;> rfl) (by decide) (by omega) (by omega) hz3 ?_; intro v2 w5 hA2 gA fA; have hB9 := below_own hB3 ho3 gA hz3 (Nat.le_refl _))
                    )
                  go_roundw
                  case rel => exact ⟨kk + 1, (l.take (kk + 1)).filter pr, by omega, by go_num, own_eq hA2 (by rw [HS.out, ← HP.out]; simp) (by rw [HS.out, ← HP.out, cellsK_app]; rfl), rfl, hB9⟩
                  case measure => simp [intOf]; omega
                · have HS := Lib.hid (hTK false (by rw [hBB, beq_eq_false_iff_ne.2 hsc]; rfl))
                  have hs2 : ¬ a.toList = [104, 116, 116, 112, 115] := hsc
                  have hs3 : (a.toList == [104, 116, 116, 112, 115]) = false := beq_eq_false_iff_ne.2 hs2
                  clear hTK hBB hsc
                  go_wp2_with (first
                    |
                      (go_at_call 60; with_reducible refine (CE.out _).mono ?_; rintro x w3 ⟨rfl, hb3⟩; have hB3 := hB2.trans (hb3.mono hz2); have ho3 := own_below ho2 hb3 (Nat.le_refl _); have C3 := C2.next hb3; have U3 := U2.next hb3; have z0 := C3.c 0 rfl; have z1 := C3.c 1 rfl; have z2 := C3.c 2 rfl; have z3 := C3.c 3 rfl; have z4 := C3.c 4 rfl; have z5 := C3.c 5 rfl; have z6 := C3.c 6 rfl; have z7 := C3.c 7 rfl; have z8 := C3.c 8 rfl; have u0 := U3.c 0 rfl; have u1 := U3.c 1 rfl; have u2 := U3.c 2 rfl; have u3 := U3.c 3 rfl; have u4 := U3.c 4 rfl; have u5 := U3.c 5 rfl; have hk3 := C3.lt; have hu3 := U3.lt; have hz3 := hB3.size)
                      | (go_at_call 16; with_reducible refine (CPa.out _).mono ?_; rintro x w4 ⟨rfl, rfl⟩)
                    )
                  have hown9 := ho3
                  have hB9 := hB3
                  go_roundw
                  case rel => exact ⟨kk + 1, ps, by omega, by go_num, hown9, by rw [HS.out, HP.out]; simp, hB9⟩
                  case measure => simp [intOf]; omega
          · have HS := Lib.hid (hTK false (by rw [hBB]; rfl))
            clear hTK hBB
            go_wp2_with
                (go_at_call 60; with_reducible refine (CE.out _).mono ?_; rintro x w3 ⟨rfl, hb3⟩; have hB3 := hB2.trans (hb3.mono hz2); have ho3 := own_below ho2 hb3 (Nat.le_refl _); have C3 := C2.next hb3; have U3 := U2.next hb3; have z0 := C3.c 0 rfl; have z1 := C3.c 1 rfl; have z2 := C3.c 2 rfl; have z3 := C3.c 3 rfl; have z4 := C3.c 4 rfl; have z5 := C3.c 5 rfl; have z6 := C3.c 6 rfl; have z7 := C3.c 7 rfl; have z8 := C3.c 8 rfl; have u0 := U3.c 0 rfl; have u1 := U3.c 1 rfl; have u2 := U3.c 2 rfl; have u3 := U3.c 3 rfl; have u4 := U3.c 4 rfl; have u5 := U3.c 5 rfl; have hk3 := C3.lt; have hu3 := U3.lt; have hz3 := hB3.size)
            have hown9 := ho3
            have hB9 := hB3
            go_roundw
            case rel => exact ⟨kk + 1, ps, by omega, by go_num, hown9, by rw [HS.out, HP.out]; simp, hB9⟩
            case measure => simp [intOf]; omega
      · by_cases hd : yd.toList = b.toList
        · obtain rfl : yd = b := ba_ext' (by rw [← ByteArray.toList_eq, ← ByteArray.toList_eq]; exact hd)
          have hBB : pr ⟨yn, yv, yd, yp, true, yse, yhi, yex, ycr⟩ = ((true : Bool) && !E && Pp && (!yse || a.toList == httpsL)) := by rw [hBB, if_pos rfl, beq_self_eq_true]
          have C2 := CA
          have U2 := UA
          have ho2 := hoa
          have hB2 := hBa
          clear hd CA UA hoa hBa v0 v1 v2 v3 v4 v5
          have y0 := C2.c 0 rfl; have y1 := C2.c 1 rfl; have y2 := C2.c 2 rfl; have y3 := C2.c 3 rfl; have y4 := C2.c 4 rfl; have y5 := C2.c 5 rfl; have y6 := C2.c 6 rfl; have y7 := C2.c 7 rfl; have y8 := C2.c 8 rfl
          have t0 := U2.c 0 rfl; have t1 := U2.c 1 rfl; have t2 := U2.c 2 rfl; have t3 := U2.c 3 rfl; have t4 := U2.c 4 rfl; have t5 := U2.c 5 rfl
          have hk2 := C2.lt
          have hu2 := U2.lt
          have hz2 := hB2.size
          cases E
          · cases Pp
            · have HS := Lib.hid (hTK false (by rw [hBB]; rfl))
              clear hTK hBB
              go_wp2_with (first
                |
                  (go_at_call 60; with_reducible refine (CE.out _).mono ?_; rintro x w3 ⟨rfl, hb3⟩; have hB3 := hB2.trans (hb3.mono hz2); have ho3 := own_below ho2 hb3 (Nat.le_refl _); have C3 := C2.next hb3; have U3 := U2.next hb3; have z0 := C3.c 0 rfl; have z1 := C3.c 1 rfl; have z2 := C3.c 2 rfl; have z3 := C3.c 3 rfl; have z4 := C3.c 4 rfl; have z5 := C3.c 5 rfl; have z6 := C3.c 6 rfl; have z7 := C3.c 7 rfl; have z8 := C3.c 8 rfl; have u0 := U3.c 0 rfl; have u1 := U3.c 1 rfl; have u2 := U3.c 2 rfl; have u3 := U3.c 3 rfl; have u4 := U3.c 4 rfl; have u5 := U3.c 5 rfl; have hk3 := C3.lt; have hu3 := U3.lt; have hz3 := hB3.size)
                  | (go_at_call 16; with_reducible refine (CPa.out _).mono ?_; rintro x w4 ⟨rfl, rfl⟩)
                )
              have hown9 := ho3
              have hB9 := hB3
              go_roundw
              case rel => exact ⟨kk + 1, ps, by omega, by go_num, hown9, by rw [HS.out, HP.out]; simp, hB9⟩
              case measure => simp [intOf]; omega
            · cases yse
              · have HS := Lib.hid (hTK true (by rw [hBB]; rfl))
                clear hTK hBB
                go_wp2_with (first
                  |
                    (go_at_call 60; with_reducible refine (CE.out _).mono ?_; rintro x w3 ⟨rfl, hb3⟩; have hB3 := hB2.trans (hb3.mono hz2); have ho3 := own_below ho2 hb3 (Nat.le_refl _); have C3 := C2.next hb3; have U3 := U2.next hb3; have z0 := C3.c 0 rfl; have z1 := C3.c 1 rfl; have z2 := C3.c 2 rfl; have z3 := C3.c 3 rfl; have z4 := C3.c 4 rfl; have z5 := C3.c 5 rfl; have z6 := C3.c 6 rfl; have z7 := C3.c 7 rfl; have z8 := C3.c 8 rfl; have u0 := U3.c 0 rfl; have u1 := U3.c 1 rfl; have u2 := U3.c 2 rfl; have u3 := U3.c 3 rfl; have u4 := U3.c 4 rfl; have u5 := U3.c 5 rfl; have hk3 := C3.lt; have hu3 := U3.lt; have hz3 := hB3.size)
                    | (go_at_call 16; with_reducible refine (CPa.out _).mono ?_; rintro x w4 ⟨rfl, rfl⟩)
                    | (refine app2 slC _ (by rfl) (.tmp 60) (.tmp 62) (by rfl) w1.heap.size _ _ _ (by rfl) ho3 [_, _, _, _, _, _, _, _, _] 1 _ (by rfl) rfl (by rfl) (by intro u hu; simp at hu; rcases hu with rfl | rfl | rfl | rfl | rfl | rfl | rfl | rfl | rfl <;> rfl) (by decide) (by omega) (by omega) hz3 ?_; intro v2 w5 hA2 gA fA; have hB9 := below_own hB3 ho3 gA hz3 (Nat.le_refl _))
                  )
                go_roundw
                case rel => exact ⟨kk + 1, (l.take (kk + 1)).filter pr, by omega, by go_num, own_eq hA2 (by rw [HS.out, ← HP.out]; simp) (by rw [HS.out, ← HP.out, cellsK_app]; rfl), rfl, hB9⟩
                case measure => simp [intOf]; omega
              · by_cases hsc : a.toList = httpsL
                · have HS := Lib.hid (hTK true (by rw [hBB, hsc]; rfl))
                  have hs2 : a.toList = [104, 116, 116, 112, 115] := hsc
                  clear hTK hBB hsc
                  go_wp2_with (first
                    |
                      (go_at_call 60; with_reducible refine (CE.out _).mono ?_; rintro x w3 ⟨rfl, hb3⟩; have hB3 := hB2.trans (hb3.mono hz2); have ho3 := own_below ho2 hb3 (Nat.le_refl _); have C3 := C2.next hb3; have U3 := U2.next hb3; have z0 := C3.c 0 rfl; have z1 := C3.c 1 rfl; have z2 := C3.c 2 rfl; have z3 := C3.c 3 rfl; have z4 := C3.c 4 rfl; have z5 := C3.c 5 rfl; have z6 := C3.c 6 rfl; have z7 := C3.c 7 rfl; have z8 := C3.c 8 rfl; have u0 := U3.c 0 rfl; have u1 := U3.c 1 rfl; have u2 := U3.c 2 rfl; have u3 := U3.c 3 rfl; have u4 := U3.c 4 rfl; have u5 := U3.c 5 rfl; have hk3 := C3.lt; have hu3 := U3.lt; have hz3 := hB3.size)
                      | (go_at_call 16; with_reducible refine (CPa.out _).mono ?_; rintro x w4 ⟨rfl, rfl⟩)
                      | (refine app2 slC _ (by rfl) (.tmp 60) (.tmp 62) (by rfl) w1.heap.size _ _ _ (by rfl) ho3 [_, _, _, _, _, _, _, _, _] 1 _ (by rfl) rfl (by rfl) (by intro u hu; simp at hu; rcases hu with rfl | rfl | rfl | rfl | rfl | rfl | rfl | rfl | rfl <;> rfl) (by decide) (by omega) (by omega) hz3 ?_; intro v2 w5 hA2 gA fA; have hB9 := below_own hB3 ho3 gA hz3 (Nat.le_refl _))
                    )
                  go_roundw
                  case rel => exact ⟨kk + 1, (l.take (kk + 1)).filter pr, by omega, by go_num, own_eq hA2 (by rw [HS.out, ← HP.out]; simp) (by rw [HS.out, ← HP.out, cellsK_app]; rfl), rfl, hB9⟩
                  case measure => simp [intOf]; omega
                · have HS := Lib.hid (hTK false (by rw [hBB, beq_eq_false_iff_ne.2 hsc]; rfl))
                  have hs2 : ¬ a.toList = [104, 116, 116, 112, 115] := hsc
                  have hs3 : (a.toList == [104, 116, 116, 112, 115]) = false := beq_eq_false_iff_ne.2 hs2
                  clear hTK hBB hsc
                  go_wp2_with (first
                    |
                      (go_at_call 60; with_reducible refine (CE.out _).mono ?_; rintro x w3 ⟨rfl, hb3⟩; have hB3 := hB2.trans (hb3.mono hz2); have ho3 := own_below ho2 hb3 (Nat.le_refl _); have C3 := C2.next hb3; have U3 := U2.next hb3; have z0 := C3.c 0 rfl; have z1 := C3.c 1 rfl; have z2 := C3.c 2 rfl; have z3 := C3.c 3 rfl; have z4 := C3.c 4 rfl; have z5 := C3.c 5 rfl; have z6 := C3.c 6 rfl; have z7 := C3.c 7 rfl; have z8 := C3.c 8 rfl; have u0 := U3.c 0 rfl; have u1 := U3.c 1 rfl; have u2 := U3.c 2 rfl; have u3 := U3.c 3 rfl; have u4 := U3.c 4 rfl; have u5 := U3.c 5 rfl; have hk3 := C3.lt; have hu3 := U3.lt; have hz3 := hB3.size)
                      | (go_at_call 16; with_reducible refine (CPa.out _).mono ?_; rintro x w4 ⟨rfl, rfl⟩)
                    )
                  have hown9 := ho3
                  have hB9 := hB3
                  go_roundw
                  case rel => exact ⟨kk + 1, ps, by omega, by go_num, hown9, by rw [HS.out, HP.out]; simp, hB9⟩
                  case measure => simp [intOf]; omega
          · have HS := Lib.hid (hTK false (by rw [hBB]; rfl))
            clear hTK hBB
            go_wp2_with
                (go_at_call 60; with_reducible refine (CE.out _).mono ?_; rintro x w3 ⟨rfl, hb3⟩; have hB3 := hB2.trans (hb3.mono hz2); have ho3 := own_below ho2 hb3 (Nat.le_refl _); have C3 := C2.next hb3; have U3 := U2.next hb3; have z0 := C3.c 0 rfl; have z1 := C3.c 1 rfl; have z2 := C3.c 2 rfl; have z3 := C3.c 3 rfl; have z4 := C3.c 4 rfl; have z5 := C3.c 5 rfl; have z6 := C3.c 6 rfl; have z7 := C3.c 7 rfl; have z8 := C3.c 8 rfl; have u0 := U3.c 0 rfl; have u1 := U3.c 1 rfl; have u2 := U3.c 2 rfl; have u3 := U3.c 3 rfl; have u4 := U3.c 4 rfl; have u5 := U3.c 5 rfl; have hk3 := C3.lt; have hu3 := U3.lt; have hz3 := hB3.size)
            have hown9 := ho3
            have hB9 := hB3
            go_roundw
            case rel => exact ⟨kk + 1, ps, by omega, by go_num, hown9, by rw [HS.out, HP.out]; simp, hB9⟩
            case measure => simp [intOf]; omega
        · have hd2 : (yd.toList == b.toList) = false := beq_eq_false_iff_ne.2 hd
          have HS := Lib.hid (hTK false (by rw [hBB, if_pos rfl, hd2]; rfl))
          clear hTK hBB
          go_wp2_with fail
          have hown9 := hoa
          have hB9 := hBa
          go_roundw
          case rel => exact ⟨kk + 1, ps, by omega, by go_num, hown9, by rw [HS.out, HP.out]; simp, hB9⟩
          case measure => simp [intOf]; omega
    · obtain rfl : kk = l.length := by omega
      have hps : ps = hits := by rw [HP.out, List.take_length]; exact HH.out
      clear HP
      subst hps
      go_wp2_with (go_at_call 61; with_reducible refine (HS.out.run hown hwz).mono ?_; rintro x w2 ⟨rfl, hown2, hb2⟩)
      go_ret
      obtain rfl := HU.out
      exact ⟨_, rfl, own_mono hown2 (Nat.le_of_lt hul), hB1.trans ((hbw.trans hb2).mono (Nat.le_of_lt hul))⟩
end Go.Proofs.YtgjooigolgdocaaGreatDoor

/- Cookies: join. -/
namespace Go.Proofs.YtgjooigolgdocaaGreatDoor
set_option linter.unusedVariables false
set_option linter.unusedSimpArgs false
open Go.RowKit

theorem slS2 : SlTy Tryz.prog 56 9 1 16 := .mk' (z := .string ⟨#[]⟩) Tryz.underlying56 (by kernel_rfl) rfl (by decide)
def pairT (c : Ck) : List UInt8 := c.n.data.toList ++ (61 :: c.v.data.toList)
def joinL (l : List Ck) : List UInt8 := Lib.join (l.map pairT) [59, 32]
theorem joinT_bd (N : Nat) : ∀ xs : List (List UInt8), (∀ x ∈ xs, x.length ≤ N) → (Lib.join xs [59, 32]).length ≤ xs.length * (N + 2) := by
  intro xs
  induction xs with
  | nil => intro _; simp [Lib.join]
  | cons x r ih =>
    intro h
    cases r with
    | nil => rw [Lib.join_one]; have := h x (by simp); simp; omega
    | cons y r =>
      have e : Lib.join (x :: y :: r) [59, 32] = x ++ 59 :: 32 :: Lib.join (y :: r) [59, 32] := by simp [Lib.join, List.intercalate]
      have h1 := h x (by simp)
      have h2 := ih (fun z hz => h z (List.mem_cons_of_mem _ hz))
      have hl : (x :: y :: r).length = (y :: r).length + 1 := rfl
      rw [e, List.length_append, List.length_cons, List.length_cons, hl, Nat.add_mul]
      omega
set_option maxRecDepth 20000 in
set_option maxHeartbeats 4000000 in
theorem join_is (l : List Ck) (v : Value) (w : World) (hv : SlK ckL 9 w v l) (hl : l.length ≤ 1000) (hsz : ∀ c ∈ l, c.n.size ≤ 100000 ∧ c.v.size ≤ 100000) (R : ByteArray) (hR : R.data.toList = joinL l) :
    Calls Tryz.prog 59 #[v] w fun x w' => x = .returned (.string R) ∧ Below w.heap.size w w' := by
  have HR := Lib.hid hR
  have HZ := Lib.hid hsz
  have hv1 := hv
  obtain ⟨sa, sc, rfl, _⟩ := hv.shape
  clear hR hsz hv
  go_enter Tryz.func59, Tryz.ntmps59
  go_wp2_with fail
  go_loopw [3, 8] (fun pv iv wr => ∃ (k : Nat) (ps : List ByteArray), k ≤ l.length ∧ iv = .int .i64 k ∧ wr.ownsRow w.heap.size 9 1 pv ps.length (strsV ps) ∧ lists ps = (l.take k).map pairT ∧ ps.length = k ∧ Below w.heap.size w wr) (fun _ iv _ => l.length - (intOf iv).toNat)
  case atStart => exact ⟨0, [], Nat.zero_le _, rfl, World.ownsRow_nil _ _ _ _, rfl, rfl, Below.refl _ _⟩
  case round =>
    obtain ⟨kk, ps, hk, rfl, hown, hps, hpl, hbw⟩ := hrel
    have hwz := hbw.size
    have HP := Lib.hid hps
    clear hps
    by_cases hlt : kk < l.length
    · rcases hv1 with ⟨rfl, _⟩ | ⟨_, b0, off, cap, he, hc1, hc2, hc3, hcell⟩
      · simp at hlt
      injection he with e1 e2 e3
      subst e1 e3
      have cc : ∀ j u, (ckL l[kk])[j]? = some u → wr.cell? ⟨b0, off + kk * 9 + j, none⟩ = some u := fun j u hu => (hbw.cell (p := ⟨b0, off + kk * 9 + j, none⟩) hc3).trans (hcell kk hlt j u hu)
      have hsz := HZ.out _ (List.getElem_mem hlt)
      have hts : (l.take (kk + 1)).map pairT = (l.take kk).map pairT ++ [pairT l[kk]] := by
        rw [List.take_succ_eq_append_getElem hlt, List.map_append]; rfl
      obtain ⟨y, hy⟩ : ∃ y, l[kk] = y := ⟨_, rfl⟩
      rw [hy] at cc hsz hts
      clear hcell hy
      obtain ⟨yn, yv, yd, yp, yho, yse, yhi, yex, ycr⟩ := y
      have hsn : yn.size ≤ 100000 := hsz.1
      have hsv : yv.size ≤ 100000 := hsz.2
      have HS := Lib.hid hts
      have c0 := cc 0 _ rfl
      have c1 := cc 1 _ rfl
      have c2 := cc 2 _ rfl
      have c3 := cc 3 _ rfl
      have c4 := cc 4 _ rfl
      have c5 := cc 5 _ rfl
      have c6 := cc 6 _ rfl
      have c7 := cc 7 _ rfl
      have c8 := cc 8 _ rfl
      simp only [Nat.add_zero] at c0
      clear cc hsz hts
      have hki : (kk : Int) < (l.length : Int) := by omega
      have o1 : ¬ 9223372036854775807 < yn.size + 1 := by omega
      have o2 : ¬ 9223372036854775807 < yn.size + 1 + yv.size := by omega
      have hBa := hbw.alloc hwz (.cells (ckL ⟨yn, yv, yd, yp, yho, yse, yhi, yex, ycr⟩).toArray 29)
      have hoa := hown.alloc (.cells (ckL ⟨yn, yv, yd, yp, yho, yse, yhi, yex, ycr⟩).toArray 29)
      have hza := hBa.size
      go_wp2_with (refine app2 slS2 _ (by rfl) (.tmp 12) (.tmp 19) (by rfl) w.heap.size _ _ _ (by rfl) hoa [_] 1 _ (by rfl) (by simp) (by rfl) (by intro u hu; simp at hu; subst hu; rfl) (by decide) (by omega) (by omega) hza ?_; intro v2 w8 hA2 gA fA; have hB8 := below_own hBa hoa gA hza (Nat.le_refl _))
      go_roundw
      case rel => exact ⟨kk + 1, ps ++ [yn ++ ⟨#[61]⟩ ++ yv], by omega, by go_num, by simpa [strsV] using hA2, by rw [HS.out, ← HP.out]; simp [lists, pairT, app_list], by simp [hpl], hB8⟩
      case measure => simp [intOf]; omega
    · obtain rfl : kk = l.length := by omega
      have hq : Lib.join (lists ps) [59, 32] = R.data.toList := by
        rw [HP.out, HR.out, joinL, List.take_length]
      have hjb : (Lib.join (lists ps) [59, 32]).length ≤ 140737488355328 := by
        have := joinT_bd 200001 (lists ps) (fun z hz => by
          rw [HP.out, List.take_length] at hz
          obtain ⟨c, hc, rfl⟩ := List.mem_map.1 hz
          have := HZ.out c hc
          rw [← size_len, ← size_len] at this
          unfold pairT
          rw [List.length_append, List.length_cons]; omega)
        have hl : (lists ps).length = ps.length := by simp [lists]
        omega
      obtain ⟨ad, cp, hpv, hcp, hcm, had⟩ := own_reads hown
      subst hpv
      have hpl2 : ps.length ≤ 1000 := by omega
      clear hpl
      rcases had with ⟨rfl, h0⟩ | ⟨g, rfl, hg, hgw, hcell⟩
      · have hE : ps = [] := List.eq_nil_of_length_eq_zero h0
        subst hE
        have hRn : R = ⟨#[]⟩ := ba_ext' (by rw [← hq]; rfl)
        subst hRn
        clear hq hjb h0
        go_wp2_with (go_at_call 94; with_reducible refine (Tryz.strings_Join_none _ _ _ _).mono ?_; rintro e w' ⟨rfl, rfl⟩)
        go_ret
        exact ⟨rfl, hbw⟩
      · have cJ : Calls Tryz.prog 94 #[.slice (some ⟨g, 0, none⟩) ps.length cp, .string ⟨#[59, 32]⟩] wr fun e w' => e = .returned (.string R) ∧ Below wr.heap.size wr w' := by
          refine (Tryz.strings_Join g 0 cp ps ⟨#[59, 32]⟩ wr (fun j x hj => by rw [Nat.zero_add]; exact hcell j (.string x) (by simp [strsV, hj])) hgw (by omega) hcp hjb).mono ?_
          rintro e w' ⟨rfl, hb⟩
          refine ⟨?_, hb⟩
          congr 2
          exact ba_ext' hq
        have CJ := Lib.hid cJ
        clear cJ hq hjb hcell
        go_wp2_with (go_at_call 94; with_reducible refine CJ.out.mono ?_; rintro e w1 ⟨rfl, hb1⟩)
        go_ret
        exact ⟨rfl, hbw.trans (hb1.mono hwz)⟩
end Go.Proofs.YtgjooigolgdocaaGreatDoor

/- few and Short of knapsacklaw41, for the rounds after url; small of knapsacklaw42. -/
namespace Go.Proofs.YtgjooigolgdocaaGreatDoor
set_option linter.unusedVariables false
set_option linter.unusedSimpArgs false
open Go.RowKit

set_option maxRecDepth 20000 in
theorem few_any (xs : List ByteArray) (b c : Nat) (w : World) (hc : ∀ j (h : j < xs.length), w.cell? ⟨b, j, none⟩ = some (.string xs[j])) (hn : xs.length ≤ 1000) :
    Calls Tryz.prog 72 #[.slice (some ⟨b, 0, none⟩) xs.length c] w fun e w' => e = .returned (.bool (xs.all fun s => decide (s.size ≤ 400))) ∧ w = w' := by
  obtain ⟨R, hR⟩ : ∃ R, (xs.all fun s => decide (s.size ≤ 400)) = R := ⟨_, rfl⟩
  rw [hR]
  have HR := Lib.hid hR
  have HC := Lib.hid hc
  clear hR hc
  go_enter Tryz.func72, Tryz.ntmps72
  go_wp2_with fail
  go_loop [7] (fun i => ∃ k : Nat, k ≤ xs.length ∧ i = .int .i64 k ∧ ((xs.drop k).all fun s => decide (s.size ≤ 400)) = R) (fun i => xs.length - (intOf i).toNat)
  case atStart => exact ⟨0, Nat.zero_le _, rfl, HR.out⟩
  case round =>
    obtain ⟨k, hk, rfl, hf⟩ := hrel
    by_cases hlt : k < xs.length
    · have c0 := HC.out k hlt
      rw [List.drop_eq_getElem_cons hlt, List.all_cons] at hf
      obtain ⟨p, hp⟩ : ∃ p, xs[k] = p := ⟨_, rfl⟩
      rw [hp] at c0 hf
      by_cases h4 : p.size ≤ 400
      · rw [decide_eq_true h4, Bool.true_and] at hf
        have HF := Lib.hid hf
        have h4i : (p.size : Int) ≤ 400 := by omega
        clear hf hp
        go_wp2_with fail
        go_round
        case rel => exact ⟨k + 1, by omega, by go_num, HF.out⟩
        case measure => simp [intOf]; omega
      · rw [decide_eq_false h4, Bool.false_and] at hf
        subst hf
        have h4i : ¬ (p.size : Int) ≤ 400 := by omega
        clear hp HR
        go_wp2_with fail
        go_ret
        exact ⟨rfl, rfl⟩
    · rw [List.drop_eq_nil_of_le (by omega)] at hf
      have HF := Lib.hid hf
      clear hf
      go_wp2_with fail
      go_ret
      exact ⟨ret_bool (by rw [← HF.out]; rfl), rfl⟩
def shortB (a b c d e f : ByteArray) : Bool := [a, b, c, d, e, f].all fun s => decide (s.size ≤ 400)
theorem shortB_iff {a b c d e f : ByteArray} (h : shortB a b c d e f = true) : a.size ≤ 400 ∧ b.size ≤ 400 ∧ c.size ≤ 400 ∧ d.size ≤ 400 ∧ e.size ≤ 400 ∧ f.size ≤ 400 := by
  simpa [shortB] using h
set_option maxRecDepth 20000 in
theorem short_any (a b c d e f : ByteArray) (w : World) :
    Calls Tryz.prog 33 #[.agg #[.string a, .string b, .string c, .string d, .string e, .string f]] w fun x w' => x = .returned (.bool (shortB a b c d e f)) ∧ Below w.heap.size w w' := by
  obtain ⟨B, hB⟩ : ∃ B, shortB a b c d e f = B := ⟨_, rfl⟩
  have cW : ∀ (bk : Nat) (w : World), (∀ j (h : j < [a, b, c, d, e, f].length), w.cell? ⟨bk, j, none⟩ = some (.string [a, b, c, d, e, f][j])) → Calls Tryz.prog 72 #[.slice (some ⟨bk, 0, none⟩) 6 6] w fun e w' => e = .returned (.bool B) ∧ w = w' := fun bk w hc => by
    rw [← hB]; exact few_any [a, b, c, d, e, f] bk 6 w hc (by simp)
  rw [hB]
  have CW := Lib.hid cW
  clear cW hB
  go_enter Tryz.func33, Tryz.ntmps33
  go_wp2_with (go_at_call 72; with_reducible refine (CW.out _ _ ?_).mono ?_)
  · intro j hj
    match j, hj with
    | 0, _ => simp
    | 1, _ => simp
    | 2, _ => simp
    | 3, _ => simp
    | 4, _ => simp
    | 5, _ => simp
  · rintro x w' ⟨rfl, rfl⟩
    go_wp2_with fail
    go_ret
    exact ⟨rfl, ((Below.refl _ w).alloc (Nat.le_refl _) _).alloc (by simp) _⟩
set_option maxRecDepth 20000 in
theorem asmall_any (a b c d e f : ByteArray) (now : Int) (w : World) :
    Calls Tryz.prog 11 #[.agg #[.string a, .string b, .string c, .string d, .string e, .string f, .int .i64 now]] w fun x w' => x = .returned (.bool (shortB a b c d e f)) ∧ Below w.heap.size w w' := by
  have CS := Lib.hid (fun w => short_any a b c d e f w)
  go_enter Tryz.func11, Tryz.ntmps11
  go_wp2_with (go_at_call 33; with_reducible refine (CS.out _).mono ?_; rintro x w1 ⟨rfl, hb1⟩)
  go_ret
  exact ⟨rfl, ((Below.refl _ w).alloc (Nat.le_refl _) _).trans (hb1.mono (by simp))⟩
end Go.Proofs.YtgjooigolgdocaaGreatDoor

/- Cookies: Header; the check that stands before each law. -/
namespace Go.Proofs.YtgjooigolgdocaaGreatDoor
set_option linter.unusedVariables false
set_option linter.unusedSimpArgs false
open Go.RowKit

/-- Header, by Match -/
theorem header_of (a b cc d e f : ByteArray) (now : Int) (w : World) (jb : Nat) (out : List Ck) (hl : out.length ≤ 1000) (hsz : ∀ c ∈ out, c.n.size ≤ 100000 ∧ c.v.size ≤ 100000) (R : ByteArray) (hR : R.data.toList = joinL out)
    (hm : ∀ w', Below w.heap.size w w' → Calls Tryz.prog 24 #[.pointer (some ⟨jb, 0, none⟩), urlA a b cc d e f, .int .i64 now] w' fun x w'' => ∃ v', x = .returned v' ∧ w''.ownsRow w'.heap.size 29 9 v' out.length (cellsK ckL out) ∧ Below w'.heap.size w' w'') :
    Calls Tryz.prog 21 #[.pointer (some ⟨jb, 0, none⟩), urlA a b cc d e f, .int .i64 now] w fun x w' => x = .returned (.string R) ∧ Below w.heap.size w w' := by
  have CM := Lib.hid hm
  have CJ := Lib.hid (fun v w hv => join_is out v w hv hl hsz R hR)
  have hb0 : Below w.heap.size w (w.alloc (.cells (urlL a b cc d e f).toArray 23)) := (Below.refl _ w).alloc (Nat.le_refl _) _
  clear hm hsz hR
  go_enter Tryz.func21, Tryz.ntmps21
  go_wp2_with (first
    | (go_at_call 24; with_reducible refine (CM.out _ hb0).mono ?_; rintro x w1 ⟨v', rfl, hown, hb1⟩; have hv := SlK.of_own ckL_len hown; have hb2 := hb0.trans (hb1.mono hb0.size))
    | (go_at_call 59; with_reducible refine (CJ.out _ _ hv).mono ?_; rintro x w2 ⟨rfl, hb3⟩))
  go_ret
  exact ⟨rfl, hb2.trans (hb3.mono hb2.size)⟩
abbrev httpS : ByteArray := ⟨#[104, 116, 116, 112]⟩
abbrev wwwS : ByteArray := ⟨#[119, 119, 119, 46, 97, 46, 99, 111, 109]⟩
abbrev xyS : ByteArray := ⟨#[47, 120, 47, 121]⟩
abbrev nilS : ByteArray := ⟨#[]⟩
abbrev fieldS : ByteArray := ⟨#[110, 61, 49, 59, 32, 68, 111, 109, 97, 105, 110, 61, 46, 97, 46, 99, 111, 109, 59, 32, 77, 97, 120, 45, 65, 103, 101, 61, 49, 48]⟩
abbrev fitC : Ck := ⟨⟨#[110]⟩, ⟨#[49]⟩, ⟨#[97, 46, 99, 111, 109]⟩, ⟨#[47, 120]⟩, false, false, false, 10005, 0⟩
theorem fit_takes : takesB (u6 httpS wwwS nilS xyS nilS nilS) = true := by kernel_rfl
theorem fit_parses : parseC fieldS.data.toList true httpS wwwS xyS 5 = (fitC, 0) := by kernel_rfl
theorem fit_hit : hitB httpS wwwS xyS 5 fitC = true := by kernel_rfl
theorem fit_hit' : hitB httpS wwwS xyS 10005 fitC = false := by kernel_rfl
theorem fit_exp : exB fitC 5 = false := by kernel_rfl
end Go.Proofs.YtgjooigolgdocaaGreatDoor

/- Cookies: Header by the list; the check that stands before each law. -/
namespace Go.Proofs.YtgjooigolgdocaaGreatDoor
set_option linter.unusedVariables false
set_option linter.unusedSimpArgs false
open Go.RowKit

theorem match_no (a b cc d e f : ByteArray) (now : Int) (hT : takesB (u6 a b cc d e f) = false) (jb : Nat) (w : World) (hz : USize 40000 a b cc d e f) (hM : MaxAt w) :
    Calls Tryz.prog 24 #[.pointer (some ⟨jb, 0, none⟩), urlA a b cc d e f, .int .i64 now] w fun x w' => x = .returned (.slice none 0 0) ∧ Below w.heap.size w w' := by
  have CT := Lib.hid (fun w hM => takes_is a b cc d e f false hT w hz hM)
  have hb0 : Below w.heap.size w (w.alloc (.cells (urlL a b cc d e f).toArray 23)) := (Below.refl _ w).alloc (Nat.le_refl _) _
  have hM0 := hM.below hb0 (Nat.le_refl _)
  clear hT hz hM
  go_enter Tryz.func24, Tryz.ntmps24
  go_wp2_with (go_at_call 34; with_reducible refine (CT.out _ hM0).mono ?_; rintro x w1 ⟨rfl, hb1⟩; have hB1 := hb0.trans (hb1.mono (by simp)))
  go_ret
  exact ⟨rfl, hB1⟩
/-- what Header gives for a list of cookies -/
theorem header_yes (a b cc d e f : ByteArray) (now : Int) (hT : takesB (u6 a b cc d e f) = true) (l : List Ck) (v nx : Value) (jb : Nat) (w : World) (hz : USize 40000 a b cc d e f) (hM : MaxAt w) (hv : SlK ckL 9 w v l) (hJ : AtL w jb [v, nx])
    (hl : l.length ≤ 1000) (hsz : ∀ c ∈ l, c.d.size ≤ 100000 ∧ c.p.size ≤ 100000) (hits out : List Ck) (hh : l.filter (hitB a b d now) = hits) (hS : SortTo hits out)
    (hol : out.length ≤ 1000) (hos : ∀ c ∈ out, c.n.size ≤ 100000 ∧ c.v.size ≤ 100000) (R : ByteArray) (hR : R.data.toList = joinL out) :
    Calls Tryz.prog 21 #[.pointer (some ⟨jb, 0, none⟩), urlA a b cc d e f, .int .i64 now] w fun x w' => x = .returned (.string R) ∧ Below w.heap.size w w' :=
  header_of a b cc d e f now w jb out hol hos R hR fun w' hb => match_yes a b cc d e f now hT l v nx jb w' hz (hM.below hb (Nat.le_refl _)) (hv.below hb (Nat.le_refl _)) (hJ.below hb hJ.1) hl hsz hits out hh hS
theorem header_no (a b cc d e f : ByteArray) (now : Int) (hT : takesB (u6 a b cc d e f) = false) (jb : Nat) (w : World) (hz : USize 40000 a b cc d e f) (hM : MaxAt w) :
    Calls Tryz.prog 21 #[.pointer (some ⟨jb, 0, none⟩), urlA a b cc d e f, .int .i64 now] w fun x w' => x = .returned (.string ⟨#[]⟩) ∧ Below w.heap.size w w' :=
  header_of a b cc d e f now w jb [] (by decide) (by simp) ⟨#[]⟩ rfl fun w' hb => (match_no a b cc d e f now hT jb w' hz (hM.below hb (Nat.le_refl _))).mono fun x w'' h => ⟨_, h.1, World.ownsRow_nil _ _ _ _, h.2⟩
/-- Header where at most one cookie matches -/
theorem header_few (a b cc d e f : ByteArray) (now : Int) (hT : takesB (u6 a b cc d e f) = true) (l : List Ck) (v nx : Value) (jb : Nat) (w : World) (hz : USize 40000 a b cc d e f) (hM : MaxAt w) (hv : SlK ckL 9 w v l) (hJ : AtL w jb [v, nx])
    (hl : l.length ≤ 1) (hsz : ∀ c ∈ l, (c.d.size ≤ 100000 ∧ c.p.size ≤ 100000) ∧ c.n.size ≤ 100000 ∧ c.v.size ≤ 100000) (R : ByteArray) (hR : R.data.toList = joinL (l.filter (hitB a b d now))) :
    Calls Tryz.prog 21 #[.pointer (some ⟨jb, 0, none⟩), urlA a b cc d e f, .int .i64 now] w fun x w' => x = .returned (.string R) ∧ Below w.heap.size w w' :=
  have h1 : (l.filter (hitB a b d now)).length ≤ 1 := Nat.le_trans (List.length_filter_le _ _) hl
  header_yes a b cc d e f now hT l v nx jb w hz hM hv hJ (by omega) (fun c hc => (hsz c hc).1) _ _ rfl (sort_short _ h1) (by omega) (fun c hc => (hsz c (List.mem_filter.1 hc |>.1)).2) R hR
theorem but_trans {B b : Nat} {W w w' : World} (h : BelowBut B b W w) (k : BelowBut B b w w') : BelowBut B b W w' := ⟨k.os.trans h.os, k.tape.trans h.tape, k.output.trans h.output, Nat.le_trans h.size k.size, fun x hx hb => (k.block x hx hb).trans (h.block x hx hb)⟩
theorem fit_size : USize 40000 httpS wwwS nilS xyS nilS nilS := ⟨by decide, by decide, by decide, by decide, by decide, by decide⟩
/-- Set on an empty jar, where a cookie comes of it -/
theorem set_first (s a b cc d e f : ByteArray) (now : Int) (hT : takesB (u6 a b cc d e f) = true) (c : Ck) (hR : parseC s.data.toList true a b d now = (c, 0)) (hex : exB c now = false) (w : World) (hs : s.size ≤ 100000) (hz : USize 40000 a b cc d e f) (hM : MaxAt w) (jb : Nat)
    (hJ : AtL w jb [.slice none 0 0, .int .i64 0]) :
    Calls Tryz.prog 20 #[.pointer (some ⟨jb, 0, none⟩), .string s, urlA a b cc d e f, .int .i64 now] w fun x w' => x = .returned (.int .i64 0) ∧ (∃ v', JarIn w' jb w.heap.size v' [{ c with cr := 0 }] 1) ∧ BelowBut w.heap.size jb w w' := by
  refine set_ok s a b cc d e f now true hT c hR w hs hz hM jb 0 (fun w' => (∃ v', JarIn w' jb w.heap.size v' [{ c with cr := 0 }] 1) ∧ BelowBut w.heap.size jb w w') fun w1 hb1 => ?_
  have hJ1 : JarIn w1 jb w.heap.size (.slice none 0 0) [] 0 := ⟨hJ.below hb1 hJ.1, World.ownsRow_nil _ _ _ _, by simp [Value.ownBlock], hb1.size⟩
  refine (store_new c a b cc d e f now w1 jb w.heap.size _ [] 0 hJ1 rfl hex (by decide) (by decide) (by decide)).mono ?_
  rintro x w2 ⟨rfl, h1, h2⟩
  exact ⟨rfl, h1, but_trans ((BelowBut.refl _ jb w).below hb1 (Nat.le_refl _)) (h2.but hJ1.own hb1.size)⟩
end Go.Proofs.YtgjooigolgdocaaGreatDoor

/- Cookies: the check that stands before each law. -/
namespace Go.Proofs.YtgjooigolgdocaaGreatDoor
set_option linter.unusedVariables false
set_option linter.unusedSimpArgs false
open Go.RowKit

theorem fit_join : (⟨#[110, 61, 49]⟩ : ByteArray).data.toList = joinL ([fitC].filter (hitB httpS wwwS xyS 5)) := by kernel_rfl
theorem fit_join' : (⟨#[]⟩ : ByteArray).data.toList = joinL ([fitC].filter (hitB httpS wwwS xyS 10005)) := by kernel_rfl
theorem fitC_size : ∀ c ∈ [fitC], (c.d.size ≤ 100000 ∧ c.p.size ≤ 100000) ∧ c.n.size ≤ 100000 ∧ c.v.size ≤ 100000 := by
  intro c hc
  rw [List.mem_singleton.1 hc]
  decide
/-- a jar with one cookie, its cells -/
theorem JarIn.one {w : World} {jb B : Nat} {v : Value} {c : Ck} {nx : Int} (h : JarIn w jb B v [c] nx) : ∃ g cap, v = .slice (some ⟨g, 0, none⟩) 1 cap ∧ g < w.heap.size ∧ ∀ j u, (ckL c)[j]? = some u → w.cell? ⟨g, j, none⟩ = some u := by
  obtain ⟨a, cap, hv, hc, hm, ha⟩ := own_reads h.own
  rcases ha with ⟨rfl, h0⟩ | ⟨g, rfl, hg, hgw, hcell⟩
  · simp at h0
  · exact ⟨g, cap, hv, hgw, fun j u hu => hcell j u (by simpa [cellsK] using hu)⟩
set_option maxRecDepth 20000 in
theorem fit_any (w : World) (hM : MaxAt w) : Calls Tryz.prog 10 #[] w fun e w' => e = .returned (.bool true) ∧ Below w.heap.size w w' := by
  have J0 := (AtL.new w [.slice none 0 0, .int .i64 0] 38).alloc (.cells (urlL httpS wwwS nilS xyS nilS nilS).toArray 23)
  have U0 := AtL.new (w.alloc (.cells [.slice none 0 0, .int .i64 0].toArray 38)) (urlL httpS wwwS nilS xyS nilS nilS) 23
  have hB0 : Below w.heap.size w ((w.alloc (.cells [.slice none 0 0, .int .i64 0].toArray 38)).alloc (.cells (urlL httpS wwwS nilS xyS nilS nilS).toArray 23)) := ((Below.refl _ w).alloc (Nat.le_refl _) _).alloc (by simp) _
  have hM0 := hM.below hB0 (Nat.le_refl _)
  have hGM := hM.lt
  have CS := Lib.hid (fun w hM jb hJ => set_first fieldS httpS wwwS nilS xyS nilS nilS 5 fit_takes fitC fit_parses fit_exp w (by decide) fit_size hM jb hJ)
  have CH := Lib.hid (fun w v jb B (hM : MaxAt w) (hJ : JarIn w jb B v [fitC] 1) => header_few httpS wwwS nilS xyS nilS nilS 5 fit_takes [fitC] v _ jb w fit_size hM hJ.reads hJ.at_ (by decide) fitC_size _ fit_join)
  have CH2 := Lib.hid (fun w v jb B (hM : MaxAt w) (hJ : JarIn w jb B v [fitC] 1) => header_few httpS wwwS nilS xyS nilS nilS 10005 fit_takes [fitC] v _ jb w fit_size hM hJ.reads hJ.at_ (by decide) fitC_size _ fit_join')
  rw [show (w.alloc (.cells [.slice none 0 0, .int .i64 0].toArray 38)).heap.size = w.heap.size + 1 by simp] at U0
  have hw0 : w.heap.size + 1 < ((w.alloc (.cells [.slice none 0 0, .int .i64 0].toArray 38)).alloc (.cells (urlL httpS wwwS nilS xyS nilS nilS).toArray 23)).heap.size := by simp
  go_enter Tryz.func10, Tryz.ntmps10
  go_wp2_with fail
  obtain ⟨w0, hw⟩ : ∃ w0 : World, (w.alloc (.cells [.slice none 0 0, .int .i64 0].toArray 38)).alloc (.cells (urlL httpS wwwS nilS xyS nilS nilS).toArray 23) = w0 := ⟨_, rfl⟩
  rw [hw] at J0 U0 hB0 hM0 hw0
  rw [hw]
  clear hw
  have HS := Lib.hid (CS.out w0 hM0 _ J0)
  clear CS
  go_wp2_with (first
    | (go_loud (go_at_call 20; with_reducible refine HS.out.mono ?_; rintro x w1 ⟨rfl, ⟨v', hJ1⟩, hbb⟩; obtain ⟨g, cap, rfl, hgw, hg⟩ := hJ1.one; have g7 := hg 7 _ rfl; have U1 := U0.but hbb hw0 (Nat.succ_ne_self _); have u0 := U1.c 0 rfl; have u1 := U1.c 1 rfl; have u2 := U1.c 2 rfl; have u3 := U1.c 3 rfl; have u4 := U1.c 4 rfl; have u5 := U1.c 5 rfl; have j0 := hJ1.at_.c 0 rfl; have hM1 := hM0.but hbb (Nat.lt_trans hGM (Nat.lt_of_succ_lt hw0)) (Nat.ne_of_lt hGM)))
    | (go_loud (go_at_call 21; with_reducible refine (CH.out _ _ _ _ hM1 hJ1).mono ?_; rintro x w2 ⟨rfl, hb2⟩; have U2 := U1.next hb2; have hJ2 := hJ1.below hb2 (Nat.le_refl _); have hM2 := hM1.below hb2 (Nat.le_refl _); have v0 := U2.c 0 rfl; have v1 := U2.c 1 rfl; have v2 := U2.c 2 rfl; have v3 := U2.c 3 rfl; have v4 := U2.c 4 rfl; have v5 := U2.c 5 rfl))
    | (go_at_call 21; with_reducible refine (CH2.out _ _ _ _ hM2 hJ2).mono ?_; rintro x w3 ⟨rfl, hb3⟩))
  go_ret
  have h1 := hbb.to_below hB0 hB0.size (Nat.le_refl _)
  have h2 := h1.trans (hb2.mono h1.size)
  exact ⟨rfl, h2.trans (hb3.mono h2.size)⟩
end Go.Proofs.YtgjooigolgdocaaGreatDoor
