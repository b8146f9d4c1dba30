/- Cookies: Match, by what the sort makes of the cookies that match. -/
import Derived.Test.YtgjooigolgdocaaGreatDoorG1
namespace Go.Proofs.YtgjooigolgdocaaGreatDoor
set_option linter.unusedVariables false
set_option linter.unusedSimpArgs false
open Go.RowKit

/-- the cookies that are sent -/
def hitB (a b d : ByteArray) (now : Int) (c : Ck) : Bool :=
  (if c.ho then c.d.toList == b.toList else domL b.data.toList c.d.data.toList) && !exB c now && pathL d.data.toList c.p.data.toList && (!c.se || a.toList == httpsL)
/-- what SortStableFunc makes of a list -/
def SortTo (hits out : List Ck) : Prop := ∀ (W : World) (B : Nat) (v : Value), W.ownsRow B 29 9 v hits.length (cellsK ckL hits) → B ≤ W.heap.size →
  Calls Tryz.prog 61 #[v, .func (.func 62) #[] #[]] W fun x W' => x = .returned (.tuple #[]) ∧ W'.ownsRow B 29 9 v out.length (cellsK ckL out) ∧ Below B W W'
theorem SortTo.run {hits out : List Ck} (h : SortTo hits out) {W : World} {B : Nat} {v : Value} (hown : W.ownsRow B 29 9 v hits.length (cellsK ckL hits)) (hB : B ≤ W.heap.size) :
    Calls Tryz.prog 61 #[v, .func (.func 62) #[] #[]] W fun x W' => x = .returned (.tuple #[]) ∧ W'.ownsRow B 29 9 v out.length (cellsK ckL out) ∧ Below B W W' := h W B v hown hB
theorem ins_short (a : Option Addr) (n cap : Nat) (h : n ≤ 1) (W : World) : Calls Tryz.prog 114 #[.slice a n cap, .int .i64 0, .int .i64 n, .func (.func 62) #[] #[]] W fun x W' => x = .returned (.tuple #[]) ∧ W' = W := by
  go_enter Tryz.func114, Tryz.ntmps114
  go_wp2_with fail
  refine wp_loop_rounds 1 ?_
  rw [rounds_succ]
  go_wp2_with fail
  go_end0
  exact ⟨rfl, rfl⟩
theorem sort_short (hits : List Ck) (h : hits.length ≤ 1) : SortTo hits hits := by
  intro W B v hown hB
  have hO := Lib.hid hown
  obtain ⟨a, cap, rfl, hc, hm, _⟩ := own_reads hown
  clear hown
  obtain ⟨n, hn⟩ : ∃ n, hits.length = n := ⟨_, rfl⟩
  rw [hn] at hO hc h
  rw [hn]
  have CI : ∀ W : World, Calls Tryz.prog 95 #[.slice a n cap, .int .i64 n, .func (.func 62) #[] #[]] W fun x W' => x = .returned (.tuple #[]) ∧ W' = W := by
    intro W
    have CJ := Lib.hid (ins_short a n cap h)
    go_enter Tryz.func95, Tryz.ntmps95
    go_wp2_with fail
    refine wp_loop_rounds 1 ?_
    rw [rounds_succ]
    go_wp2_with (go_at_call 114; with_reducible refine (CJ.out _).mono ?_; rintro x w1 ⟨rfl, rfl⟩)
    refine wp_loop_rounds 1 ?_
    rw [rounds_succ]
    go_wp2_with fail
    go_end0
    exact ⟨rfl, rfl⟩
  have CII := Lib.hid CI
  clear CI
  go_enter Tryz.func61, Tryz.ntmps61
  go_wp2_with (go_at_call 95; with_reducible refine (CII.out _).mono ?_; rintro x w1 ⟨rfl, rfl⟩)
  go_end0
  exact ⟨rfl, hO.out, Below.refl _ _⟩
theorem take_hit (p : Ck → Bool) (l : List Ck) (k : Nat) (h : k < l.length) (y : Ck) (hy : l[k] = y) (b : Bool) (hb : p y = b) : (l.take (k + 1)).filter p = (l.take k).filter p ++ (if b then [y] else []) := by
  subst hy hb
  rw [List.take_succ_eq_append_getElem h, List.filter_append]
  cases hp : p l[k] <;> simp [hp]
set_option maxRecDepth 20000 in
set_option maxHeartbeats 4000000 in
/-- Match where the address has cookies -/
theorem match_yes (a b cc d e f : ByteArray) (now : Int) (hT : takesB (u6 a b cc d e f) = true) (l : List Ck) (v nx : Value) (jb : Nat) (w : World) (hz : USize 40000 a b cc d e f) (hM : MaxAt w) (hv : SlK ckL 9 w v l) (hJ : AtL w jb [v, nx])
    (hl : l.length ≤ 1000) (hsz : ∀ c ∈ l, c.d.size ≤ 100000 ∧ c.p.size ≤ 100000) (hits out : List Ck) (hh : l.filter (hitB a b d now) = hits) (hS : SortTo hits out) :
    Calls Tryz.prog 24 #[.pointer (some ⟨jb, 0, none⟩), urlA a b cc d e f, .int .i64 now] w fun x w' => ∃ v', x = .returned v' ∧ w'.ownsRow w.heap.size 29 9 v' out.length (cellsK ckL out) ∧ Below w.heap.size w w' := by
  have CT := Lib.hid (fun w hM => takes_is a b cc d e f true hT w hz hM)
  have U0 := AtL.new w (urlL a b cc d e f) 23
  have hb0 : Below w.heap.size w (w.alloc (.cells (urlL a b cc d e f).toArray 23)) := (Below.refl _ w).alloc (Nat.le_refl _) _
  have hM0 := hM.below hb0 (Nat.le_refl _)
  have J0 := hJ.below hb0 hJ.1
  have hv0 := hv.below hb0 (Nat.le_refl _)
  obtain ⟨sa, sc, rfl, _⟩ := hv.shape
  have HZ := Lib.hid hsz
  obtain ⟨pr, hpr⟩ : ∃ pr, hitB a b d now = pr := ⟨_, rfl⟩
  rw [hpr] at hh
  have HPR := Lib.hid hpr
  have HH := Lib.hid hh
  have HS := Lib.hid hS
  have hza := hz.a
  have hzb := hz.b
  have hzd := hz.d
  clear hT hz hM hsz hh hpr hS hv hJ
  go_enter Tryz.func24, Tryz.ntmps24
  go_wp2_with (go_at_call 34; with_reducible refine (CT.out _ hM0).mono ?_; rintro x w1 ⟨rfl, hb1⟩; have U1 := U0.next hb1; have J1 := J0.next hb1; have hv1 := hv0.below hb1 (Nat.le_refl _); have hB1 := hb0.trans (hb1.mono (by simp)); have j0 := J1.c 0 rfl)
  obtain ⟨U, hU⟩ : ∃ U, w.heap.size = U := ⟨_, rfl⟩
  rw [hU] at U1
  rw [hU]
  have HU := Lib.hid hU
  clear hU hM0 U0 J0 hv0 hb0 hb1 j0
  have hul := U1.lt
  go_loopw [7, 19] (fun pv iv wr => ∃ (k : Nat) (ps : List Ck), k ≤ l.length ∧ iv = .int .i64 k ∧ wr.ownsRow w1.heap.size 29 9 pv ps.length (cellsK ckL ps) ∧ ps = (l.take k).filter pr ∧ Below w1.heap.size w1 wr) (fun _ iv _ => l.length - (intOf iv).toNat)
  case atStart => exact ⟨0, [], Nat.zero_le _, rfl, World.ownsRow_nil _ _ _ _, rfl, Below.refl _ _⟩
  case round =>
    obtain ⟨kk, ps, hk, rfl, hown, hps, hbw⟩ := hrel
    have hwz := hbw.size
    have HP := Lib.hid hps
    have hpl : ps.length ≤ kk := by rw [hps]; exact Nat.le_trans (List.length_filter_le _ _) (by simp; omega)
    clear hps
    by_cases hlt : kk < l.length
    · rcases hv1 with ⟨rfl, _⟩ | ⟨_, b0, off, cap, he, hc1, hc2, hc3, hcell⟩
      · simp at hlt
      injection he with e1 e2 e3
      subst e1 e3
      have cc : ∀ j u, (ckL l[kk])[j]? = some u → wr.cell? ⟨b0, off + kk * 9 + j, none⟩ = some u := fun j u hu => (hbw.cell (p := ⟨b0, off + kk * 9 + j, none⟩) hc3).trans (hcell kk hlt j u hu)
      have hsz := HZ.out _ (List.getElem_mem hlt)
      obtain ⟨y, hy⟩ : ∃ y, l[kk] = y := ⟨_, rfl⟩
      rw [hy] at cc hsz
      have hTK := take_hit pr l kk hlt y hy
      clear hcell hy
      obtain ⟨yn, yv, yd, yp, yho, yse, yhi, yex, ycr⟩ := y
      have hsd : yd.size ≤ 100000 := hsz.1
      have hsp : yp.size ≤ 100000 := hsz.2
      clear hsz
      have c0 := cc 0 _ rfl
      have c1 := cc 1 _ rfl
      have c2 := cc 2 _ rfl
      have c3 := cc 3 _ rfl
      have c4 := cc 4 _ rfl
      have c5 := cc 5 _ rfl
      have c6 := cc 6 _ rfl
      have c7 := cc 7 _ rfl
      have c8 := cc 8 _ rfl
      simp only [Nat.add_zero] at c0
      clear cc
      obtain ⟨E, hE⟩ : ∃ E, exB ⟨yn, yv, yd, yp, yho, yse, yhi, yex, ycr⟩ now = E := ⟨_, rfl⟩
      obtain ⟨D, hD⟩ : ∃ D, domL b.data.toList yd.data.toList = D := ⟨_, rfl⟩
      obtain ⟨Pp, hPp⟩ : ∃ Pp, pathL d.data.toList yp.data.toList = Pp := ⟨_, rfl⟩
      have CE := Lib.hid (fun w => expired_is ⟨yn, yv, yd, yp, yho, yse, yhi, yex, ycr⟩ now E hE w)
      have cDm := fun w => dom_any b yd w (by omega) (by omega)
      have cPa := fun w => path_any d yp w (by omega) (by omega)
      have hBB : pr ⟨yn, yv, yd, yp, yho, yse, yhi, yex, ycr⟩ = ((if yho then yd.toList == b.toList else D) && !E && Pp && (!yse || a.toList == httpsL))   := by rw [← HPR.out]; unfold hitB; rw [hE]; simp only [hD, hPp]
      rw [hD] at cDm
      rw [hPp] at cPa
      have CDm := Lib.hid cDm
      have CPa := Lib.hid cPa
      have CA := AtL.new wr (ckL ⟨yn, yv, yd, yp, yho, yse, yhi, yex, ycr⟩) 29
      have UA := (U1.below hbw hul).alloc (.cells (ckL ⟨yn, yv, yd, yp, yho, yse, yhi, yex, ycr⟩).toArray 29)
      have hBa := hbw.alloc hwz (.cells (ckL ⟨yn, yv, yd, yp, yho, yse, yhi, yex, ycr⟩).toArray 29)
      have hoa := hown.alloc (.cells (ckL ⟨yn, yv, yd, yp, yho, yse, yhi, yex, ycr⟩).toArray 29)
      have v0 := UA.c 0 rfl; have v1 := UA.c 1 rfl; have v2 := UA.c 2 rfl; have v3 := UA.c 3 rfl; have v4 := UA.c 4 rfl; have v5 := UA.c 5 rfl
      have hua := UA.lt
      have hki : (kk : Int) < (l.length : Int) := by omega
      clear hE hD hPp cDm cPa
      cases yho
      · cases D
        · have HS := Lib.hid (hTK false (by rw [hBB]; rfl))
          clear hTK hBB
          go_wp2_with (go_at_call 14; with_reducible refine (CDm.out _).mono ?_; rintro x w2 ⟨rfl, hb2⟩; have hB9 := hBa.trans (hb2.mono hBa.size); have hown9 := own_below hoa hb2 (Nat.le_refl _); have C2 := CA.next hb2; have U2 := UA.next hb2; have z0 := C2.c 0 rfl; have z1 := C2.c 1 rfl; have z2 := C2.c 2 rfl; have z3 := C2.c 3 rfl; have z4 := C2.c 4 rfl; have z5 := C2.c 5 rfl; have z6 := C2.c 6 rfl; have z7 := C2.c 7 rfl; have z8 := C2.c 8 rfl; have u0 := U2.c 0 rfl; have u1 := U2.c 1 rfl; have u2 := U2.c 2 rfl; have u3 := U2.c 3 rfl; have u4 := U2.c 4 rfl; have u5 := U2.c 5 rfl; have hk3 := C2.lt; have hu3 := U2.lt)
          go_roundw
          case rel => exact ⟨kk + 1, ps, by omega, by go_num, hown9, by rw [HS.out, HP.out]; simp, hB9⟩
          case measure => simp [intOf]; omega
        · have hBB := hBB
          go_wp2_with (go_at_call 14; with_reducible refine (CDm.out _).mono ?_; rintro x w2 ⟨rfl, hb2⟩; have hB2 := hBa.trans (hb2.mono hBa.size); have ho2 := own_below hoa hb2 (Nat.le_refl _); have C2 := CA.next hb2; have U2 := UA.next hb2; have y0 := C2.c 0 rfl; have y1 := C2.c 1 rfl; have y2 := C2.c 2 rfl; have y3 := C2.c 3 rfl; have y4 := C2.c 4 rfl; have y5 := C2.c 5 rfl; have y6 := C2.c 6 rfl; have y7 := C2.c 7 rfl; have y8 := C2.c 8 rfl; have t0 := U2.c 0 rfl; have t1 := U2.c 1 rfl; have t2 := U2.c 2 rfl; have t3 := U2.c 3 rfl; have t4 := U2.c 4 rfl; have t5 := U2.c 5 rfl; have hk2 := C2.lt; have hu2 := U2.lt)
          clear y0 y1 y2 y3 y4 y5 y6 y7 y8 t0 t1 t2 t3 t4 t5
          have y0 := C2.c 0 rfl; have y1 := C2.c 1 rfl; have y2 := C2.c 2 rfl; have y3 := C2.c 3 rfl; have y4 := C2.c 4 rfl; have y5 := C2.c 5 rfl; have y6 := C2.c 6 rfl; have y7 := C2.c 7 rfl; have y8 := C2.c 8 rfl
          have t0 := U2.c 0 rfl; have t1 := U2.c 1 rfl; have t2 := U2.c 2 rfl; have t3 := U2.c 3 rfl; have t4 := U2.c 4 rfl; have t5 := U2.c 5 rfl
          have hk2 := C2.lt
          have hu2 := U2.lt
          have hz2 := hB2.size
          cases E
          · cases Pp
            · have HS := Lib.hid (hTK false (by rw [hBB]; rfl))
              clear hTK hBB
              go_wp2_with (first
                |
                  (go_at_call 60; with_reducible refine (CE.out _).mono ?_; rintro x w3 ⟨rfl, hb3⟩; have hB3 := hB2.trans (hb3.mono hz2); have ho3 := own_below ho2 hb3 (Nat.le_refl _); have C3 := C2.next hb3; have U3 := U2.next hb3; have z0 := C3.c 0 rfl; have z1 := C3.c 1 rfl; have z2 := C3.c 2 rfl; have z3 := C3.c 3 rfl; have z4 := C3.c 4 rfl; have z5 := C3.c 5 rfl; have z6 := C3.c 6 rfl; have z7 := C3.c 7 rfl; have z8 := C3.c 8 rfl; have u0 := U3.c 0 rfl; have u1 := U3.c 1 rfl; have u2 := U3.c 2 rfl; have u3 := U3.c 3 rfl; have u4 := U3.c 4 rfl; have u5 := U3.c 5 rfl; have hk3 := C3.lt; have hu3 := U3.lt; have hz3 := hB3.size)
                  | (go_at_call 16; with_reducible refine (CPa.out _).mono ?_; rintro x w4 ⟨rfl, rfl⟩)
                )
              have hown9 := ho3
              have hB9 := hB3
              go_roundw
              case rel => exact ⟨kk + 1, ps, by omega, by go_num, hown9, by rw [HS.out, HP.out]; simp, hB9⟩
              case measure => simp [intOf]; omega
            · cases yse
              · have HS := Lib.hid (hTK true (by rw [hBB]; rfl))
                clear hTK hBB
                go_wp2_with (first
                  |
                    (go_at_call 60; with_reducible refine (CE.out _).mono ?_; rintro x w3 ⟨rfl, hb3⟩; have hB3 := hB2.trans (hb3.mono hz2); have ho3 := own_below ho2 hb3 (Nat.le_refl _); have C3 := C2.next hb3; have U3 := U2.next hb3; have z0 := C3.c 0 rfl; have z1 := C3.c 1 rfl; have z2 := C3.c 2 rfl; have z3 := C3.c 3 rfl; have z4 := C3.c 4 rfl; have z5 := C3.c 5 rfl; have z6 := C3.c 6 rfl; have z7 := C3.c 7 rfl; have z8 := C3.c 8 rfl; have u0 := U3.c 0 rfl; have u1 := U3.c 1 rfl; have u2 := U3.c 2 rfl; have u3 := U3.c 3 rfl; have u4 := U3.c 4 rfl; have u5 := U3.c 5 rfl; have hk3 := C3.lt; have hu3 := U3.lt; have hz3 := hB3.size)
                    | (go_at_call 16; with_reducible refine (CPa.out _).mono ?_; rintro x w4 ⟨rfl, rfl⟩)
                    | (refine app2 slC _ (by rfl) (.tmp 60) (.tmp 62) (by rfl) w1.heap.size _ _ _ (by rfl) ho3 [_, _, _, _, _, _, _, _, _] 1 _ (by rfl) rfl (by rfl) (by intro u hu; simp at hu; rcases hu with rfl | rfl | rfl | rfl | rfl | rfl | rfl | rfl | rfl <;> rfl) (by decide) (by omega) (by omega) hz3 ?_; intro v2 w5 hA2 gA fA; have hB9 := below_own hB3 ho3 gA hz3 (Nat.le_refl _))
                  )
                go_roundw
                case rel => exact ⟨kk + 1, (l.take (kk + 1)).filter pr, by omega, by go_num, own_eq hA2 (by rw [HS.out, ← HP.out]; simp) (by rw [HS.out, ← HP.out, cellsK_app]; rfl), rfl, hB9⟩
                case measure => simp [intOf]; omega
              · by_cases hsc : a.toList = httpsL
                · have HS := Lib.hid (hTK true (by rw [hBB, hsc]; rfl))
                  have hs2 : a.toList = [104, 116, 116, 112, 115] := hsc
                  clear hTK hBB hsc
                  go_wp2_with (first
                    |
                      (go_at_call 60; with_reducible refine (CE.out _).mono ?_; rintro x w3 ⟨rfl, hb3⟩; have hB3 := hB2.trans (hb3.mono hz2); have ho3 := own_below ho2 hb3 (Nat.le_refl _); have C3 := C2.next hb3; have U3 := U2.next hb3; have z0 := C3.c 0 rfl; have z1 := C3.c 1 rfl; have z2 := C3.c 2 rfl; have z3 := C3.c 3 rfl; have z4 := C3.c 4 rfl; have z5 := C3.c 5 rfl; have z6 := C3.c 6 rfl; have z7 := C3.c 7 rfl; have z8 := C3.c 8 rfl; have u0 := U3.c 0 rfl; have u1 := U3.c 1 rfl; have u2 := U3.c 2 rfl; have u3 := U3.c 3 rfl; have u4 := U3.c 4 rfl; have u5 := U3.c 5 rfl; have hk3 := C3.lt; have hu3 := U3.lt; have hz3 := hB3.size)
                      | (go_at_call 16; with_reducible refine (CPa.out _).mono ?_; rintro x w4 ⟨rfl, rfl⟩)
                      | (refine app2 slC _ (by rfl) (.tmp 60) (.tmp 62) (by rfl) w1.heap.size _ _ _ (by rfl) ho3 [_, _, _, _, _, _, _, _, _] 1 _ (by rfl) rfl (by rfl) (by intro u hu; simp at hu; rcases hu with rfl | rfl | rfl | rfl | rfl | rfl | rfl | rfl | rfl <;> rfl) (by decide) (by omega) (by omega) hz3 ?_; intro v2 w5 hA2 gA fA; have hB9 := below_own hB3 ho3 gA hz3 (Nat.le_refl _))
                    )
                  go_roundw
                  case rel => exact ⟨kk + 1, (l.take (kk + 1)).filter pr, by omega, by go_num, own_eq hA2 (by rw [HS.out, ← HP.out]; simp) (by rw [HS.out, ← HP.out, cellsK_app]; rfl), rfl, hB9⟩
                  case measure => simp [intOf]; omega
                · have HS := Lib.hid (hTK false (by rw [hBB, beq_eq_false_iff_ne.2 hsc]; rfl))
                  have hs2 : ¬ a.toList = [104, 116, 116, 112, 115] := hsc
                  have hs3 : (a.toList == [104, 116, 116, 112, 115]) = false := beq_eq_false_iff_ne.2 hs2
                  clear hTK hBB hsc
                  go_wp2_with (first
                    |
                      (go_at_call 60; with_reducible refine (CE.out _).mono ?_; rintro x w3 ⟨rfl, hb3⟩; have hB3 := hB2.trans (hb3.mono hz2); have ho3 := own_below ho2 hb3 (Nat.le_refl _); have C3 := C2.next hb3; have U3 := U2.next hb3; have z0 := C3.c 0 rfl; have z1 := C3.c 1 rfl; have z2 := C3.c 2 rfl; have z3 := C3.c 3 rfl; have z4 := C3.c 4 rfl; have z5 := C3.c 5 rfl; have z6 := C3.c 6 rfl; have z7 := C3.c 7 rfl; have z8 := C3.c 8 rfl; have u0 := U3.c 0 rfl; have u1 := U3.c 1 rfl; have u2 := U3.c 2 rfl; have u3 := U3.c 3 rfl; have u4 := U3.c 4 rfl; have u5 := U3.c 5 rfl; have hk3 := C3.lt; have hu3 := U3.lt; have hz3 := hB3.size)
                      | (go_at_call 16; with_reducible refine (CPa.out _).mono ?_; rintro x w4 ⟨rfl, rfl⟩)
                    )
                  have hown9 := ho3
                  have hB9 := hB3
                  go_roundw
                  case rel => exact ⟨kk + 1, ps, by omega, by go_num, hown9, by rw [HS.out, HP.out]; simp, hB9⟩
                  case measure => simp [intOf]; omega
          · have HS := Lib.hid (hTK false (by rw [hBB]; rfl))
            clear hTK hBB
            go_wp2_with
                (go_at_call 60; with_reducible refine (CE.out _).mono ?_; rintro x w3 ⟨rfl, hb3⟩; have hB3 := hB2.trans (hb3.mono hz2); have ho3 := own_below ho2 hb3 (Nat.le_refl _); have C3 := C2.next hb3; have U3 := U2.next hb3; have z0 := C3.c 0 rfl; have z1 := C3.c 1 rfl; have z2 := C3.c 2 rfl; have z3 := C3.c 3 rfl; have z4 := C3.c 4 rfl; have z5 := C3.c 5 rfl; have z6 := C3.c 6 rfl; have z7 := C3.c 7 rfl; have z8 := C3.c 8 rfl; have u0 := U3.c 0 rfl; have u1 := U3.c 1 rfl; have u2 := U3.c 2 rfl; have u3 := U3.c 3 rfl; have u4 := U3.c 4 rfl; have u5 := U3.c 5 rfl; have hk3 := C3.lt; have hu3 := U3.lt; have hz3 := hB3.size)
            have hown9 := ho3
            have hB9 := hB3
            go_roundw
            case rel => exact ⟨kk + 1, ps, by omega, by go_num, hown9, by rw [HS.out, HP.out]; simp, hB9⟩
            case measure => simp [intOf]; omega
      · by_cases hd : yd.toList = b.toList
        · obtain rfl : yd = b := ba_ext' (by rw [← ByteArray.toList_eq, ← ByteArray.toList_eq]; exact hd)
          have hBB : pr ⟨yn, yv, yd, yp, true, yse, yhi, yex, ycr⟩ = ((true : Bool) && !E && Pp && (!yse || a.toList == httpsL)) := by rw [hBB, if_pos rfl, beq_self_eq_true]
          have C2 := CA
          have U2 := UA
          have ho2 := hoa
          have hB2 := hBa
          clear hd CA UA hoa hBa v0 v1 v2 v3 v4 v5
          have y0 := C2.c 0 rfl; have y1 := C2.c 1 rfl; have y2 := C2.c 2 rfl; have y3 := C2.c 3 rfl; have y4 := C2.c 4 rfl; have y5 := C2.c 5 rfl; have y6 := C2.c 6 rfl; have y7 := C2.c 7 rfl; have y8 := C2.c 8 rfl
          have t0 := U2.c 0 rfl; have t1 := U2.c 1 rfl; have t2 := U2.c 2 rfl; have t3 := U2.c 3 rfl; have t4 := U2.c 4 rfl; have t5 := U2.c 5 rfl
          have hk2 := C2.lt
          have hu2 := U2.lt
          have hz2 := hB2.size
          cases E
          · cases Pp
            · have HS := Lib.hid (hTK false (by rw [hBB]; rfl))
              clear hTK hBB
              go_wp2_with (first
                |
                  (go_at_call 60; with_reducible refine (CE.out _).mono ?_; rintro x w3 ⟨rfl, hb3⟩; have hB3 := hB2.trans (hb3.mono hz2); have ho3 := own_below ho2 hb3 (Nat.le_refl _); have C3 := C2.next hb3; have U3 := U2.next hb3; have z0 := C3.c 0 rfl; have z1 := C3.c 1 rfl; have z2 := C3.c 2 rfl; have z3 := C3.c 3 rfl; have z4 := C3.c 4 rfl; have z5 := C3.c 5 rfl; have z6 := C3.c 6 rfl; have z7 := C3.c 7 rfl; have z8 := C3.c 8 rfl; have u0 := U3.c 0 rfl; have u1 := U3.c 1 rfl; have u2 := U3.c 2 rfl; have u3 := U3.c 3 rfl; have u4 := U3.c 4 rfl; have u5 := U3.c 5 rfl; have hk3 := C3.lt; have hu3 := U3.lt; have hz3 := hB3.size)
                  | (go_at_call 16; with_reducible refine (CPa.out _).mono ?_; rintro x w4 ⟨rfl, rfl⟩)
                )
              have hown9 := ho3
              have hB9 := hB3
              go_roundw
              case rel => exact ⟨kk + 1, ps, by omega, by go_num, hown9, by rw [HS.out, HP.out]; simp, hB9⟩
              case measure => simp [intOf]; omega
            · cases yse
              · have HS := Lib.hid (hTK true (by rw [hBB]; rfl))
                clear hTK hBB
                go_wp2_with (first
                  |
                    (go_at_call 60; with_reducible refine (CE.out _).mono ?_; rintro x w3 ⟨rfl, hb3⟩; have hB3 := hB2.trans (hb3.mono hz2); have ho3 := own_below ho2 hb3 (Nat.le_refl _); have C3 := C2.next hb3; have U3 := U2.next hb3; have z0 := C3.c 0 rfl; have z1 := C3.c 1 rfl; have z2 := C3.c 2 rfl; have z3 := C3.c 3 rfl; have z4 := C3.c 4 rfl; have z5 := C3.c 5 rfl; have z6 := C3.c 6 rfl; have z7 := C3.c 7 rfl; have z8 := C3.c 8 rfl; have u0 := U3.c 0 rfl; have u1 := U3.c 1 rfl; have u2 := U3.c 2 rfl; have u3 := U3.c 3 rfl; have u4 := U3.c 4 rfl; have u5 := U3.c 5 rfl; have hk3 := C3.lt; have hu3 := U3.lt; have hz3 := hB3.size)
                    | (go_at_call 16; with_reducible refine (CPa.out _).mono ?_; rintro x w4 ⟨rfl, rfl⟩)
                    | (refine app2 slC _ (by rfl) (.tmp 60) (.tmp 62) (by rfl) w1.heap.size _ _ _ (by rfl) ho3 [_, _, _, _, _, _, _, _, _] 1 _ (by rfl) rfl (by rfl) (by intro u hu; simp at hu; rcases hu with rfl | rfl | rfl | rfl | rfl | rfl | rfl | rfl | rfl <;> rfl) (by decide) (by omega) (by omega) hz3 ?_; intro v2 w5 hA2 gA fA; have hB9 := below_own hB3 ho3 gA hz3 (Nat.le_refl _))
                  )
                go_roundw
                case rel => exact ⟨kk + 1, (l.take (kk + 1)).filter pr, by omega, by go_num, own_eq hA2 (by rw [HS.out, ← HP.out]; simp) (by rw [HS.out, ← HP.out, cellsK_app]; rfl), rfl, hB9⟩
                case measure => simp [intOf]; omega
              · by_cases hsc : a.toList = httpsL
                · have HS := Lib.hid (hTK true (by rw [hBB, hsc]; rfl))
                  have hs2 : a.toList = [104, 116, 116, 112, 115] := hsc
                  clear hTK hBB hsc
                  go_wp2_with (first
                    |
                      (go_at_call 60; with_reducible refine (CE.out _).mono ?_; rintro x w3 ⟨rfl, hb3⟩; have hB3 := hB2.trans (hb3.mono hz2); have ho3 := own_below ho2 hb3 (Nat.le_refl _); have C3 := C2.next hb3; have U3 := U2.next hb3; have z0 := C3.c 0 rfl; have z1 := C3.c 1 rfl; have z2 := C3.c 2 rfl; have z3 := C3.c 3 rfl; have z4 := C3.c 4 rfl; have z5 := C3.c 5 rfl; have z6 := C3.c 6 rfl; have z7 := C3.c 7 rfl; have z8 := C3.c 8 rfl; have u0 := U3.c 0 rfl; have u1 := U3.c 1 rfl; have u2 := U3.c 2 rfl; have u3 := U3.c 3 rfl; have u4 := U3.c 4 rfl; have u5 := U3.c 5 rfl; have hk3 := C3.lt; have hu3 := U3.lt; have hz3 := hB3.size)
                      | (go_at_call 16; with_reducible refine (CPa.out _).mono ?_; rintro x w4 ⟨rfl, rfl⟩)
                      | (refine app2 slC _ (by rfl) (.tmp 60) (.tmp 62) (by rfl) w1.heap.size _ _ _ (by rfl) ho3 [_, _, _, _, _, _, _, _, _] 1 _ (by rfl) rfl (by rfl) (by intro u hu; simp at hu; rcases hu with rfl | rfl | rfl | rfl | rfl | rfl | rfl | rfl | rfl <;> rfl) (by decide) (by omega) (by omega) hz3 ?_; intro v2 w5 hA2 gA fA; have hB9 := below_own hB3 ho3 gA hz3 (Nat.le_refl _))
                    )
                  go_roundw
                  case rel => exact ⟨kk + 1, (l.take (kk + 1)).filter pr, by omega, by go_num, own_eq hA2 (by rw [HS.out, ← HP.out]; simp) (by rw [HS.out, ← HP.out, cellsK_app]; rfl), rfl, hB9⟩
                  case measure => simp [intOf]; omega
                · have HS := Lib.hid (hTK false (by rw [hBB, beq_eq_false_iff_ne.2 hsc]; rfl))
                  have hs2 : ¬ a.toList = [104, 116, 116, 112, 115] := hsc
                  have hs3 : (a.toList == [104, 116, 116, 112, 115]) = false := beq_eq_false_iff_ne.2 hs2
                  clear hTK hBB hsc
                  go_wp2_with (first
                    |
                      (go_at_call 60; with_reducible refine (CE.out _).mono ?_; rintro x w3 ⟨rfl, hb3⟩; have hB3 := hB2.trans (hb3.mono hz2); have ho3 := own_below ho2 hb3 (Nat.le_refl _); have C3 := C2.next hb3; have U3 := U2.next hb3; have z0 := C3.c 0 rfl; have z1 := C3.c 1 rfl; have z2 := C3.c 2 rfl; have z3 := C3.c 3 rfl; have z4 := C3.c 4 rfl; have z5 := C3.c 5 rfl; have z6 := C3.c 6 rfl; have z7 := C3.c 7 rfl; have z8 := C3.c 8 rfl; have u0 := U3.c 0 rfl; have u1 := U3.c 1 rfl; have u2 := U3.c 2 rfl; have u3 := U3.c 3 rfl; have u4 := U3.c 4 rfl; have u5 := U3.c 5 rfl; have hk3 := C3.lt; have hu3 := U3.lt; have hz3 := hB3.size)
                      | (go_at_call 16; with_reducible refine (CPa.out _).mono ?_; rintro x w4 ⟨rfl, rfl⟩)
                    )
                  have hown9 := ho3
                  have hB9 := hB3
                  go_roundw
                  case rel => exact ⟨kk + 1, ps, by omega, by go_num, hown9, by rw [HS.out, HP.out]; simp, hB9⟩
                  case measure => simp [intOf]; omega
          · have HS := Lib.hid (hTK false (by rw [hBB]; rfl))
            clear hTK hBB
            go_wp2_with
                (go_at_call 60; with_reducible refine (CE.out _).mono ?_; rintro x w3 ⟨rfl, hb3⟩; have hB3 := hB2.trans (hb3.mono hz2); have ho3 := own_below ho2 hb3 (Nat.le_refl _); have C3 := C2.next hb3; have U3 := U2.next hb3; have z0 := C3.c 0 rfl; have z1 := C3.c 1 rfl; have z2 := C3.c 2 rfl; have z3 := C3.c 3 rfl; have z4 := C3.c 4 rfl; have z5 := C3.c 5 rfl; have z6 := C3.c 6 rfl; have z7 := C3.c 7 rfl; have z8 := C3.c 8 rfl; have u0 := U3.c 0 rfl; have u1 := U3.c 1 rfl; have u2 := U3.c 2 rfl; have u3 := U3.c 3 rfl; have u4 := U3.c 4 rfl; have u5 := U3.c 5 rfl; have hk3 := C3.lt; have hu3 := U3.lt; have hz3 := hB3.size)
            have hown9 := ho3
            have hB9 := hB3
            go_roundw
            case rel => exact ⟨kk + 1, ps, by omega, by go_num, hown9, by rw [HS.out, HP.out]; simp, hB9⟩
            case measure => simp [intOf]; omega
        · have hd2 : (yd.toList == b.toList) = false := beq_eq_false_iff_ne.2 hd
          have HS := Lib.hid (hTK false (by rw [hBB, if_pos rfl, hd2]; rfl))
          clear hTK hBB
          go_wp2_with fail
          have hown9 := hoa
          have hB9 := hBa
          go_roundw
          case rel => exact ⟨kk + 1, ps, by omega, by go_num, hown9, by rw [HS.out, HP.out]; simp, hB9⟩
          case measure => simp [intOf]; omega
    · obtain rfl : kk = l.length := by omega
      have hps : ps = hits := by rw [HP.out, List.take_length]; exact HH.out
      clear HP
      subst hps
      go_wp2_with (go_at_call 61; with_reducible refine (HS.out.run hown hwz).mono ?_; rintro x w2 ⟨rfl, hown2, hb2⟩)
      go_ret
      obtain rfl := HU.out
      exact ⟨_, rfl, own_mono hown2 (Nat.le_of_lt hul), hB1.trans ((hbw.trans hb2).mono (Nat.le_of_lt hul))⟩
end Go.Proofs.YtgjooigolgdocaaGreatDoor
