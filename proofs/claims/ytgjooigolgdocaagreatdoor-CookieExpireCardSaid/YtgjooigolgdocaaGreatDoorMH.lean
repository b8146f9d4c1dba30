/- CookieExpire: the law. -/
import Derived.Test.YtgjooigolgdocaaGreatDoorGM
import Derived.Test.YtgjooigolgdocaaGreatDoorG2
import Derived.Deep.CutRange
import Derived.BigQuiet
namespace Go.Proofs.YtgjooigolgdocaaGreatDoor
set_option linter.unusedVariables false
set_option linter.unusedSimpArgs false
open Go.RowKit Go.Sort

theorem row_apart {w w' : World} {J b e s m : Nat} {o : Option Nat} {v : Value} {xs : List Value} (h : ∀ J, RowBut w.heap.size J o w w') (hO : w.ownsRow b e s v m xs) (h2 : ∀ g, v.ownBlock = some g → o ≠ some g) : w'.ownsRow b e s v m xs := by
  refine ⟨hO.1, ?_⟩
  rcases hO.2 with h3 | ⟨g, cap, cur, rfl, hg, hh, r⟩
  · exact .inl h3
  · have hgw := (Array.getElem?_eq_some_iff.1 hh).1
    exact .inr ⟨g, cap, cur, rfl, hg, by rw [(h (g + 1)).block g hgw (by omega) (h2 g rfl)]; exact hh, r⟩
/-- what was done to a jar of one's own leaves all that lay before -/
theorem jar_below {W w w' : World} {jb : Nat} {v : Value} {l : List Ck} {nx : Int} (hb : Below W.heap.size W w) (hJ : JarIn w jb W.heap.size v l nx) (hj : W.heap.size ≤ jb) (hr : RowBut w.heap.size jb v.ownBlock w w') : Below W.heap.size W w' :=
  (hr.but hJ.own hb.size).to_below hb (Nat.le_refl _) hj
theorem kept_row {w w' : World} {jb b e s m : Nat} {o : Option Nat} {v : Value} {xs : List Value} (h : RowBut w.heap.size jb o w w') (hO : w.ownsRow b e s v m xs) (h1 : v.ownBlock ≠ some jb) (h2 : ∀ g, v.ownBlock = some g → o ≠ some g) : w'.ownsRow b e s v m xs := by
  refine ⟨hO.1, ?_⟩
  rcases hO.2 with h3 | ⟨g, cap, cur, rfl, hg, hh, r⟩
  · exact .inl h3
  · have hgw := (Array.getElem?_eq_some_iff.1 hh).1
    exact .inr ⟨g, cap, cur, rfl, hg, by rw [h.block g hgw (fun e => h1 (by rw [e]; rfl)) (h2 g rfl)]; exact hh, r⟩
theorem own_lt3 {w : World} {b e s n : Nat} {v : Value} {xs : List Value} (h : w.ownsRow b e s v n xs) : ∀ g, v.ownBlock = some g → g < w.heap.size := by
  intro g hg
  rcases h.2 with ⟨rfl, _⟩ | ⟨g', cap, cur, rfl, hb, hh, _⟩
  · simp [Value.ownBlock] at hg
  · simp only [Value.ownBlock, Option.some.injEq] at hg
    subst hg
    exact (Array.getElem?_eq_some_iff.1 hh).1
theorem expire_zero (l : List Ck) (nx : Int) (now : Int) (v : Value) (jb B : Nat) (w : World) (hJ : JarIn w jb B v l nx) (hl : l.length ≤ 1000) (ho : l.filter (fun c => !exB c now) = l) :
    Calls Tryz.prog 30 #[.pointer (some ⟨jb, 0, none⟩), .int .i64 now] w fun x w' => x = .returned (.int .i64 0) ∧ (∃ v', JarIn w' jb B v' l nx) ∧ RowBut w.heap.size jb v.ownBlock w w' := by
  have h := expire_is l nx now v jb B w hJ hl l ho
  rw [Nat.sub_self] at h
  exact h
set_option maxRecDepth 20000 in
set_option maxHeartbeats 4000000 in
theorem cookieexpire_law (l : List Ck) (v : Value) (nx : Int) (a b cc d e f : ByteArray) (now : Int) (w : World) (hM : MaxAt w) (hv : SlK ckL 9 w v l) (hln : l.length ≤ 9223372036854775807) (hcz : ∀ c ∈ l, lenC c ≤ 4611686018427387904) :
    Calls Tryz.prog 8 #[.agg #[v, .int .i64 nx], askA a b cc d e f now] w fun x w' => x = .returned (.bool true) ∧ Below w.heap.size w w' := by
  have J0 := (AtL.new w [v, .int .i64 nx] 38).alloc (.cells (askL a b cc d e f now).toArray 25)
  have A0 := AtL.new (w.alloc (.cells [v, .int .i64 nx].toArray 38)) (askL a b cc d e f now) 25
  rw [show (w.alloc (.cells [v, .int .i64 nx].toArray 38)).heap.size = w.heap.size + 1 by simp] at A0
  have hB0 : Below w.heap.size w ((w.alloc (.cells [v, .int .i64 nx].toArray 38)).alloc (.cells (askL a b cc d e f now).toArray 25)) := ((Below.refl _ w).alloc (Nat.le_refl _) _).alloc (by simp) _
  have hM0 := hM.below hB0 (Nat.le_refl _)
  have hv0 := hv.below hB0 (Nat.le_refl _)
  have CF := Lib.hid (fit_any _ hM0)
  obtain ⟨F, hF⟩ : ∃ F, fewB l nx = F := ⟨_, rfl⟩
  have CW := Lib.hid (fun w hv => cfew_is l v nx w hv hln hcz F hF)
  have cS := fun w => asmall_any a b cc d e f now w
  obtain ⟨S, hS⟩ : ∃ S, shortB a b cc d e f = S := ⟨_, rfl⟩
  rw [hS] at cS
  have CS := Lib.hid cS
  have CC := Lib.hid (fun (w : World) (hv : SlK ckL 9 w v l) (hl : l.length ≤ 1000) => clone_is l v nx w hv hl)
  obtain ⟨sa, sl, rfl, _⟩ := hv.shape
  cases F with
  | false =>
    clear cS hM hM0 CC hv hln hcz hF hS CS
    go_enter Tryz.func8, Tryz.ntmps8
    go_wp2_with (first
      | (go_at_call 10; with_reducible refine CF.out.mono ?_; rintro x w1 ⟨rfl, hb1⟩; have J1 := J0.next hb1; have A1 := A0.next hb1; have hB1 := hB0.trans (hb1.mono hB0.size); have hv1 := hv0.below hb1 (Nat.le_refl _); have j0 := J1.c 0 rfl; have j1 := J1.c 1 rfl; have z0 := A1.c 0 rfl; have z1 := A1.c 1 rfl; have z2 := A1.c 2 rfl; have z3 := A1.c 3 rfl; have z4 := A1.c 4 rfl; have z5 := A1.c 5 rfl; have z6 := A1.c 6 rfl; have jl1 := J1.lt; have al1 := A1.lt)
      | (go_at_call 22; with_reducible refine (CW.out _ hv1).mono ?_; rintro x w2 ⟨rfl, hb2⟩))
    go_ret
    exact ⟨rfl, hB1.trans (hb2.mono hB1.size)⟩
  | true =>
    have hfF := few_fact hF
    have hSZ := Lib.hid (few_szs hF)
    have hl202 := hfF.2.1
    cases S with
    | false =>
      clear cS hM hM0 CC hv hln hcz hF hS hfF
      go_enter Tryz.func8, Tryz.ntmps8
      go_wp2_with (first
        | (go_at_call 10; with_reducible refine CF.out.mono ?_; rintro x w1 ⟨rfl, hb1⟩; have J1 := J0.next hb1; have A1 := A0.next hb1; have hB1 := hB0.trans (hb1.mono hB0.size); have hv1 := hv0.below hb1 (Nat.le_refl _); have j0 := J1.c 0 rfl; have j1 := J1.c 1 rfl; have z0 := A1.c 0 rfl; have z1 := A1.c 1 rfl; have z2 := A1.c 2 rfl; have z3 := A1.c 3 rfl; have z4 := A1.c 4 rfl; have z5 := A1.c 5 rfl; have z6 := A1.c 6 rfl; have jl1 := J1.lt; have al1 := A1.lt)
        | (go_at_call 22; with_reducible refine (CW.out _ hv1).mono ?_; rintro x w2 ⟨rfl, hb2⟩; have A2 := A1.next hb2; have hB2 := hB1.trans (hb2.mono hB1.size); have y0 := A2.c 0 rfl; have y1 := A2.c 1 rfl; have y2 := A2.c 2 rfl; have y3 := A2.c 3 rfl; have y4 := A2.c 4 rfl; have y5 := A2.c 5 rfl; have y6 := A2.c 6 rfl; have al2 := A2.lt)
        | (go_at_call 11; with_reducible refine (CS.out _).mono ?_; rintro x w3 ⟨rfl, hb3⟩))
      go_ret
      exact ⟨rfl, hB2.trans (hb3.mono hB2.size)⟩
    | true =>
      have hz := short_size hS
      obtain ⟨T, hT⟩ : ∃ T, takesB (u6 a b cc d e f) = T := ⟨_, rfl⟩
      have HZ := Lib.hid hz
      have HT := Lib.hid hT
      clear cS hM hv hln hcz hF hS hfF hz hT
      go_enter Tryz.func8, Tryz.ntmps8
      go_upto_region 5 with (first
        | (go_at_call 10; with_reducible refine CF.out.mono ?_; rintro x w1 ⟨rfl, hb1⟩; have A1 := A0.next hb1; have J1 := J0.next hb1; have hB1 := hB0.trans (hb1.mono hB0.size); have hM1 := hM0.below hb1 (Nat.le_refl _); have hv1 := hv0.below hb1 (Nat.le_refl _); have z0 := A1.c 0 rfl; have z1 := A1.c 1 rfl; have z2 := A1.c 2 rfl; have z3 := A1.c 3 rfl; have z4 := A1.c 4 rfl; have z5 := A1.c 5 rfl; have z6 := A1.c 6 rfl; have j0 := J1.c 0 rfl; have j1 := J1.c 1 rfl; have hl1 := A1.lt; have jl1 := J1.lt)
        | (go_at_call 22; with_reducible refine (CW.out _ hv1).mono ?_; rintro x w2 ⟨rfl, hb2⟩; have A2 := A1.next hb2; have J2 := J1.next hb2; have hB2 := hB1.trans (hb2.mono hB1.size); have hM2 := hM1.below hb2 (Nat.le_refl _); have hv2 := hv1.below hb2 (Nat.le_refl _); have y0 := A2.c 0 rfl; have y1 := A2.c 1 rfl; have y2 := A2.c 2 rfl; have y3 := A2.c 3 rfl; have y4 := A2.c 4 rfl; have y5 := A2.c 5 rfl; have y6 := A2.c 6 rfl; have i0 := J2.c 0 rfl; have i1 := J2.c 1 rfl; have hl2 := A2.lt; have jl2 := J2.lt)
        | (go_at_call 11; with_reducible refine (CS.out _).mono ?_; rintro x w3 ⟨rfl, hb3⟩; have A3 := A2.next hb3; have J3 := J2.next hb3; have hB3 := hB2.trans (hb3.mono hB2.size); have hM3 := hM2.below hb3 (Nat.le_refl _); have hv3 := hv2.below hb3 (Nat.le_refl _); have hl3 := A3.lt; have jl3 := J3.lt))
      have hl1000 : l.length ≤ 1000 := by omega
      obtain ⟨J, hJ⟩ : ∃ J, w.heap.size = J := ⟨_, rfl⟩
      obtain ⟨A, hA⟩ : ∃ A, w.heap.size + 1 = A := ⟨_, rfl⟩
      rw [hA] at A3
      rw [hJ] at J3
      rw [hA, hJ]
      have HJ := Lib.hid hJ
      have HA := Lib.hid hA
      have hJl := J3.lt
      have hAl := A3.lt
      clear hJ hA A0 A1 A2 J0 J1 J2 hB0 hB1 hB2 hM0 hM1 hM2 hv0 hv1 hv2 CF CW CS hb1 hb2 hb3 z0 z1 z2 z3 z4 z5 z6 y0 y1 y2 y3 y4 y5 y6 j0 j1 i0 i1 hl1 hl2 jl1 jl2 hl3 jl3
      have j0 := J3.c 0 rfl; have j1 := J3.c 1 rfl
      go_upto_region 6 with (go_at_call 23; refine (CC.out _ hv3 hl1000).mono ?_; rintro x w4 ⟨vx, rfl, hox, hbx⟩; obtain ⟨xa, xc, rfl, _⟩ := own_reads hox)
      have hal : Below w4.heap.size w4 (w4.alloc (.cells [.slice xa l.length xc, .int .i64 nx].toArray 38)) := (Below.refl _ w4).alloc (Nat.le_refl _) _
      have X5 : JarIn (w4.alloc (.cells [.slice xa l.length xc, .int .i64 nx].toArray 38)) w4.heap.size w3.heap.size (.slice xa l.length xc) l nx := ⟨AtL.new w4 [.slice xa l.length xc, .int .i64 nx] 38, own_below hox hal (Nat.le_refl _), own_fresh hox, Nat.le_trans hbx.size hal.size⟩
      have hb5 := hbx.trans (hal.mono hbx.size)
      have hXl : w3.heap.size ≤ w4.heap.size := hbx.size
      obtain ⟨X, hX⟩ : ∃ X, w4.heap.size = X := ⟨_, rfl⟩
      obtain ⟨w5, hw5⟩ : ∃ w5 : World, w4.alloc (.cells [.slice xa l.length xc, .int .i64 nx].toArray 38) = w5 := ⟨_, rfl⟩
      rw [hw5] at hb5 X5
      rw [hX] at X5 hXl
      rw [hw5, hX]
      have A5 := A3.below hb5 hAl
      have J5 := J3.below hb5 hJl
      clear hX hw5 hal hox hbx j0 j1 CC
      obtain ⟨out, hout⟩ : ∃ out, l.filter (fun c => !exB c now) = out := ⟨_, rfl⟩
      have hol : out.length ≤ l.length := by rw [← hout]; exact List.length_filter_le _ _
      have hsz2 : Szs out := fun c hc => hSZ.out c (by rw [← hout] at hc; exact (List.mem_filter.1 hc).1)
      have hfil2 : out.filter (fun c => !exB c now) = out := by rw [← hout, List.filter_filter]; exact List.filter_congr fun c _ => Bool.and_self _
      obtain ⟨R1, hR1⟩ : ∃ R1 : ByteArray, R1.data.toList = joinL (matchL T a b d now l) := ⟨⟨(joinL (matchL T a b d now l)).toArray⟩, rfl⟩
      have hR2 : R1.data.toList = joinL (matchL T a b d now out) := by rw [hR1, ← hout, match_fresh]
      have CH := Lib.hid (fun (w : World) (v nx : Value) (jb : Nat) hM hv hJ => header_any T a b cc d e f now HT.out l v nx jb w HZ.out hM hv hJ hl1000 hSZ.out R1 hR1)
      have CH2 := Lib.hid (fun (w : World) (v nx : Value) (jb : Nat) hM hv hJ => header_any T a b cc d e f now HT.out out v nx jb w HZ.out hM hv hJ (by omega) hsz2 R1 hR2)
      have CE := Lib.hid (fun (w : World) (v : Value) hJ => expire_is l nx now v X w3.heap.size w hJ hl1000 out hout)
      have CE2 := Lib.hid (fun (w : World) (v : Value) hJ => expire_zero out nx now v X w3.heap.size w hJ (by omega) hfil2)
      have CX := Lib.hid (fun (y : Ck) (E : Bool) (h : exB y now = E) (w : World) => rexpired_is y now E h w)
      have CSm := Lib.hid (fun (l : List Ck) (v v2 : Value) (nx : Int) (w : World) hv hv2 hl => same_true l v v2 nx w hv hv2 hl)
      have HOUT := Lib.hid hout
      have HOL := Lib.hid hol
      clear hR1 hR2 hsz2 hout hfil2 hol
      have z0 := A5.c 0 rfl; have z1 := A5.c 1 rfl; have z2 := A5.c 2 rfl; have z3 := A5.c 3 rfl; have z4 := A5.c 4 rfl; have z5 := A5.c 5 rfl; have z6 := A5.c 6 rfl
      have al5 := A5.lt
      have xl5 := X5.at_.lt
      go_upto_region 7 with (go_at_call 21; with_reducible refine (CH.out _ _ _ X (hM3.below hb5 (Nat.le_refl _)) X5.reads X5.at_).mono ?_; rintro x w6 ⟨rfl, hb6⟩)
      have hb36 := hb5.trans (hb6.mono hb5.size)
      have A6 := A3.below hb36 hAl
      have J6 := J3.below hb36 hJl
      have X6 := X5.below hb6 (Nat.le_refl _)
      have hv6 := hv3.below hb36 (Nat.le_refl _)
      clear z0 z1 z2 z3 z4 z5 z6 al5 xl5 A5 J5 X5 hb5 hb6
      have z0 := A6.c 0 rfl; have z1 := A6.c 1 rfl; have z2 := A6.c 2 rfl; have z3 := A6.c 3 rfl; have z4 := A6.c 4 rfl; have z5 := A6.c 5 rfl; have z6 := A6.c 6 rfl
      have j0 := J6.c 0 rfl; have j1 := J6.c 1 rfl
      have al6 := A6.lt
      have jl6 := J6.lt
      go_wp2_with fail
      go_loopw [7, 31] (fun pv iv wr => ∃ (k : Nat) (ps : List Ck), k ≤ l.length ∧ iv = .int .i64 k ∧ wr.ownsRow w6.heap.size 29 9 pv ps.length (cellsK ckL ps) ∧ Hid (ps = (l.take k).filter (fun c => !exB c now)) ∧ ps.length ≤ k ∧ Below w6.heap.size w6 wr) (fun _ iv _ => l.length - (intOf iv).toNat)
      case atStart => exact ⟨0, [], Nat.zero_le _, rfl, World.ownsRow_nil _ _ _ _, Lib.hid rfl, Nat.le_refl _, Below.refl _ _⟩
      case round =>
        obtain ⟨kk, ps, hk, rfl, hown, HP, hpl, hbw⟩ := hrel
        have hwz := hbw.size
        have AR := A6.next hbw
        have JR := J6.next hbw
        by_cases hlt : kk < l.length
        · rcases hv6 with ⟨rfl, _⟩ | ⟨_, b0, off, cap, he, hc1, hc2, hc3, hcell⟩
          · simp at hlt
          injection he with e1 e2 e3
          subst e1 e3
          have cc' : ∀ j u, (ckL l[kk])[j]? = some u → wr.cell? ⟨b0, off + kk * 9 + j, none⟩ = some u := fun j u hu => (hbw.cell (p := ⟨b0, off + kk * 9 + j, none⟩) hc3).trans (hcell kk hlt j u hu)
          obtain ⟨y, hy⟩ : ∃ y, l[kk] = y := ⟨_, rfl⟩
          rw [hy] at cc'
          have hTK := take_hit (fun c => !exB c now) l kk hlt y hy
          clear hcell hy
          obtain ⟨yn, yv, yd, yp, yho, yse, yhi, yex, ycr⟩ := y
          have c0 := cc' 0 _ rfl
          have c1 := cc' 1 _ rfl
          have c2 := cc' 2 _ rfl
          have c3 := cc' 3 _ rfl
          have c4 := cc' 4 _ rfl
          have c5 := cc' 5 _ rfl
          have c6 := cc' 6 _ rfl
          have c7 := cc' 7 _ rfl
          have c8 := cc' 8 _ rfl
          simp only [Nat.add_zero] at c0
          clear cc'
          obtain ⟨E, hE⟩ : ∃ E, exB ⟨yn, yv, yd, yp, yho, yse, yhi, yex, ycr⟩ now = E := ⟨_, rfl⟩
          have CEE := Lib.hid (fun w => CX.out ⟨yn, yv, yd, yp, yho, yse, yhi, yex, ycr⟩ E hE w)
          have HTK := Lib.hid (hTK (!E) (by simp only [hE]))
          have KA := AtL.new wr (ckL ⟨yn, yv, yd, yp, yho, yse, yhi, yex, ycr⟩) 29
          have hal := (Below.refl _ wr).alloc (Nat.le_refl _) (.cells (ckL ⟨yn, yv, yd, yp, yho, yse, yhi, yex, ycr⟩).toArray 29)
          have AA := AR.next hal
          have oA := own_below hown hal (Nat.le_refl _)
          have hBA := hbw.trans (hal.mono hwz)
          have hki : (kk : Int) < (l.length : Int) := by omega
          have hza := hBA.size
          have y0 := AA.c 0 rfl; have y1 := AA.c 1 rfl; have y2 := AA.c 2 rfl; have y3 := AA.c 3 rfl; have y4 := AA.c 4 rfl; have y5 := AA.c 5 rfl; have y6 := AA.c 6 rfl
          have ala := AA.lt
          clear hE hTK
          cases E
          · go_wp2_with (first
              | (go_at_call 29; with_reducible refine (CEE.out _).mono ?_; rintro x w8 ⟨rfl, hb8⟩; have K8 := KA.next hb8; have o8 := own_below oA hb8 (Nat.le_refl _); have hB8 := hBA.trans (hb8.mono hza); have x0 := K8.c 0 rfl; have x1 := K8.c 1 rfl; have x2 := K8.c 2 rfl; have x3 := K8.c 3 rfl; have x4 := K8.c 4 rfl; have x5 := K8.c 5 rfl; have x6 := K8.c 6 rfl; have x7 := K8.c 7 rfl; have x8 := K8.c 8 rfl; have kl8 := K8.lt; have hz8 := hB8.size)
              | (refine app2 slC _ (by rfl) (.tmp 40) (.tmp 42) (by rfl) w6.heap.size _ _ _ (by rfl) o8 [_, _, _, _, _, _, _, _, _] 1 _ (by rfl) rfl (by rfl) (by intro u hu; simp at hu; rcases hu with rfl | rfl | rfl | rfl | rfl | rfl | rfl | rfl | rfl <;> rfl) (by decide) (by omega) (by omega) hz8 ?_; intro v2 w9 hA2 gA fA; have hB9 := below_own hB8 o8 gA hz8 (Nat.le_refl _)))
            go_roundw
            case rel => exact ⟨kk + 1, ps ++ [⟨yn, yv, yd, yp, yho, yse, yhi, yex, ycr⟩], by omega, by go_num, own_eq hA2 (by simp) (by rw [cellsK_app]; rfl), Lib.hid (by rw [HTK.out, ← HP.out]; rfl), by simp; omega, hB9⟩
            case measure => simp [intOf]; omega
          · go_wp2_with (go_at_call 29; with_reducible refine (CEE.out _).mono ?_; rintro x w8 ⟨rfl, hb8⟩; have o8 := own_below oA hb8 (Nat.le_refl _); have hB8 := hBA.trans (hb8.mono hza))
            go_roundw
            case rel => exact ⟨kk + 1, ps, by omega, by go_num, o8, Lib.hid (by rw [HTK.out, ← HP.out]; simp), by omega, hB8⟩
            case measure => simp [intOf]; omega
        · obtain rfl : kk = l.length := by omega
          have hps : ps = out := by rw [HP.out, List.take_length]; exact HOUT.out
          subst hps
          clear HP
          obtain ⟨wa, wc, rfl, _⟩ := own_reads hown
          have XR := X6.below hbw (Nat.le_refl _)
          have hb3r := hb36.trans (hbw.mono hb36.size)
          obtain ⟨n, hn⟩ : ∃ n : Nat, l.length - ps.length = n := ⟨_, rfl⟩
          have hn2 : (l.length : Int) - (ps.length : Int) = (n : Int) := by have := HOL.out; omega
          have hn3 : n ≤ 1000 := by omega
          have CE' := CE.out wr _ XR
          rw [hn] at CE'
          have HCE := Lib.hid CE'
          have hXw : X < w6.heap.size := X6.at_.lt
          have hne1 : (Value.slice wa ps.length wc).ownBlock ≠ some X := fun e => by have := own_base hown e; omega
          have hne2 : ∀ g, (Value.slice wa ps.length wc).ownBlock = some g → (Value.slice xa l.length xc).ownBlock ≠ some g := fun g e1 e2 => by
            have h1 := own_base hown e1
            have h2 := own_lt3 X6.own g e2
            omega
          have HN1 := Lib.hid hne1
          have HN2 := Lib.hid hne2
          clear CE' hn hne1 hne2 z0 z1 z2 z3 z4 z5 z6 j0 j1 al6 jl6
          have z0 := AR.c 0 rfl; have z1 := AR.c 1 rfl; have z2 := AR.c 2 rfl; have z3 := AR.c 3 rfl; have z4 := AR.c 4 rfl; have z5 := AR.c 5 rfl; have z6 := AR.c 6 rfl
          have j0 := JR.c 0 rfl; have j1 := JR.c 1 rfl
          have alr := AR.lt
          have jlr := JR.lt
          go_wp2_with (first
            | (go_at_call 30; with_reducible refine HCE.out.mono ?_; rintro x w7 ⟨rfl, ⟨v7, X7⟩, hr7⟩; have hb7 := jar_below hb3r XR hXl hr7; have A7 := A3.below hb7 hAl; have J7 := J3.below hb7 hJl; have own7 := kept_row hr7 hown HN1.out HN2.out; have hv7 := SlK.of_own ckL_len own7; have hM7 := hM3.below hb7 (Nat.le_refl _); obtain ⟨xa7, xc7, rfl, _⟩ := own_reads X7.own; have u0 := A7.c 0 rfl; have u1 := A7.c 1 rfl; have u2 := A7.c 2 rfl; have u3 := A7.c 3 rfl; have u4 := A7.c 4 rfl; have u5 := A7.c 5 rfl; have u6 := A7.c 6 rfl; have i0 := J7.c 0 rfl; have i1 := J7.c 1 rfl; have al7 := A7.lt; have jl7 := J7.lt; have x0 := X7.at_.c 0 rfl; have x1 := X7.at_.c 1 rfl; have xl7 := X7.at_.lt; clear hr7)
            | (go_at_call 28; with_reducible refine (CSm.out _ _ _ _ _ X7.reads hv7 (by omega)).mono ?_; rintro x w8 ⟨rfl, hb8⟩; have hb38 := hb7.trans (hb8.mono hb7.size); have A8 := A3.below hb38 hAl; have X8 := X7.below hb8 (Nat.le_refl _); have hM8 := hM3.below hb38 (Nat.le_refl _); have t0 := A8.c 0 rfl; have t1 := A8.c 1 rfl; have t2 := A8.c 2 rfl; have t3 := A8.c 3 rfl; have t4 := A8.c 4 rfl; have t5 := A8.c 5 rfl; have t6 := A8.c 6 rfl; have al8 := A8.lt)
            | (go_at_call 21; with_reducible refine (CH2.out _ _ _ X hM8 X8.reads X8.at_).mono ?_; rintro x w9 ⟨rfl, hb9⟩; have hb39 := hb38.trans (hb9.mono hb38.size); have A9 := A3.below hb39 hAl; have X9 := X8.below hb9 (Nat.le_refl _); have y0 := A9.c 0 rfl; have y1 := A9.c 1 rfl; have y2 := A9.c 2 rfl; have y3 := A9.c 3 rfl; have y4 := A9.c 4 rfl; have y5 := A9.c 5 rfl; have y6 := A9.c 6 rfl; have al9 := A9.lt)
            | (go_at_call 30; with_reducible refine (CE2.out _ _ X9).mono ?_; rintro x w10 ⟨rfl, _, hr10⟩; have hb310 := jar_below hb39 X9 hXl hr10; clear hr10))
          go_ret
          exact ⟨rfl, hB3.trans (hb310.mono hB3.size)⟩
end Go.Proofs.YtgjooigolgdocaaGreatDoor
