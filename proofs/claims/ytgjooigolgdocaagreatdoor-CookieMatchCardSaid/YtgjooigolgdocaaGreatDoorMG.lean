/- CookieMatch: the law. -/
import Derived.Test.YtgjooigolgdocaaGreatDoorGM
import Derived.Test.YtgjooigolgdocaaGreatDoorG2
import Derived.Deep.CutRange
import Derived.BigQuiet
namespace Go.Proofs.YtgjooigolgdocaaGreatDoor
set_option linter.unusedVariables false
set_option linter.unusedSimpArgs false
open Go.RowKit

set_option maxRecDepth 20000 in
set_option maxHeartbeats 4000000 in
theorem cookiematch_law (l : List Ck) (v : Value) (nx : Int) (a b cc d e f : ByteArray) (now : Int) (w : World) (hM : MaxAt w) (hv : SlK ckL 9 w v l) (hln : l.length ≤ 9223372036854775807) (hcz : ∀ c ∈ l, lenC c ≤ 4611686018427387904) :
    Calls Tryz.prog 6 #[.agg #[v, .int .i64 nx], askA a b cc d e f now] w fun x w' => x = .returned (.bool true) ∧ Below w.heap.size w w' := by
  have J0 := (AtL.new w [v, .int .i64 nx] 38).alloc (.cells (askL a b cc d e f now).toArray 25)
  have A0 := AtL.new (w.alloc (.cells [v, .int .i64 nx].toArray 38)) (askL a b cc d e f now) 25
  rw [show (w.alloc (.cells [v, .int .i64 nx].toArray 38)).heap.size = w.heap.size + 1 by simp] at A0
  have hB0 : Below w.heap.size w ((w.alloc (.cells [v, .int .i64 nx].toArray 38)).alloc (.cells (askL a b cc d e f now).toArray 25)) := ((Below.refl _ w).alloc (Nat.le_refl _) _).alloc (by simp) _
  have hM0 := hM.below hB0 (Nat.le_refl _)
  have hv0 := hv.below hB0 (Nat.le_refl _)
  have CF := Lib.hid (fit_any _ hM0)
  obtain ⟨F, hF⟩ : ∃ F, fewB l nx = F := ⟨_, rfl⟩
  have CW := Lib.hid (fun w hv => cfew_is l v nx w hv hln hcz F hF)
  have cS := fun w => asmall_any a b cc d e f now w
  obtain ⟨S, hS⟩ : ∃ S, shortB a b cc d e f = S := ⟨_, rfl⟩
  rw [hS] at cS
  have CS := Lib.hid cS
  have CC := Lib.hid (fun (w : World) (hv : SlK ckL 9 w v l) (hl : l.length ≤ 1000) => clone_is l v nx w hv hl)
  obtain ⟨sa, sl, rfl, _⟩ := hv.shape
  cases F with
  | false =>
    clear cS hM hM0 CC hv hln hcz hF hS CS
    go_enter Tryz.func6, Tryz.ntmps6
    go_wp2_with (first
      | (go_at_call 10; with_reducible refine CF.out.mono ?_; rintro x w1 ⟨rfl, hb1⟩; have J1 := J0.next hb1; have A1 := A0.next hb1; have hB1 := hB0.trans (hb1.mono hB0.size); have hv1 := hv0.below hb1 (Nat.le_refl _); have j0 := J1.c 0 rfl; have j1 := J1.c 1 rfl; have z0 := A1.c 0 rfl; have z1 := A1.c 1 rfl; have z2 := A1.c 2 rfl; have z3 := A1.c 3 rfl; have z4 := A1.c 4 rfl; have z5 := A1.c 5 rfl; have z6 := A1.c 6 rfl; have jl1 := J1.lt; have al1 := A1.lt)
      | (go_at_call 22; with_reducible refine (CW.out _ hv1).mono ?_; rintro x w2 ⟨rfl, hb2⟩))
    go_ret
    exact ⟨rfl, hB1.trans (hb2.mono hB1.size)⟩
  | true =>
    have hfF := few_fact hF
    have hSZ := Lib.hid (few_szs hF)
    have hl202 := hfF.2.1
    cases S with
    | false =>
      clear cS hM hM0 CC hv hln hcz hF hS hfF
      go_enter Tryz.func6, Tryz.ntmps6
      go_wp2_with (first
        | (go_at_call 10; with_reducible refine CF.out.mono ?_; rintro x w1 ⟨rfl, hb1⟩; have J1 := J0.next hb1; have A1 := A0.next hb1; have hB1 := hB0.trans (hb1.mono hB0.size); have hv1 := hv0.below hb1 (Nat.le_refl _); have j0 := J1.c 0 rfl; have j1 := J1.c 1 rfl; have z0 := A1.c 0 rfl; have z1 := A1.c 1 rfl; have z2 := A1.c 2 rfl; have z3 := A1.c 3 rfl; have z4 := A1.c 4 rfl; have z5 := A1.c 5 rfl; have z6 := A1.c 6 rfl; have jl1 := J1.lt; have al1 := A1.lt)
        | (go_at_call 22; with_reducible refine (CW.out _ hv1).mono ?_; rintro x w2 ⟨rfl, hb2⟩; have A2 := A1.next hb2; have hB2 := hB1.trans (hb2.mono hB1.size); have y0 := A2.c 0 rfl; have y1 := A2.c 1 rfl; have y2 := A2.c 2 rfl; have y3 := A2.c 3 rfl; have y4 := A2.c 4 rfl; have y5 := A2.c 5 rfl; have y6 := A2.c 6 rfl; have al2 := A2.lt)
        | (go_at_call 11; with_reducible refine (CS.out _).mono ?_; rintro x w3 ⟨rfl, hb3⟩))
      go_ret
      exact ⟨rfl, hB2.trans (hb3.mono hB2.size)⟩
    | true =>
      have hz := short_size hS
      obtain ⟨T, hT⟩ : ∃ T, takesB (u6 a b cc d e f) = T := ⟨_, rfl⟩
      have HZ := Lib.hid hz
      have HT := Lib.hid hT
      clear cS hM hv hln hcz hF hS hfF hz hT
      go_enter Tryz.func6, Tryz.ntmps6
      go_upto_region 5 with (first
        | (go_at_call 10; with_reducible refine CF.out.mono ?_; rintro x w1 ⟨rfl, hb1⟩; have A1 := A0.next hb1; have J1 := J0.next hb1; have hB1 := hB0.trans (hb1.mono hB0.size); have hM1 := hM0.below hb1 (Nat.le_refl _); have hv1 := hv0.below hb1 (Nat.le_refl _); have z0 := A1.c 0 rfl; have z1 := A1.c 1 rfl; have z2 := A1.c 2 rfl; have z3 := A1.c 3 rfl; have z4 := A1.c 4 rfl; have z5 := A1.c 5 rfl; have z6 := A1.c 6 rfl; have j0 := J1.c 0 rfl; have j1 := J1.c 1 rfl; have hl1 := A1.lt; have jl1 := J1.lt)
        | (go_at_call 22; with_reducible refine (CW.out _ hv1).mono ?_; rintro x w2 ⟨rfl, hb2⟩; have A2 := A1.next hb2; have J2 := J1.next hb2; have hB2 := hB1.trans (hb2.mono hB1.size); have hM2 := hM1.below hb2 (Nat.le_refl _); have hv2 := hv1.below hb2 (Nat.le_refl _); have y0 := A2.c 0 rfl; have y1 := A2.c 1 rfl; have y2 := A2.c 2 rfl; have y3 := A2.c 3 rfl; have y4 := A2.c 4 rfl; have y5 := A2.c 5 rfl; have y6 := A2.c 6 rfl; have i0 := J2.c 0 rfl; have i1 := J2.c 1 rfl; have hl2 := A2.lt; have jl2 := J2.lt)
        | (go_at_call 11; with_reducible refine (CS.out _).mono ?_; rintro x w3 ⟨rfl, hb3⟩; have A3 := A2.next hb3; have J3 := J2.next hb3; have hB3 := hB2.trans (hb3.mono hB2.size); have hM3 := hM2.below hb3 (Nat.le_refl _); have hv3 := hv2.below hb3 (Nat.le_refl _); have hl3 := A3.lt; have jl3 := J3.lt))
      have hl1000 : l.length ≤ 1000 := by omega
      obtain ⟨J, hJ⟩ : ∃ J, w.heap.size = J := ⟨_, rfl⟩
      obtain ⟨A, hA⟩ : ∃ A, w.heap.size + 1 = A := ⟨_, rfl⟩
      rw [hA] at A3
      rw [hJ] at J3
      rw [hA, hJ]
      have HJ := Lib.hid hJ
      have HA := Lib.hid hA
      have hJl := J3.lt
      have hAl := A3.lt
      clear hJ hA A0 A1 A2 J0 J1 J2 hB0 hB1 hB2 hM0 hM1 hM2 hv0 hv1 hv2 CF CW CS hb1 hb2 hb3 z0 z1 z2 z3 z4 z5 z6 y0 y1 y2 y3 y4 y5 y6 j0 j1 i0 i1 hl1 hl2 jl1 jl2 hl3 jl3
      have j0 := J3.c 0 rfl; have j1 := J3.c 1 rfl
      go_upto_region 6 with (go_at_call 23; refine (CC.out _ hv3 hl1000).mono ?_; rintro x w4 ⟨vx, rfl, hox, hbx⟩; have hvx := SlK.of_own ckL_len hox; obtain ⟨xa, xc, rfl, _⟩ := hvx.shape)
      have hal : Below w4.heap.size w4 (w4.alloc (.cells [.slice xa l.length xc, .int .i64 nx].toArray 38)) := (Below.refl _ w4).alloc (Nat.le_refl _) _
      have X5 := AtL.new w4 [.slice xa l.length xc, .int .i64 nx] 38
      have hb5 := hbx.trans (hal.mono hbx.size)
      obtain ⟨X, hX⟩ : ∃ X, w4.heap.size = X := ⟨_, rfl⟩
      obtain ⟨w5, hw5⟩ : ∃ w5 : World, w4.alloc (.cells [.slice xa l.length xc, .int .i64 nx].toArray 38) = w5 := ⟨_, rfl⟩
      have hv5 := hvx.below hal (Nat.le_refl _)
      rw [hw5] at hb5 X5 hv5
      rw [hX] at X5
      rw [hw5, hX]
      have hB5 := hB3.trans (hb5.mono hB3.size)
      have A5 := A3.below hb5 hAl
      have J5 := J3.below hb5 hJl
      have hM5 := hM3.below hb5 (Nat.le_refl _)
      have hw5v := hv3.below hb5 (Nat.le_refl _)
      clear hX hw5 hal hox hbx hvx j0 j1 hb5 hJl hAl CC A3 J3 hM3 hv3 hB3
      obtain ⟨out, hout⟩ : ∃ out, matchL T a b d now l = out := ⟨_, rfl⟩
      have hol : out.length ≤ 1000 := by have := matchL_len T a b d now l; rw [hout] at this; omega
      have hos : Szs out := fun c hc => hSZ.out c (matchL_mem T a b d now l c (by rw [hout]; exact hc))
      obtain ⟨R1, hR1⟩ : ∃ R1 : ByteArray, R1.data.toList = joinL out := ⟨⟨(joinL out).toArray⟩, rfl⟩
      obtain ⟨R2, hR2⟩ : ∃ R2 : ByteArray, R2.data.toList = joinL (shownL true out) := ⟨⟨(joinL (shownL true out)).toArray⟩, rfl⟩
      have CM := Lib.hid (fun (w : World) (v nx : Value) (jb : Nat) hM hv hJ => match_any T a b cc d e f now HT.out l v nx jb w HZ.out hM hv hJ hl1000 hSZ.out out hout)
      have CR := Lib.hid (fun (w : World) (v nx : Value) hM hv => rmatch_any T a b cc d e f now HT.out l v nx w HZ.out hM hv hl1000 hSZ.out out hout)
      have CH := Lib.hid (fun (w : World) (v nx : Value) (jb : Nat) hM hv hJ => header_any T a b cc d e f now HT.out l v nx jb w HZ.out hM hv hJ hl1000 hSZ.out R1 (by rw [hout]; exact hR1))
      have CSc := Lib.hid (fun (w : World) (v nx : Value) (jb : Nat) hM hv hJ => script_any T a b cc d e f now HT.out l v nx jb w HZ.out hM hv hJ hl1000 hSZ.out R2 (by rw [hout]; exact hR2))
      have CT1 := Lib.hid (fun (w : World) (v : Value) hv => text_no out v w hv hol (fun c hc => (hos c hc).2) R1 (by rw [shown_false]; exact hR1))
      have CT2 := Lib.hid (fun (w : World) (v : Value) hv => text_yes out v w hv hol (fun c hc => (hos c hc).2) R2 hR2)
      have CSm := Lib.hid (fun (l : List Ck) (v v2 : Value) (nx : Int) (w : World) hv hv2 hl => same_true l v v2 nx w hv hv2 hl)
      clear hR1 hR2 hos hout
      have z0 := A5.c 0 rfl; have z1 := A5.c 1 rfl; have z2 := A5.c 2 rfl; have z3 := A5.c 3 rfl; have z4 := A5.c 4 rfl; have z5 := A5.c 5 rfl; have z6 := A5.c 6 rfl
      have j0 := J5.c 0 rfl; have j1 := J5.c 1 rfl
      have al5 := A5.lt
      have jl5 := J5.lt
      have xl5 := X5.lt
      have hMd := hM5.below (Below.refl _ w5).drew (Nat.le_refl _)
      have hvd := hv5.below (Below.refl _ w5).drew (Nat.le_refl _)
      have hwd := hw5v.below (Below.refl _ w5).drew (Nat.le_refl _)
      go_region_held3 (fun w' => w'.cell? ⟨A, 0, none⟩ = some (.string a) ∧ w'.cell? ⟨A, 1, none⟩ = some (.string b) ∧ w'.cell? ⟨A, 2, none⟩ = some (.string cc) ∧ w'.cell? ⟨A, 3, none⟩ = some (.string d) ∧ w'.cell? ⟨A, 4, none⟩ = some (.string e) ∧ w'.cell? ⟨A, 5, none⟩ = some (.string f) ∧ w'.cell? ⟨A, 6, none⟩ = some (.int .i64 now) ∧ w'.cell? ⟨J, 0, none⟩ = some (.slice sa l.length sl) ∧ w'.cell? ⟨J, 1, none⟩ = some (.int .i64 nx))
        (first | exact saj_mk A5 J5 (Below.refl _ w5).drew | exact saj_mk A5 J5 hb6 | exact saj_mk A5 J5 hb7 | go_keep)
        (first
          | (go_at_call 24; refine (CM.out _ _ _ X hMd hvd X5.drew).mono ?_; rintro x w6 hq; obtain ⟨ga, gc, rfl, hg6, hbg⟩ := matq_open hq; clear hq; have hb6 := (Below.refl _ w5).drew.trans hbg; have hM6 := hM5.below hb6 (Nat.le_refl _); have hw6v := hw5v.below hb6 (Nat.le_refl _))
          | (go_at_call 25; refine (CR.out _ _ _ hM6 hw6v).mono ?_; rintro x w7 hq; obtain ⟨ra, rc, rfl, hr7, hbr⟩ := matq_open hq; clear hq; have hb7 := hb6.trans (hbr.mono hb6.size); have hg7 := hg6.below hbr (Nat.le_refl _)))
      have A7 := A5.next hb7
      have J7 := J5.next hb7
      have X7 := X5.next hb7
      have hM7 := hM5.below hb7 (Nat.le_refl _)
      have hv7 := hv5.below hb7 (Nat.le_refl _)
      have hw7 := hw5v.below hb7 (Nat.le_refl _)
      have hB7 := hB5.trans (hb7.mono hB5.size)
      clear z0 z1 z2 z3 z4 z5 z6 j0 j1 al5 jl5 xl5 A5 J5 X5 hM5 hv5 hw5v hB5 hM6 hw6v hb6 hMd hvd hwd hg6 CM CR hb7 hbg hbr
      have HCC : ∀ (hlt : 0 < out.length), ∃ b0 off b2 off2 : Nat, ga = some ⟨b0, off, none⟩ ∧ ra = some ⟨b2, off2, none⟩ ∧ ∀ kk (h : kk < out.length) j u, (ckL out[kk])[j]? = some u → w7.cell? ⟨b0, off + kk * 9 + j, none⟩ = some u ∧ w7.cell? ⟨b2, off2 + kk * 9 + j, none⟩ = some u := by
        intro hlt
        rcases hg7 with ⟨rfl, _⟩ | ⟨_, b0, off, cap, he, hc1, hc2, hc3, hcell⟩
        · simp at hlt
        rcases hr7 with ⟨rfl, _⟩ | ⟨_, b2, off2, cap2, he2, hd1, hd2, hd3, hcell2⟩
        · simp at hlt
        injection he with e1 e2 e3
        injection he2 with f1 f2 f3
        exact ⟨b0, off, b2, off2, e1, f1, fun kk h j u hu => ⟨hcell kk h j u hu, hcell2 kk h j u hu⟩⟩
      have HC := Lib.hid HCC
      clear HCC hg7
      go_wp2_with fail
      go_loopw [39] (fun iv wr => ∃ k : Nat, k ≤ out.length ∧ iv = .int .i64 k ∧ Below w7.heap.size w7 wr) (fun iv _ => out.length - (intOf iv).toNat)
      case atStart => exact ⟨0, Nat.zero_le _, rfl, Below.refl _ _⟩
      case round =>
        obtain ⟨kk, hk, rfl, hbw⟩ := hrel
        by_cases hlt : kk < out.length
        · obtain ⟨b0, off, b2, off2, rfl, rfl, hcell⟩ := HC.out (by omega)
          have cc' : ∀ j u, (ckL out[kk])[j]? = some u → wr.cell? ⟨b0, off + kk * 9 + j, none⟩ = some u := fun j u hu => (brl hbw _ _ (cell_lt (hcell kk hlt j u hu).1)).trans (hcell kk hlt j u hu).1
          have dd : ∀ j u, (ckL out[kk])[j]? = some u → wr.cell? ⟨b2, off2 + kk * 9 + j, none⟩ = some u := fun j u hu => (brl hbw _ _ (cell_lt (hcell kk hlt j u hu).2)).trans (hcell kk hlt j u hu).2
          obtain ⟨y, hy⟩ : ∃ y, out[kk] = y := ⟨_, rfl⟩
          rw [hy] at cc' dd
          clear hy hcell
          obtain ⟨yn, yv, yd, yp, yho, yse, yhi, yex, ycr⟩ := y
          have c0 := cc' 0 _ rfl
          have c1 := cc' 1 _ rfl
          have c2 := cc' 2 _ rfl
          have c3 := cc' 3 _ rfl
          have c4 := cc' 4 _ rfl
          have c5 := cc' 5 _ rfl
          have c6 := cc' 6 _ rfl
          have c7 := cc' 7 _ rfl
          have c8 := cc' 8 _ rfl
          have d0 := dd 0 _ rfl
          have d1 := dd 1 _ rfl
          have d2 := dd 2 _ rfl
          have d3 := dd 3 _ rfl
          have d4 := dd 4 _ rfl
          have d5 := dd 5 _ rfl
          have d6 := dd 6 _ rfl
          have d7 := dd 7 _ rfl
          have d8 := dd 8 _ rfl
          simp only [Nat.add_zero] at c0 d0
          clear cc' dd
          have hki : (kk : Int) < (out.length : Int) := by omega
          go_wp2_with fail
          go_quiet (fail)
          go_wp2_with fail
          go_roundw
          case rel => exact ⟨kk + 1, by omega, by go_num, below_drewN hbw _⟩
          case measure => simp [intOf]; omega
        · obtain rfl : kk = out.length := by omega
          have A8 := A7.next hbw
          have X8 := X7.next hbw
          have J8 := J7.next hbw
          have hM8 := hM7.below hbw (Nat.le_refl _)
          have hv8 := hv7.below hbw (Nat.le_refl _)
          have hw8 := hw7.below hbw (Nat.le_refl _)
          have hr8 := hr7.below hbw (Nat.le_refl _)
          have hB8 := hB7.trans (hbw.mono hB7.size)
          clear A7 X7 J7 hM7 hv7 hw7 hr7 hB7 hbw HC
          have z0 := A8.c 0 rfl; have z1 := A8.c 1 rfl; have z2 := A8.c 2 rfl; have z3 := A8.c 3 rfl; have z4 := A8.c 4 rfl; have z5 := A8.c 5 rfl; have z6 := A8.c 6 rfl
          have al8 := A8.lt
          go_wp2_with (first
            | (go_at_call 21; with_reducible refine (CH.out _ _ _ X hM8 hv8 X8).mono ?_; rintro x w9 ⟨rfl, hb9⟩; have hr9 := hr8.below hb9 (Nat.le_refl _))
            | (go_at_call 26; with_reducible refine (CT1.out _ _ hr9).mono ?_; rintro x w10 ⟨rfl, hb10⟩; have hba := hb9.trans (hb10.mono hb9.size); have A10 := A8.next hba; have X10 := X8.next hba; have hMa := hM8.below hba (Nat.le_refl _); have hva := hv8.below hba (Nat.le_refl _); have y0 := A10.c 0 rfl; have y1 := A10.c 1 rfl; have y2 := A10.c 2 rfl; have y3 := A10.c 3 rfl; have y4 := A10.c 4 rfl; have y5 := A10.c 5 rfl; have y6 := A10.c 6 rfl; have ala := A10.lt)
            | (go_at_call 27; with_reducible refine (CSc.out _ _ _ X hMa hva X10).mono ?_; rintro x w11 ⟨rfl, hb11⟩; have hbb := hba.trans (hb11.mono hba.size); have hr11 := hr8.below hbb (Nat.le_refl _))
            | (go_at_call 26; with_reducible refine (CT2.out _ _ hr11).mono ?_; rintro x w12 ⟨rfl, hb12⟩; have hbc := hbb.trans (hb12.mono hbb.size); have X12 := X8.next hbc; have J12 := J8.next hbc; have hvc := hv8.below hbc (Nat.le_refl _); have hwc := hw8.below hbc (Nat.le_refl _); have x0 := X12.c 0 rfl; have x1 := X12.c 1 rfl; have j0 := J12.c 0 rfl; have j1 := J12.c 1 rfl; have xlc := X12.lt; have jlc := J12.lt)
            | (go_at_call 28; with_reducible refine (CSm.out _ _ _ _ _ hvc hwc (by omega)).mono ?_; rintro x w13 ⟨rfl, hb13⟩))
          go_ret
          exact ⟨rfl, hB8.trans ((hbc.trans (hb13.mono hbc.size)).mono hB8.size)⟩
end Go.Proofs.YtgjooigolgdocaaGreatDoor
