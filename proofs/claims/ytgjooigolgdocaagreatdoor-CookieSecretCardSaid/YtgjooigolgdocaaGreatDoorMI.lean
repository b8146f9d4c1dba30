/- CookieSecret: the law. -/
import Derived.Test.YtgjooigolgdocaaGreatDoorGM
import Derived.Test.YtgjooigolgdocaaGreatDoorG2
import Derived.Deep.CutRange
import Derived.BigQuiet
namespace Go.Proofs.YtgjooigolgdocaaGreatDoor
set_option linter.unusedVariables false
set_option linter.unusedSimpArgs false
open Go.RowKit Go.Sort

theorem open_step (a : ByteArray) (l M : List Ck) (k : Nat) (h : k < l.length) (y : Ck) (hy : l[k] = y) (hM : M = (l.take k).filter (openB a)) (b : Bool) (hb : openB a y = b) : (l.take (k + 1)).filter (openB a) = M ++ (if b then [y] else []) := by
  rw [hM]; exact take_hit (openB a) l k h y hy b hb
theorem s7_mk {W w' : World} {A : Nat} {a b c d e f g : Value} (h : AtL W A [a, b, c, d, e, f, g]) (hb : Below W.heap.size W w') : w'.cell? ⟨A, 0, none⟩ = some a ∧ w'.cell? ⟨A, 1, none⟩ = some b ∧ w'.cell? ⟨A, 2, none⟩ = some c ∧ w'.cell? ⟨A, 3, none⟩ = some d ∧ w'.cell? ⟨A, 4, none⟩ = some e ∧ w'.cell? ⟨A, 5, none⟩ = some f ∧ w'.cell? ⟨A, 6, none⟩ = some g := sa_mk' h hb
set_option maxRecDepth 20000 in
set_option maxHeartbeats 4000000 in
theorem cookiesecret_law (l : List Ck) (v : Value) (nx : Int) (a b cc d e f : ByteArray) (now : Int) (w : World) (hM : MaxAt w) (hv : SlK ckL 9 w v l) (hln : l.length ≤ 9223372036854775807) (hcz : ∀ c ∈ l, lenC c ≤ 4611686018427387904) :
    Calls Tryz.prog 7 #[.agg #[v, .int .i64 nx], askA a b cc d e f now] w fun x w' => x = .returned (.bool true) ∧ Below w.heap.size w w' := by
  have J0 := (AtL.new w [v, .int .i64 nx] 38).alloc (.cells (askL a b cc d e f now).toArray 25)
  have A0 := AtL.new (w.alloc (.cells [v, .int .i64 nx].toArray 38)) (askL a b cc d e f now) 25
  rw [show (w.alloc (.cells [v, .int .i64 nx].toArray 38)).heap.size = w.heap.size + 1 by simp] at A0
  have hB0 : Below w.heap.size w ((w.alloc (.cells [v, .int .i64 nx].toArray 38)).alloc (.cells (askL a b cc d e f now).toArray 25)) := ((Below.refl _ w).alloc (Nat.le_refl _) _).alloc (by simp) _
  have hM0 := hM.below hB0 (Nat.le_refl _)
  have hv0 := hv.below hB0 (Nat.le_refl _)
  have CF := Lib.hid (fit_any _ hM0)
  obtain ⟨F, hF⟩ : ∃ F, fewB l nx = F := ⟨_, rfl⟩
  have CW := Lib.hid (fun w hv => cfew_is l v nx w hv hln hcz F hF)
  have cS := fun w => asmall_any a b cc d e f now w
  obtain ⟨S, hS⟩ : ∃ S, shortB a b cc d e f = S := ⟨_, rfl⟩
  rw [hS] at cS
  have CS := Lib.hid cS
  have CC := Lib.hid (fun (w : World) (hv : SlK ckL 9 w v l) (hl : l.length ≤ 1000) => clone_is l v nx w hv hl)
  obtain ⟨sa, sl, rfl, _⟩ := hv.shape
  cases F with
  | false =>
    clear cS hM hM0 CC hv hln hcz hF hS CS
    go_enter Tryz.func7, Tryz.ntmps7
    go_wp2_with (first
      | (go_at_call 10; with_reducible refine CF.out.mono ?_; rintro x w1 ⟨rfl, hb1⟩; have J1 := J0.next hb1; have A1 := A0.next hb1; have hB1 := hB0.trans (hb1.mono hB0.size); have hv1 := hv0.below hb1 (Nat.le_refl _); have j0 := J1.c 0 rfl; have j1 := J1.c 1 rfl; have z0 := A1.c 0 rfl; have z1 := A1.c 1 rfl; have z2 := A1.c 2 rfl; have z3 := A1.c 3 rfl; have z4 := A1.c 4 rfl; have z5 := A1.c 5 rfl; have z6 := A1.c 6 rfl; have jl1 := J1.lt; have al1 := A1.lt)
      | (go_at_call 22; with_reducible refine (CW.out _ hv1).mono ?_; rintro x w2 ⟨rfl, hb2⟩))
    go_ret
    exact ⟨rfl, hB1.trans (hb2.mono hB1.size)⟩
  | true =>
    have hfF := few_fact hF
    have hSZ := Lib.hid (few_szs hF)
    have hl202 := hfF.2.1
    cases S with
    | false =>
      clear cS hM hM0 CC hv hln hcz hF hS hfF
      go_enter Tryz.func7, Tryz.ntmps7
      go_wp2_with (first
        | (go_at_call 10; with_reducible refine CF.out.mono ?_; rintro x w1 ⟨rfl, hb1⟩; have J1 := J0.next hb1; have A1 := A0.next hb1; have hB1 := hB0.trans (hb1.mono hB0.size); have hv1 := hv0.below hb1 (Nat.le_refl _); have j0 := J1.c 0 rfl; have j1 := J1.c 1 rfl; have z0 := A1.c 0 rfl; have z1 := A1.c 1 rfl; have z2 := A1.c 2 rfl; have z3 := A1.c 3 rfl; have z4 := A1.c 4 rfl; have z5 := A1.c 5 rfl; have z6 := A1.c 6 rfl; have jl1 := J1.lt; have al1 := A1.lt)
        | (go_at_call 22; with_reducible refine (CW.out _ hv1).mono ?_; rintro x w2 ⟨rfl, hb2⟩; have A2 := A1.next hb2; have hB2 := hB1.trans (hb2.mono hB1.size); have y0 := A2.c 0 rfl; have y1 := A2.c 1 rfl; have y2 := A2.c 2 rfl; have y3 := A2.c 3 rfl; have y4 := A2.c 4 rfl; have y5 := A2.c 5 rfl; have y6 := A2.c 6 rfl; have al2 := A2.lt)
        | (go_at_call 11; with_reducible refine (CS.out _).mono ?_; rintro x w3 ⟨rfl, hb3⟩))
      go_ret
      exact ⟨rfl, hB2.trans (hb3.mono hB2.size)⟩
    | true =>
      have hz := short_size hS
      obtain ⟨T, hT⟩ : ∃ T, takesB (u6 a b cc d e f) = T := ⟨_, rfl⟩
      have HZ := Lib.hid hz
      have HT := Lib.hid hT
      clear cS hM hv hln hcz hF hS hfF hz hT
      go_enter Tryz.func7, Tryz.ntmps7
      go_upto_region 5 with (first
        | (go_at_call 10; with_reducible refine CF.out.mono ?_; rintro x w1 ⟨rfl, hb1⟩; have A1 := A0.next hb1; have J1 := J0.next hb1; have hB1 := hB0.trans (hb1.mono hB0.size); have hM1 := hM0.below hb1 (Nat.le_refl _); have hv1 := hv0.below hb1 (Nat.le_refl _); have z0 := A1.c 0 rfl; have z1 := A1.c 1 rfl; have z2 := A1.c 2 rfl; have z3 := A1.c 3 rfl; have z4 := A1.c 4 rfl; have z5 := A1.c 5 rfl; have z6 := A1.c 6 rfl; have j0 := J1.c 0 rfl; have j1 := J1.c 1 rfl; have hl1 := A1.lt; have jl1 := J1.lt)
        | (go_at_call 22; with_reducible refine (CW.out _ hv1).mono ?_; rintro x w2 ⟨rfl, hb2⟩; have A2 := A1.next hb2; have J2 := J1.next hb2; have hB2 := hB1.trans (hb2.mono hB1.size); have hM2 := hM1.below hb2 (Nat.le_refl _); have hv2 := hv1.below hb2 (Nat.le_refl _); have y0 := A2.c 0 rfl; have y1 := A2.c 1 rfl; have y2 := A2.c 2 rfl; have y3 := A2.c 3 rfl; have y4 := A2.c 4 rfl; have y5 := A2.c 5 rfl; have y6 := A2.c 6 rfl; have i0 := J2.c 0 rfl; have i1 := J2.c 1 rfl; have hl2 := A2.lt; have jl2 := J2.lt)
        | (go_at_call 11; with_reducible refine (CS.out _).mono ?_; rintro x w3 ⟨rfl, hb3⟩; have A3 := A2.next hb3; have J3 := J2.next hb3; have hB3 := hB2.trans (hb3.mono hB2.size); have hM3 := hM2.below hb3 (Nat.le_refl _); have hv3 := hv2.below hb3 (Nat.le_refl _); have hl3 := A3.lt; have jl3 := J3.lt))
      have hl1000 : l.length ≤ 1000 := by omega
      obtain ⟨J, hJ⟩ : ∃ J, w.heap.size = J := ⟨_, rfl⟩
      obtain ⟨A, hA⟩ : ∃ A, w.heap.size + 1 = A := ⟨_, rfl⟩
      rw [hA] at A3
      rw [hJ] at J3
      rw [hA, hJ]
      have HJ := Lib.hid hJ
      have HA := Lib.hid hA
      have hJl := J3.lt
      have hAl := A3.lt
      clear hJ hA A0 A1 A2 J0 J1 J2 hB0 hB1 hB2 hM0 hM1 hM2 hv0 hv1 hv2 CF CW CS hb1 hb2 hb3 z0 z1 z2 z3 z4 z5 z6 y0 y1 y2 y3 y4 y5 y6 j0 j1 i0 i1 hl1 hl2 jl1 jl2 hl3 jl3
      obtain ⟨out, hout⟩ : ∃ out, l.filter (openB a) = out := ⟨_, rfl⟩
      have hol : out.length ≤ l.length := by rw [← hout]; exact List.length_filter_le _ _
      have hsz2 : Szs out := fun c hc => hSZ.out c (by rw [← hout] at hc; exact (List.mem_filter.1 hc).1)
      obtain ⟨R1, hR1⟩ : ∃ R1 : ByteArray, R1.data.toList = joinL (matchL T a b d now out) := ⟨⟨(joinL (matchL T a b d now out)).toArray⟩, rfl⟩
      have hR2 : R1.data.toList = joinL (shownL true (matchL T a b d now l)) := by rw [hR1, ← hout, match_open]
      have hR3 : R1.data.toList = joinL (shownL true (matchL T a b d now out)) := by rw [hR1, ← hout, match_open2]
      have CS1 := Lib.hid (fun (w : World) (v nx : Value) (jb : Nat) hM hv hJ => script_any T a b cc d e f now HT.out l v nx jb w HZ.out hM hv hJ hl1000 hSZ.out R1 hR2)
      have CS2 := Lib.hid (fun (w : World) (v nx : Value) (jb : Nat) hM hv hJ => script_any T a b cc d e f now HT.out out v nx jb w HZ.out hM hv hJ (by omega) hsz2 R1 hR3)
      have CH2 := Lib.hid (fun (w : World) (v nx : Value) (jb : Nat) hM hv hJ => header_any T a b cc d e f now HT.out out v nx jb w HZ.out hM hv hJ (by omega) hsz2 R1 hR1)
      have HOUT := Lib.hid hout
      have HOL := Lib.hid hol
      clear hR1 hR2 hR3 hsz2 hout hol CC
      have j0 := J3.c 0 rfl; have j1 := J3.c 1 rfl
      have z0 := A3.c 0 rfl; have z1 := A3.c 1 rfl; have z2 := A3.c 2 rfl; have z3 := A3.c 3 rfl; have z4 := A3.c 4 rfl; have z5 := A3.c 5 rfl; have z6 := A3.c 6 rfl
      go_wp2_with fail
      have O4 := AtL.new w3 [.slice none 0 0, .int .i64 0] 38
      have hb4 : Below w3.heap.size w3 (w3.alloc (.cells [.slice none 0 0, .int .i64 0].toArray 38)) := (Below.refl _ w3).alloc (Nat.le_refl _) _
      obtain ⟨w4, hw4⟩ : ∃ w4 : World, w3.alloc (.cells [.slice none 0 0, .int .i64 0].toArray 38) = w4 := ⟨_, rfl⟩
      have hz4 : w3.heap.size < w4.heap.size := by rw [← hw4]; simp
      obtain ⟨O, hO⟩ : ∃ O, w3.heap.size = O := ⟨_, rfl⟩
      rw [hw4] at O4 hb4
      rw [hO] at O4 hb4 hz4 hAl hJl
      rw [hw4, hO]
      have A4 := A3.below hb4 hAl
      have J4 := J3.below hb4 hJl
      have hv4 := hv3.below hb4 (Nat.le_of_eq hO)
      have hM4 := hM3.below hb4 (Nat.le_of_eq hO)
      have HO := Lib.hid hO
      clear hw4 z0 z1 z2 z3 z4 z5 z6 j0 j1 hO
      go_loopw [21] (fun iv wr => ∃ (k : Nat) (vo : Value) (M : List Ck), k ≤ l.length ∧ iv = .int .i64 k ∧ Hid (M = (l.take k).filter (openB a)) ∧ M.length ≤ k ∧ AtL wr O [vo, .int .i64 0] ∧ wr.ownsRow (O + 1) 29 9 vo M.length (cellsK ckL M) ∧ Below O w4 wr) (fun iv _ => l.length - (intOf iv).toNat)
      case atStart => exact ⟨0, _, [], Nat.zero_le _, rfl, Lib.hid rfl, Nat.le_refl _, O4, World.ownsRow_nil _ _ _ _, Below.refl _ _⟩
      case round =>
        obtain ⟨kk, vo, M, hk, rfl, HM, hpl, OR, hown, hbw⟩ := hrel
        have AR := A4.below hbw hAl
        have JR := J4.below hbw hJl
        obtain ⟨oa, oc, rfl, _⟩ := own_reads hown
        by_cases hlt : kk < l.length
        · have hv5 := hv4
          rcases hv5 with ⟨rfl, _⟩ | ⟨_, b0, off, cap, he, hc1, hc2, hc3, hcell⟩
          · simp at hlt
          injection he with e1 e2 e3
          subst e1 e3
          have hb0 : b0 < O := by
            rcases hv3 with ⟨rfl, _⟩ | ⟨_, b0', off', cap', he', _, _, hc3', _⟩
            · simp at hlt
            injection he' with e1 _ _
            injection e1 with e1
            injection e1 with e1 _
            have := HO.out
            omega
          have cc' : ∀ j u, (ckL l[kk])[j]? = some u → wr.cell? ⟨b0, off + kk * 9 + j, none⟩ = some u := fun j u hu => (hbw.cell (p := ⟨b0, off + kk * 9 + j, none⟩) hb0).trans (hcell kk hlt j u hu)
          obtain ⟨y, hy⟩ : ∃ y, l[kk] = y := ⟨_, rfl⟩
          rw [hy] at cc'
          have hst := open_step a l M kk hlt y hy HM.out
          clear hcell hy
          obtain ⟨yn, yv, yd, yp, yho, yse, yhi, yex, ycr⟩ := y
          have c0 := cc' 0 _ rfl
          have c1 := cc' 1 _ rfl
          have c2 := cc' 2 _ rfl
          have c3 := cc' 3 _ rfl
          have c4 := cc' 4 _ rfl
          have c5 := cc' 5 _ rfl
          have c6 := cc' 6 _ rfl
          have c7 := cc' 7 _ rfl
          have c8 := cc' 8 _ rfl
          simp only [Nat.add_zero] at c0
          clear cc'
          have KA := AtL.new wr (ckL ⟨yn, yv, yd, yp, yho, yse, yhi, yex, ycr⟩) 29
          have hal := (Below.refl _ wr).alloc (Nat.le_refl _) (.cells (ckL ⟨yn, yv, yd, yp, yho, yse, yhi, yex, ycr⟩).toArray 29)
          have AA := AR.next hal
          have hki : (kk : Int) < (l.length : Int) := by omega
          have y0 := AA.c 0 rfl; have y1 := AA.c 1 rfl; have y2 := AA.c 2 rfl; have y3 := AA.c 3 rfl; have y4 := AA.c 4 rfl; have y5 := AA.c 5 rfl; have y6 := AA.c 6 rfl
          have ala := AA.lt
          cases yhi
          · cases yse
            · have hst := hst true rfl
              have HST := Lib.hid hst
              clear hst
              have hz8 := Nat.le_trans (Nat.succ_le_of_lt OR.lt) hal.size
              have hob : M.length ≤ 1000 := by omega
              have oA := own_below hown hal (Nat.le_refl _)
              have OA := OR.next hal
              have o0 := OA.c 0 rfl
              have q0 := OA.f 0 rfl
              have ol := OA.lt
              go_wp2_with (refine app2 slC _ (by rfl) (.tmp 40) (.tmp 42) (by rfl) (O + 1) _ _ _ (by rfl) oA [_, _, _, _, _, _, _, _, _] 1 _ (by rfl) (by simp) (by rfl) (by intro u hu; simp at hu; rcases hu with rfl | rfl | rfl | rfl | rfl | rfl | rfl | rfl | rfl <;> rfl) (by decide) (by omega) (by omega) hz8 ?_; intro v2 w9 hA2 gA fA; obtain ⟨a9, c9, rfl, _⟩ := own_reads hA2; have hneO : (Value.slice oa M.length oc).ownBlock ≠ some O := (fun e => by have := own_base oA e; omega); have O9 := OA.grown gA hneO; have hB9 := below_own (hbw.trans (hal.mono (Nat.le_of_lt OR.lt))) oA gA (Nat.le_of_lt OA.lt) (Nat.le_succ O); have p0 := O9.c 0 rfl; have p1 := O9.f 0 rfl; have pl := O9.lt)
              have hne2 : (Value.slice a9 (M.length + 1) c9).ownBlock ≠ some O := fun e => by have := own_base hA2 e; omega
              go_roundw
              case rel => exact ⟨kk + 1, _, M ++ [⟨yn, yv, yd, yp, yho, _, _, yex, ycr⟩], by omega, by go_num, Lib.hid (by rw [HST.out]; rfl), by simp; omega, O9.set 0 _, own_eq (ownsRow_setCell_other (a := ⟨O, 0, none⟩) hA2 hne2 _) (by simp) (by rw [cellsK_app]; rfl), hB9.setCell (p := ⟨O, 0, none⟩) (Nat.le_refl O) _⟩
              case measure => simp [intOf]; omega
            · by_cases hsc : a.toList = httpsL
              · have hs2 : a.toList = [104, 116, 116, 112, 115] := hsc
                have hst := hst true (by unfold openB; simp [hsc])
                clear hsc
                have HST := Lib.hid hst
                clear hst
                have hz8 := Nat.le_trans (Nat.succ_le_of_lt OR.lt) hal.size
                have hob : M.length ≤ 1000 := by omega
                have oA := own_below hown hal (Nat.le_refl _)
                have OA := OR.next hal
                have o0 := OA.c 0 rfl
                have q0 := OA.f 0 rfl
                have ol := OA.lt
                go_wp2_with (refine app2 slC _ (by rfl) (.tmp 40) (.tmp 42) (by rfl) (O + 1) _ _ _ (by rfl) oA [_, _, _, _, _, _, _, _, _] 1 _ (by rfl) (by simp) (by rfl) (by intro u hu; simp at hu; rcases hu with rfl | rfl | rfl | rfl | rfl | rfl | rfl | rfl | rfl <;> rfl) (by decide) (by omega) (by omega) hz8 ?_; intro v2 w9 hA2 gA fA; obtain ⟨a9, c9, rfl, _⟩ := own_reads hA2; have hneO : (Value.slice oa M.length oc).ownBlock ≠ some O := (fun e => by have := own_base oA e; omega); have O9 := OA.grown gA hneO; have hB9 := below_own (hbw.trans (hal.mono (Nat.le_of_lt OR.lt))) oA gA (Nat.le_of_lt OA.lt) (Nat.le_succ O); have p0 := O9.c 0 rfl; have p1 := O9.f 0 rfl; have pl := O9.lt)
                have hne2 : (Value.slice a9 (M.length + 1) c9).ownBlock ≠ some O := fun e => by have := own_base hA2 e; omega
                go_roundw
                case rel => exact ⟨kk + 1, _, M ++ [⟨yn, yv, yd, yp, yho, _, _, yex, ycr⟩], by omega, by go_num, Lib.hid (by rw [HST.out]; rfl), by simp; omega, O9.set 0 _, own_eq (ownsRow_setCell_other (a := ⟨O, 0, none⟩) hA2 hne2 _) (by simp) (by rw [cellsK_app]; rfl), hB9.setCell (p := ⟨O, 0, none⟩) (Nat.le_refl O) _⟩
                case measure => simp [intOf]; omega
              · have hs2 : ¬ a.toList = [104, 116, 116, 112, 115] := hsc
                have hs3 : (a.toList == [104, 116, 116, 112, 115]) = false := beq_eq_false_iff_ne.2 hs2
                have hst := hst false (by unfold openB; simp [hsc])
                clear hsc
                have HST := Lib.hid hst
                clear hst
                go_wp2_with fail
                go_roundw
                case rel => exact ⟨kk + 1, _, M, by omega, by go_num, Lib.hid (by rw [HST.out]; simp), by omega, OR.next hal, own_below hown hal (Nat.le_refl _), hbw.trans (hal.mono (Nat.le_of_lt OR.lt))⟩
                case measure => simp [intOf]; omega
          · have hst := hst false rfl
            have HST := Lib.hid hst
            clear hst
            go_wp2_with fail
            go_roundw
            case rel => exact ⟨kk + 1, _, M, by omega, by go_num, Lib.hid (by rw [HST.out]; simp), by omega, OR.next hal, own_below hown hal (Nat.le_refl _), hbw.trans (hal.mono (Nat.le_of_lt OR.lt))⟩
            case measure => simp [intOf]; omega
        · obtain rfl : kk = l.length := by omega
          have hM := HM.out
          rw [List.take_length, HOUT.out] at hM
          subst hM
          clear HM
          have hb4r := hb4.trans hbw
          have hMr := hM3.below hb4r (Nat.le_of_eq HO.out)
          have hv3r := hv3.below hb4r (Nat.le_of_eq HO.out)
          have hvo := SlK.of_own ckL_len hown
          have z0 := AR.c 0 rfl; have z1 := AR.c 1 rfl; have z2 := AR.c 2 rfl; have z3 := AR.c 3 rfl; have z4 := AR.c 4 rfl; have z5 := AR.c 5 rfl; have z6 := AR.c 6 rfl
          have alr := AR.lt
          have hMd := hMr.below (Below.refl _ wr).drew (Nat.le_refl _)
          have hvd := hv3r.below (Below.refl _ wr).drew (Nat.le_refl _)
          have JRd := JR.drew
          clear hM3 hv3 hv4 hM4 hv3r HOL
          go_wp2_with fail
          go_region_held3 (fun w' => w'.cell? ⟨A, 0, none⟩ = some (.string a) ∧ w'.cell? ⟨A, 1, none⟩ = some (.string b) ∧ w'.cell? ⟨A, 2, none⟩ = some (.string cc) ∧ w'.cell? ⟨A, 3, none⟩ = some (.string d) ∧ w'.cell? ⟨A, 4, none⟩ = some (.string e) ∧ w'.cell? ⟨A, 5, none⟩ = some (.string f) ∧ w'.cell? ⟨A, 6, none⟩ = some (.int .i64 now))
            (first | exact s7_mk AR (Below.refl _ wr).drew | exact s7_mk AR hb5 | exact s7_mk AR hb6 | exact s7_mk AR hb7 | exact s7_mk AR hb8 | go_keep)
            (first
              | (go_at_call 27; (with_reducible refine (CS1.out _ _ _ J hMd hvd JRd).mono ?_); rintro x w5 ⟨rfl, hbb5⟩; have hb5 := (Below.refl _ wr).drew.trans hbb5; have hM5 := hMr.below hb5 (Nat.le_refl _); have hv5 := hvo.below hb5 (Nat.le_refl _); have O5 := OR.next hb5)
              | (go_at_call 21; (with_reducible refine (CH2.out _ _ _ O hM5 hv5 O5).mono ?_); rintro x w6 ⟨rfl, hbb6⟩; have hb6 := hb5.trans (hbb6.mono hb5.size); have hM6 := hMr.below hb6 (Nat.le_refl _); have hv6 := hvo.below hb6 (Nat.le_refl _); have O6 := OR.next hb6)
              | (go_at_call 27; (with_reducible refine (CS2.out _ _ _ O hM6 hv6 O6).mono ?_); rintro x w7 ⟨rfl, hbb7⟩; have hb7 := hb6.trans (hbb7.mono hb6.size); have hM7 := hMr.below hb7 (Nat.le_refl _); have hv7 := hvo.below hb7 (Nat.le_refl _); have O7 := OR.next hb7)
              | (go_at_call 21; (with_reducible refine (CH2.out _ _ _ O hM7 hv7 O7).mono ?_); rintro x w8 ⟨rfl, hbb8⟩; have hb8 := hb7.trans (hbb8.mono hb7.size)))
          go_wp2_with fail
          go_ret
          exact ⟨rfl, hB3.trans ((hb4r.trans (hb8.mono (Nat.le_of_lt OR.lt))).mono (Nat.le_trans hB3.size (Nat.le_of_eq HO.out)))⟩
end Go.Proofs.YtgjooigolgdocaaGreatDoor
