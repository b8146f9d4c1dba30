/- Cookies: the reference's Set: a cookie that has expired. -/
import Derived.Test.YtgjooigolgdocaaGreatDoorG7
import Derived.Deep.DeepCutAuto
namespace Go.Proofs.YtgjooigolgdocaaGreatDoor
set_option linter.unusedVariables false
set_option linter.unusedSimpArgs false
open Go.RowKit
theorem filt_step (p : Ck → Bool) (l M : List Ck) (k : Nat) (h : k < l.length) (y : Ck) (hy : l[k] = y) (R : Bool) (hR : p y = R) (hM : M = (l.take k).filter (fun z => !p z)) : (if R then M else M ++ [y]) = (l.take (k + 1)).filter (fun z => !p z) := by
  subst hy hR
  rw [List.take_succ_eq_append_getElem h, List.filter_append, ← hM]
  cases hp : p l[k] <;> simp [hp]
set_option maxRecDepth 20000 in
set_option maxHeartbeats 8000000 in
theorem rset_gone (s a b cc d e f : ByteArray) (now : Int) (T : Bool) (hT : takesB (u6 a b cc d e f) = T) (c : Ck) (hR : parseC s.data.toList T a b d now = (c, 0)) (w : World) (hs : s.size ≤ 100000) (hz : USize 40000 a b cc d e f) (hM : MaxAt w) (v : Value) (l : List Ck) (nx : Int)
    (hv : SlK ckL 9 w v l) (hll : l.length ≤ 1000) (sc : Bool) (kI : Int) (hid : idxI (sameB c) l = kI) (hex : exB c now = true)
    (hOK : (sc = false ∨ c.hi = false) ∧ (kI = -1 ∨ ∃ kk : Nat, ∃ h : kk < l.length, kI = kk ∧ (sc = false ∨ l[kk].hi = false) ∧ OpenS a l[kk])) :
    Calls Tryz.prog 32 #[.agg #[v, .int .i64 nx], .string s, urlA a b cc d e f, .int .i64 now, .bool sc] w (RsQ w (l.filter (fun z => !sameB c z)) nx 0) := by
  have HID := Lib.hid hid
  have HOK := Lib.hid hOK
  have CE := Lib.hid (fun w => rexpired_is c now true hex w)
  clear hid hOK hex
  have CP := Lib.hid (fun w hM => rparse_ex s a b cc d e f now T hT c 0 hR w hs hz hM)
  have CA := Lib.hid (fun (y : Ck) (R : Bool) (h : sameB c y = R) (X : Int) (W : World) => alike_is y { c with cr := X } R (by rw [← h]; exact sameB_comm y c) W)
  have hb0 : Below w.heap.size w (((w.alloc (.cells [v, .int .i64 nx].toArray 46)).alloc (.cells (urlL a b cc d e f).toArray 23)).alloc (.cells [.slice none 0 0, .int .i64 0].toArray 46)) := (((Below.refl _ w).alloc (Nat.le_refl _) _).alloc (by simp) _).alloc (by simp; omega) _
  have J0 := ((AtL.new w [v, .int .i64 nx] 46).alloc (.cells (urlL a b cc d e f).toArray 23)).alloc (.cells [.slice none 0 0, .int .i64 0].toArray 46)
  have I0 := (AtL.new (w.alloc (.cells [v, .int .i64 nx].toArray 46)) (urlL a b cc d e f) 23).alloc (.cells [.slice none 0 0, .int .i64 0].toArray 46)
  have O0 := AtL.new ((w.alloc (.cells [v, .int .i64 nx].toArray 46)).alloc (.cells (urlL a b cc d e f).toArray 23)) [.slice none 0 0, .int .i64 0] 46
  rw [show (w.alloc (.cells [v, .int .i64 nx].toArray 46)).heap.size = w.heap.size + 1 by simp] at I0
  rw [show ((w.alloc (.cells [v, .int .i64 nx].toArray 46)).alloc (.cells (urlL a b cc d e f).toArray 23)).heap.size = w.heap.size + 1 + 1 by simp] at O0
  have hM0 := hM.below hb0 (Nat.le_refl _)
  have hv0 := hv.below hb0 (Nat.le_refl _)
  obtain ⟨sa, sl, rfl, _⟩ := hv.shape
  have HBW := Lib.hid hv.base
  clear hR hT hs hz hM hv
  go_enter Tryz.func32, Tryz.ntmps32
  go_wp2_with fail
  obtain ⟨w0, hw0⟩ : ∃ w0 : World, ((w.alloc (.cells [.slice sa l.length sl, .int .i64 nx].toArray 46)).alloc (.cells (urlL a b cc d e f).toArray 23)).alloc (.cells [.slice none 0 0, .int .i64 0].toArray 46) = w0 := ⟨_, rfl⟩
  obtain ⟨O, hO⟩ : ∃ O, w.heap.size + 1 + 1 = O := ⟨_, rfl⟩
  obtain ⟨I, hI⟩ : ∃ I, w.heap.size + 1 = I := ⟨_, rfl⟩
  obtain ⟨J, hJ⟩ : ∃ J, w.heap.size = J := ⟨_, rfl⟩
  have hJI : J < I := by omega
  have hIO : I < O := by omega
  have hgw0 : w.heap.size ≤ J := by omega
  rw [hw0] at J0 I0 O0 hb0 hM0 hv0
  rw [hO] at O0
  rw [hI] at I0
  rw [hJ] at J0
  rw [hw0, hO, hI, hJ]
  have HJ := Lib.hid hJ
  clear hw0 hO hI hJ
  have j0 := J0.c 0 rfl; have j1 := J0.c 1 rfl
  have u0 := I0.c 0 rfl; have u1 := I0.c 1 rfl; have u2 := I0.c 2 rfl; have u3 := I0.c 3 rfl; have u4 := I0.c 4 rfl; have u5 := I0.c 5 rfl
  have jl0 := J0.lt
  have il0 := I0.lt
  have ol0 := O0.lt
  go_wp2_with (go_at_call 13; with_reducible refine (CP.out _ hM0).mono ?_; rintro x w1 ⟨rfl, hb1⟩; have hal : Below w1.heap.size w1 (w1.alloc (.cells (ckL c).toArray 29)) := (Below.refl _ w1).alloc (Nat.le_refl _) _; have JA := (J0.next hb1).next hal; have IA := (I0.next hb1).next hal; have OA := (O0.next hb1).next hal; have KA := AtL.new w1 (ckL c) 29; have hvA := (hv0.below hb1 (Nat.le_refl _)).below hal (Nat.le_refl _); have hB1 := hb0.trans (hb1.mono hb0.size); have hBA := hB1.trans (hal.mono hB1.size); have hOK := (O0.next hb1).lt; clear j0 j1 u0 u1 u2 u3 u4 u5; have j0 := JA.c 0 rfl; have j1 := JA.c 1 rfl; have u0 := IA.c 0 rfl; have u1 := IA.c 1 rfl; have u2 := IA.c 2 rfl; have u3 := IA.c 3 rfl; have u4 := IA.c 4 rfl; have u5 := IA.c 5 rfl; have jlA := JA.lt; have ilA := IA.lt)
  obtain ⟨wA, hwA⟩ : ∃ wA : World, w1.alloc (.cells (ckL c).toArray 29) = wA := ⟨_, rfl⟩
  obtain ⟨K, hK⟩ : ∃ K, w1.heap.size = K := ⟨_, rfl⟩
  rw [hwA] at JA IA OA KA hvA hBA j0 j1 u0 u1 u2 u3 u4 u5 jlA ilA
  rw [hK] at KA hOK
  rw [hwA, hK]
  clear hwA hK hal hb1 hb0 hM0 hv0 J0 I0 O0 hB1 jl0 il0 ol0
  clear j0 j1 u0 u1 u2 u3 u4 u5 jlA ilA
  have hROW : ∀ m (h : m < l.length), ∃ b0 off : Nat, sa = some ⟨b0, off, none⟩ ∧ b0 < J ∧ ∀ q u, (ckL l[m])[q]? = some u → wA.cell? ⟨b0, off + m * 9 + q, none⟩ = some u := fun m h => by
    rcases hvA with ⟨rfl, _⟩ | ⟨_, b0, off, cap, he, hc1, hc2, hc3, hcell⟩
    · simp at h
    injection he with e1 e2 e3
    exact ⟨b0, off, e1, by rw [← HJ.out]; exact HBW.out _ _ e1 (by omega), fun q u hu => hcell m h q u hu⟩
  have HROW := Lib.hid hROW
  clear hROW hvA
  have HLL := Lib.hid hll
  clear hll
  go_loopw [14, 15] (fun av iv wr => ∃ (k : Nat) (A i : Int), iv = .int .i64 i ∧ av = .int .i64 A ∧ k ≤ l.length ∧ DownI k i ∧ AtK (sameB c) l k A ∧ Below wA.heap.size wA wr) (fun _ iv _ => (intOf iv + 1).toNat)
  case atStart => exact ⟨l.length, -1, (l.length : Int) - 1, by go_num, rfl, Nat.le_refl _, down_pred l.length, atK_start _ _, Below.refl _ _⟩
  case round =>
    obtain ⟨k, A, i, rfl, rfl, hk, hd, hA, hbw⟩ := hrel
    have HA := Lib.hid hA
    clear hA
    have JB := JA.below hbw JA.lt
    have IB := IA.below hbw IA.lt
    have KB := KA.below hbw KA.lt
    have j0 := JB.c 0 rfl; have j1 := JB.c 1 rfl
    have z0 := KB.c 0 rfl; have z1 := KB.c 1 rfl; have z2 := KB.c 2 rfl; have z3 := KB.c 3 rfl; have z4 := KB.c 4 rfl; have z5 := KB.c 5 rfl; have z6 := KB.c 6 rfl; have z7 := KB.c 7 rfl; have z8 := KB.c 8 rfl
    have jlB := JB.lt
    have klB := KB.lt
    rcases hd with ⟨rfl, rfl⟩ | ⟨m, rfl, rfl⟩
    rotate_left
    · have hm : m < l.length := by omega
      have hmz : (m : Int) < (l.length : Int) := by omega
      have hm1000 : m ≤ 1000 := by have := HLL.out; omega
      obtain ⟨b0, off, rfl, hb0, hcell⟩ := HROW.out m hm
      have cc : ∀ j u, (ckL l[m])[j]? = some u → wr.cell? ⟨b0, off + m * 9 + j, none⟩ = some u := fun j u hu => (brl hbw _ _ (cell_lt (hcell j u hu))).trans (hcell j u hu)
      obtain ⟨y, hy⟩ : ∃ y, l[m] = y := ⟨_, rfl⟩
      rw [hy] at cc
      have HY := Lib.hid hy
      clear hy hcell
      obtain ⟨yn, yv, yd, yp, yho, yse, yhi, yex, ycr⟩ := y
      have c0 := cc 0 _ rfl
      have c1 := cc 1 _ rfl
      have c2 := cc 2 _ rfl
      have c3 := cc 3 _ rfl
      have c4 := cc 4 _ rfl
      have c5 := cc 5 _ rfl
      have c6 := cc 6 _ rfl
      have c7 := cc 7 _ rfl
      have c8 := cc 8 _ rfl
      simp only [Nat.add_zero] at c0
      clear cc
      obtain ⟨R, hR⟩ : ∃ R, sameB c ⟨yn, yv, yd, yp, yho, yse, yhi, yex, ycr⟩ = R := ⟨_, rfl⟩
      have CAR := Lib.hid (fun W => CA.out _ R hR c.cr W)
      have HR := Lib.hid hR
      clear hR
      cases R
      all_goals
        go_wp2_with fail
        go_region_with (go_at_call 71; with_reducible refine (CAR.out _).mono ?_; rintro x w2 ⟨rfl, hb2⟩)
        all_goals
          go_wp2_with fail
          go_roundw
          case rel => exact ⟨m, _, (m : Int) - 1, by go_num, by go_num, by omega, down_pred m, by first | exact atK_miss HA.out hm (by rw [HY.out]; exact HR.out) | exact atK_hit hm (by rw [HY.out]; exact HR.out), hbw.trans ((Below.refl _ wr).drew.trans hb2 |>.mono hbw.size)⟩
          case measure => first | (simp [intOf]; done) | (simp [intOf]; omega)
    · have hA0 := atK_zero HA.out
      rw [HID.out] at hA0
      subst hA0
      clear HA
      have u0 := IB.c 0 rfl; have u1 := IB.c 1 rfl; have u2 := IB.c 2 rfl; have u3 := IB.c 3 rfl; have u4 := IB.c 4 rfl; have u5 := IB.c 5 rfl
      have ilB := IB.lt
      have hBB := hBA.trans (hbw.mono hBA.size)
      go_upto_region 10 with fail
      go_cut [79] (fun p79 wx => Value.bool false = p79 ∧ wr = wx)
      case first =>
        rcases HOK.out with ⟨h1, h2⟩
        rcases h2 with hm | ⟨kk, hkl, hkI, hh, hop⟩
        · subst hm
          rcases h1 with rfl | hc
          · go_wp2_with fail
            go_meet
            case rel => exact ⟨rfl, rfl⟩
          · rw [hc] at z6
            cases sc
            all_goals
              go_wp2_with fail
              go_meet
              case rel => exact ⟨rfl, rfl⟩
        · subst hkI
          obtain ⟨b0, off, rfl, hb0, hcell⟩ := HROW.out kk hkl
          have cc : ∀ j u, (ckL l[kk])[j]? = some u → wr.cell? ⟨b0, off + kk * 9 + j, none⟩ = some u := fun j u hu => (brl hbw _ _ (cell_lt (hcell j u hu))).trans (hcell j u hu)
          have y5 := cc 5 _ rfl
          have y6 := cc 6 _ rfl
          clear cc hcell
          have hkz : (kk : Int) < (l.length : Int) := by omega
          have hk0 : (0 : Int) ≤ (kk : Int) := by omega
          rcases hop with hop | ⟨hop, hs2⟩
          · rw [hop] at y5
            rcases h1 with rfl | hc
            · go_wp2_with fail
              go_meet
              case rel => exact ⟨rfl, rfl⟩
            · rw [hc] at z6
              rcases hh with rfl | hh
              · go_wp2_with fail
                go_meet
                case rel => exact ⟨rfl, rfl⟩
              · rw [hh] at y6
                cases sc
                all_goals
                  go_wp2_with fail
                  go_meet
                  case rel => exact ⟨rfl, rfl⟩
          · rw [hop] at y5
            rcases h1 with rfl | hc
            · go_wp2_with fail
              go_meet
              case rel => exact ⟨rfl, rfl⟩
            · rw [hc] at z6
              rcases hh with rfl | hh
              · go_wp2_with fail
                go_meet
                case rel => exact ⟨rfl, rfl⟩
              · rw [hh] at y6
                cases sc
                all_goals
                  go_wp2_with fail
                  go_meet
                  case rel => exact ⟨rfl, rfl⟩
      case rest =>
        obtain ⟨rfl, rfl⟩ := hcut
        have hP0 := AtL.new wr [.slice none 0 0, .int .i64 nx] 46
        have hal := (Below.refl _ wr).alloc (Nat.le_refl _) (.cells [.slice none 0 0, .int .i64 nx].toArray 46)
        clear u0 u1 u2 u3 u4 u5
        go_wp2_with (go_at_call 29; with_reducible refine (CE.out _).mono ?_; rintro x w4 ⟨rfl, hb4⟩)
        have hB4 : Below wr.heap.size wr w4 := hal.trans (hb4.mono hal.size)
        have P4 := hP0.next hb4
        have J4 := JB.next hB4
        have K4 := KB.next hB4
        have O4 := (OA.below hbw OA.lt).next hB4
        have hBW4 := hBB.trans (hB4.mono hBB.size)
        have hwA4 : Below wA.heap.size wA w4 := hbw.trans (hB4.mono hbw.size)
        have hJP := JB.lt
        have hKP := KB.lt
        have hOP := (OA.below hbw OA.lt).lt
        obtain ⟨P, hP⟩ : ∃ P, wr.heap.size = P := ⟨_, rfl⟩
        rw [hP] at P4 hJP hKP hOP
        rw [hP]
        have hO1 : O < P + 1 := Nat.lt_succ_of_lt hOP
        have hK1 : K < P + 1 := Nat.lt_succ_of_lt hKP
        have hP1 : P < P + 1 := Nat.lt_succ_self P
        have hROW4 : ∀ m (h : m < l.length), ∃ b0 off : Nat, sa = some ⟨b0, off, none⟩ ∧ b0 < J ∧ ∀ q u, (ckL l[m])[q]? = some u → w4.cell? ⟨b0, off + m * 9 + q, none⟩ = some u := fun m h => by
          obtain ⟨b0, off, e, hb0, hcell⟩ := HROW.out m h
          exact ⟨b0, off, e, hb0, fun q u hu => (brl hwA4 _ _ (cell_lt (hcell q u hu))).trans (hcell q u hu)⟩
        have HROW4 := Lib.hid hROW4
        have HLB := Lib.hid (HLL.out)
        clear hP hP0 hal hB4 hb4 hwA4 hROW4 HROW JB KB IB OA JA KA IA hBB hbw hBA j0 j1 z0 z1 z2 z3 z4 z5 z6 z7 z8 jlB klB ilB
        go_loopw [18] (fun iv wr => ∃ (k : Nat) (vo : Value) (M : List Ck), iv = .int .i64 k ∧ k ≤ l.length ∧ Hid (M = (l.take k).filter (fun z => !sameB c z)) ∧ M.length ≤ k ∧ AtL wr P [vo, .int .i64 nx] ∧ wr.ownsRow (P + 1) 29 9 vo M.length (cellsK ckL M) ∧ Below P w4 wr) (fun iv _ => l.length - (intOf iv).toNat)
        case atStart => exact ⟨0, _, [], rfl, Nat.zero_le _, Lib.hid rfl, Nat.le_refl _, P4, World.ownsRow_nil _ _ _ _, Below.refl _ _⟩
        case round =>
          obtain ⟨k, vo, M, rfl, hk, hMk, hMl, PB, hown, hb5⟩ := hrel
          have J5 := J4.below hb5 hJP
          have K5 := K4.below hb5 hKP
          have j0 := J5.c 0 rfl; have j1 := J5.c 1 rfl
          have z0 := K5.c 0 rfl; have z1 := K5.c 1 rfl; have z2 := K5.c 2 rfl; have z3 := K5.c 3 rfl; have z4 := K5.c 4 rfl; have z5 := K5.c 5 rfl; have z6 := K5.c 6 rfl; have z7 := K5.c 7 rfl; have z8 := K5.c 8 rfl
          have jl5 := J5.lt
          have kl5 := K5.lt
          have hl1000 := HLB.out
          by_cases hlt : k < l.length
          · have hlz : (k : Int) < (l.length : Int) := by omega
            have hk0 : (0 : Int) ≤ (k : Int) := by omega
            obtain ⟨b0, off, rfl, hb0, hcell⟩ := HROW4.out k hlt
            have cc : ∀ j u, (ckL l[k])[j]? = some u → wr.cell? ⟨b0, off + k * 9 + j, none⟩ = some u := fun j u hu => (brl hb5 _ _ (by omega)).trans (hcell j u hu)
            obtain ⟨y, hy⟩ : ∃ y, l[k] = y := ⟨_, rfl⟩
            rw [hy] at cc
            obtain ⟨R, hR⟩ : ∃ R, sameB c y = R := ⟨_, rfl⟩
            have HF := Lib.hid (filt_step (sameB c) l M k hlt y hy R hR hMk.out)
            have CAR := Lib.hid (fun W => CA.out y R hR c.cr W)
            have HC := Lib.hid cc
            clear hy hcell hR
            obtain ⟨yn, yv, yd, yp, yho, yse, yhi, yex, ycr⟩ := y
            have c0 := cc 0 _ rfl
            have c1 := cc 1 _ rfl
            have c2 := cc 2 _ rfl
            have c3 := cc 3 _ rfl
            have c4 := cc 4 _ rfl
            have c5 := cc 5 _ rfl
            have c6 := cc 6 _ rfl
            have c7 := cc 7 _ rfl
            have c8 := cc 8 _ rfl
            simp only [Nat.add_zero] at c0
            clear cc
            cases R
            · go_wp2_with fail
              go_region_with (go_at_call 71; with_reducible refine (CAR.out _).mono ?_; rintro x w6 ⟨rfl, hb6⟩)
              all_goals
                have hB6 := (Below.refl _ wr).drew.trans hb6
                have P6 := PB.next hB6
                have J6 := J5.next hB6
                have own6 := own_below hown hB6 (Nat.le_refl _)
                have hb06 : b0 < wr.heap.size := by omega
                have cc : ∀ j u, (ckL ⟨yn, yv, yd, yp, yho, yse, yhi, yex, ycr⟩)[j]? = some u → w6.cell? ⟨b0, off + k * 9 + j, none⟩ = some u := fun j u hu => (brl hB6 _ _ hb06).trans (HC.out j u hu)
                clear c0 c1 c2 c3 c4 c5 c6 c7 c8 j0 j1 z0 z1 z2 z3 z4 z5 z6 z7 z8
                have c0 := cc 0 _ rfl
                have c1 := cc 1 _ rfl
                have c2 := cc 2 _ rfl
                have c3 := cc 3 _ rfl
                have c4 := cc 4 _ rfl
                have c5 := cc 5 _ rfl
                have c6 := cc 6 _ rfl
                have c7 := cc 7 _ rfl
                have c8 := cc 8 _ rfl
                simp only [Nat.add_zero] at c0
                clear cc
                have j0 := J6.c 0 rfl; have j1 := J6.c 1 rfl
                have p0 := P6.c 0 rfl; have p1 := P6.c 1 rfl; have q0 := P6.f 0 rfl; have q1 := P6.f 1 rfl
                have jl6 := J6.lt
                have pl6 := P6.lt
                have hBF : P + 1 ≤ w6.heap.size := pl6
                go_wp2_with fail
                go_region_law (first
                  | (refine step_app slC w6 (by rfl) (.tmp 125) (.tmp 131) (by rfl) (P + 1) vo M.length (cellsK ckL M) (by rfl) own6 (ckL ⟨yn, yv, yd, yp, yho, yse, yhi, yex, ycr⟩) 1 w6.heap.size (by rfl) rfl (by rfl) (one9 _) (by omega) (by omega) (by omega) hBF ?_; intro g cap w7 hown7 hgrow hat hlt7; have PG := P6.grown hgrow (own_nb own6 hP1); have p0 := PG.c 0 rfl; have q0 := PG.f 0 rfl; have pl7 := PG.lt))
                all_goals
                  have hgP : (Value.slice (some ⟨g, 0, none⟩) (M.length + 1) cap).ownBlock ≠ some P := own_nb hown7 hP1
                  have own8 := own_eq (ownsRow_setCell_other (a := ⟨P, 0, none⟩) hown7 hgP (.slice (some ⟨g, 0, none⟩) (M.length + 1) cap)) (by simp : M.length + 1 = (M ++ [(⟨yn, yv, yd, yp, yho, yse, yhi, yex, ycr⟩ : Ck)]).length) (by rw [cellsK_app]; rfl : cellsK ckL M ++ ckL ⟨yn, yv, yd, yp, yho, yse, yhi, yex, ycr⟩ = cellsK ckL (M ++ [(⟨yn, yv, yd, yp, yho, yse, yhi, yex, ycr⟩ : Ck)]))
                  have PS := PG.set 0 (.slice (some ⟨g, 0, none⟩) (M.length + 1) cap)
                  have hB7 := (below_own (hb5.trans (hB6.mono (Nat.le_of_lt PB.lt))) own6 hgrow (Nat.le_of_lt pl6) (by omega)).setCell (p := ⟨P, 0, none⟩) (Nat.le_refl P) (.slice (some ⟨g, 0, none⟩) (M.length + 1) cap)
                  go_wp2_with fail
                  go_roundw
                  case rel => exact ⟨k + 1, _, M ++ [⟨yn, yv, yd, yp, yho, yse, yhi, yex, ycr⟩], by go_num, by omega, Lib.hid HF.out, by simp; omega, PS, own8, hB7⟩
                  case measure => simp [intOf]; omega
            · go_wp2_with fail
              go_region_with (go_at_call 71; with_reducible refine (CAR.out _).mono ?_; rintro x w6 ⟨rfl, hb6⟩)
              all_goals
                have hB6 := (Below.refl _ wr).drew.trans hb6
                go_wp2_with fail
                go_roundw
                case rel => exact ⟨k + 1, vo, M, by go_num, by omega, Lib.hid HF.out, by omega, PB.next hB6, own_below hown hB6 (Nat.le_refl _), hb5.trans (hB6.mono (Nat.le_of_lt PB.lt))⟩
                case measure => simp [intOf]; omega
          · obtain rfl : k = l.length := by omega
            have hM := hMk.out
            rw [List.take_length] at hM
            subst hM
            clear hMk
            obtain ⟨a2, cap2, rfl, _, _, _⟩ := own_reads hown
            have O5 := O4.below hb5 hOP
            have o0 := O5.c 0 rfl; have o1 := O5.c 1 rfl; have n0 := O5.f 0 rfl; have n1 := O5.f 1 rfl
            have p0 := PB.c 0 rfl; have p1 := PB.c 1 rfl; have q0 := PB.f 0 rfl; have q1 := PB.f 1 rfl
            have ol5 := O5.lt
            have pl5 := PB.lt
            go_wp2_with fail
            have hown9 := ownsRow_setCell_other (a := ⟨O, 1, none⟩) (ownsRow_setCell_other (a := ⟨O, 0, none⟩) hown (own_nb hown hO1) (.slice a2 (List.filter (fun z => !sameB c z) l).length cap2)) (own_nb hown hO1) (.int .i64 nx)
            obtain rfl := HJ.out
            refine bodyPost_ret (ret2x_run (q := 10) (r := 11) (T := 46) (by rfl) (fun w => by kernel_rfl) (fun w => by kernel_rfl) _ _ O _ (.int .i64 nx) (.int .i64 0) (by rfl) (by rfl) ((O5.set 0 _).set 1 (.int .i64 nx))) rfl (RsQ.mk (SlK.of_own ckL_len hown9) (((hBW4.trans (hb5.mono (by omega))).setCell (p := ⟨O, 0, none⟩) (by show w.heap.size ≤ O; omega) _).setCell (p := ⟨O, 1, none⟩) (by show w.heap.size ≤ O; omega) _))
end Go.Proofs.YtgjooigolgdocaaGreatDoor
