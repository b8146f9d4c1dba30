/- Cookies: the reference's Set: a cookie that replaces one. -/
import Derived.Test.YtgjooigolgdocaaGreatDoorG7
import Derived.Deep.DeepCutAuto
namespace Go.Proofs.YtgjooigolgdocaaGreatDoor
set_option linter.unusedVariables false
set_option linter.unusedSimpArgs false
open Go.RowKit
theorem put_step (l M : List Ck) (kk k : Nat) (c' y : Ck) (h : k < l.length) (hy : l[k] = y) (hM : M = (l.set kk c').take k) : M ++ [if kk = k then c' else y] = (l.set kk c').take (k + 1) := by
  subst hy
  rw [List.take_succ_eq_append_getElem (by simpa using h), ← hM, List.getElem_set]
theorem BelowBut.ofBelow {B b : Nat} {w w' : World} (h : Below B w w') : BelowBut B b w w' := (BelowBut.refl B b w).below h (Nat.le_refl _)
set_option maxRecDepth 20000 in
set_option maxHeartbeats 8000000 in
theorem rset_put (s a b cc d e f : ByteArray) (now : Int) (T : Bool) (hT : takesB (u6 a b cc d e f) = T) (c : Ck) (hR : parseC s.data.toList T a b d now = (c, 0)) (w : World) (hs : s.size ≤ 100000) (hz : USize 40000 a b cc d e f) (hM : MaxAt w) (v : Value) (l : List Ck) (nx : Int)
    (hv : SlK ckL 9 w v l) (hll : l.length ≤ 1000) (sc : Bool) (kt : Nat) (hkt : kt < l.length) (hid : idxI (sameB c) l = kt) (hex : exB c now = false)
    (hOK : (sc = false ∨ c.hi = false) ∧ ((sc = false ∨ l[kt].hi = false) ∧ OpenS a l[kt])) :
    Calls Tryz.prog 32 #[.agg #[v, .int .i64 nx], .string s, urlA a b cc d e f, .int .i64 now, .bool sc] w (RsQ w (l.set kt { c with cr := l[kt].cr }) nx 0) := by
  obtain ⟨kI, hkI0⟩ : ∃ kI : Int, (kt : Int) = kI := ⟨_, rfl⟩
  have HOK : Hid ((sc = false ∨ c.hi = false) ∧ (kI = -1 ∨ ∃ kk : Nat, ∃ h : kk < l.length, kI = kk ∧ (sc = false ∨ l[kk].hi = false) ∧ OpenS a l[kk])) := Lib.hid ⟨hOK.1, .inr ⟨kt, hkt, hkI0.symm, hOK.2⟩⟩
  rw [hkI0] at hid
  have H0 := Lib.hid hkI0
  have HID := Lib.hid hid
  have CE := Lib.hid (fun w => rexpired_is c now false hex w)
  obtain ⟨c', hc'⟩ : ∃ c' : Ck, { c with cr := l[kt].cr } = c' := ⟨_, rfl⟩
  rw [hc']
  have HC' := Lib.hid hc'
  clear hid hOK hex hc' hkI0
  have CP := Lib.hid (fun w hM => rparse_ex s a b cc d e f now T hT c 0 hR w hs hz hM)
  have CA := Lib.hid (fun (y : Ck) (R : Bool) (h : sameB c y = R) (X : Int) (W : World) => alike_is y { c with cr := X } R (by rw [← h]; exact sameB_comm y c) W)
  have hb0 : Below w.heap.size w (((w.alloc (.cells [v, .int .i64 nx].toArray 46)).alloc (.cells (urlL a b cc d e f).toArray 23)).alloc (.cells [.slice none 0 0, .int .i64 0].toArray 46)) := (((Below.refl _ w).alloc (Nat.le_refl _) _).alloc (by simp) _).alloc (by simp; omega) _
  have J0 := ((AtL.new w [v, .int .i64 nx] 46).alloc (.cells (urlL a b cc d e f).toArray 23)).alloc (.cells [.slice none 0 0, .int .i64 0].toArray 46)
  have I0 := (AtL.new (w.alloc (.cells [v, .int .i64 nx].toArray 46)) (urlL a b cc d e f) 23).alloc (.cells [.slice none 0 0, .int .i64 0].toArray 46)
  have O0 := AtL.new ((w.alloc (.cells [v, .int .i64 nx].toArray 46)).alloc (.cells (urlL a b cc d e f).toArray 23)) [.slice none 0 0, .int .i64 0] 46
  rw [show (w.alloc (.cells [v, .int .i64 nx].toArray 46)).heap.size = w.heap.size + 1 by simp] at I0
  rw [show ((w.alloc (.cells [v, .int .i64 nx].toArray 46)).alloc (.cells (urlL a b cc d e f).toArray 23)).heap.size = w.heap.size + 1 + 1 by simp] at O0
  have hM0 := hM.below hb0 (Nat.le_refl _)
  have hv0 := hv.below hb0 (Nat.le_refl _)
  obtain ⟨sa, sl, rfl, _⟩ := hv.shape
  have HBW := Lib.hid hv.base
  clear hR hT hs hz hM hv
  go_enter Tryz.func32, Tryz.ntmps32
  go_wp2_with fail
  obtain ⟨w0, hw0⟩ : ∃ w0 : World, ((w.alloc (.cells [.slice sa l.length sl, .int .i64 nx].toArray 46)).alloc (.cells (urlL a b cc d e f).toArray 23)).alloc (.cells [.slice none 0 0, .int .i64 0].toArray 46) = w0 := ⟨_, rfl⟩
  obtain ⟨O, hO⟩ : ∃ O, w.heap.size + 1 + 1 = O := ⟨_, rfl⟩
  obtain ⟨I, hI⟩ : ∃ I, w.heap.size + 1 = I := ⟨_, rfl⟩
  obtain ⟨J, hJ⟩ : ∃ J, w.heap.size = J := ⟨_, rfl⟩
  have hJI : J < I := by omega
  have hIO : I < O := by omega
  have hgw0 : w.heap.size ≤ J := by omega
  rw [hw0] at J0 I0 O0 hb0 hM0 hv0
  rw [hO] at O0
  rw [hI] at I0
  rw [hJ] at J0
  rw [hw0, hO, hI, hJ]
  have HJ := Lib.hid hJ
  clear hw0 hO hI hJ
  have j0 := J0.c 0 rfl; have j1 := J0.c 1 rfl
  have u0 := I0.c 0 rfl; have u1 := I0.c 1 rfl; have u2 := I0.c 2 rfl; have u3 := I0.c 3 rfl; have u4 := I0.c 4 rfl; have u5 := I0.c 5 rfl
  have jl0 := J0.lt
  have il0 := I0.lt
  have ol0 := O0.lt
  go_wp2_with (go_at_call 13; with_reducible refine (CP.out _ hM0).mono ?_; rintro x w1 ⟨rfl, hb1⟩; have hal : Below w1.heap.size w1 (w1.alloc (.cells (ckL c).toArray 29)) := (Below.refl _ w1).alloc (Nat.le_refl _) _; have JA := (J0.next hb1).next hal; have IA := (I0.next hb1).next hal; have OA := (O0.next hb1).next hal; have KA := AtL.new w1 (ckL c) 29; have hvA := (hv0.below hb1 (Nat.le_refl _)).below hal (Nat.le_refl _); have hB1 := hb0.trans (hb1.mono hb0.size); have hBA := hB1.trans (hal.mono hB1.size); have hOK := (O0.next hb1).lt; clear j0 j1 u0 u1 u2 u3 u4 u5; have j0 := JA.c 0 rfl; have j1 := JA.c 1 rfl; have u0 := IA.c 0 rfl; have u1 := IA.c 1 rfl; have u2 := IA.c 2 rfl; have u3 := IA.c 3 rfl; have u4 := IA.c 4 rfl; have u5 := IA.c 5 rfl; have jlA := JA.lt; have ilA := IA.lt)
  obtain ⟨wA, hwA⟩ : ∃ wA : World, w1.alloc (.cells (ckL c).toArray 29) = wA := ⟨_, rfl⟩
  obtain ⟨K, hK⟩ : ∃ K, w1.heap.size = K := ⟨_, rfl⟩
  rw [hwA] at JA IA OA KA hvA hBA j0 j1 u0 u1 u2 u3 u4 u5 jlA ilA
  rw [hK] at KA hOK
  rw [hwA, hK]
  clear hwA hK hal hb1 hb0 hM0 hv0 J0 I0 O0 hB1 jl0 il0 ol0
  clear j0 j1 u0 u1 u2 u3 u4 u5 jlA ilA
  have hROW : ∀ m (h : m < l.length), ∃ b0 off : Nat, sa = some ⟨b0, off, none⟩ ∧ b0 < J ∧ ∀ q u, (ckL l[m])[q]? = some u → wA.cell? ⟨b0, off + m * 9 + q, none⟩ = some u := fun m h => by
    rcases hvA with ⟨rfl, _⟩ | ⟨_, b0, off, cap, he, hc1, hc2, hc3, hcell⟩
    · simp at h
    injection he with e1 e2 e3
    exact ⟨b0, off, e1, by rw [← HJ.out]; exact HBW.out _ _ e1 (by omega), fun q u hu => hcell m h q u hu⟩
  have HROW := Lib.hid hROW
  clear hROW hvA
  have HLL := Lib.hid hll
  clear hll
  go_loopw [14, 15] (fun av iv wr => ∃ (k : Nat) (A i : Int), iv = .int .i64 i ∧ av = .int .i64 A ∧ k ≤ l.length ∧ DownI k i ∧ AtK (sameB c) l k A ∧ Below wA.heap.size wA wr) (fun _ iv _ => (intOf iv + 1).toNat)
  case atStart => exact ⟨l.length, -1, (l.length : Int) - 1, by go_num, rfl, Nat.le_refl _, down_pred l.length, atK_start _ _, Below.refl _ _⟩
  case round =>
    obtain ⟨k, A, i, rfl, rfl, hk, hd, hA, hbw⟩ := hrel
    have HA := Lib.hid hA
    clear hA
    have JB := JA.below hbw JA.lt
    have IB := IA.below hbw IA.lt
    have KB := KA.below hbw KA.lt
    have j0 := JB.c 0 rfl; have j1 := JB.c 1 rfl
    have z0 := KB.c 0 rfl; have z1 := KB.c 1 rfl; have z2 := KB.c 2 rfl; have z3 := KB.c 3 rfl; have z4 := KB.c 4 rfl; have z5 := KB.c 5 rfl; have z6 := KB.c 6 rfl; have z7 := KB.c 7 rfl; have z8 := KB.c 8 rfl
    have jlB := JB.lt
    have klB := KB.lt
    rcases hd with ⟨rfl, rfl⟩ | ⟨m, rfl, rfl⟩
    rotate_left
    · have hm : m < l.length := by omega
      have hmz : (m : Int) < (l.length : Int) := by omega
      have hm1000 : m ≤ 1000 := by have := HLL.out; omega
      obtain ⟨b0, off, rfl, hb0, hcell⟩ := HROW.out m hm
      have cc : ∀ j u, (ckL l[m])[j]? = some u → wr.cell? ⟨b0, off + m * 9 + j, none⟩ = some u := fun j u hu => (brl hbw _ _ (cell_lt (hcell j u hu))).trans (hcell j u hu)
      obtain ⟨y, hy⟩ : ∃ y, l[m] = y := ⟨_, rfl⟩
      rw [hy] at cc
      have HY := Lib.hid hy
      clear hy hcell
      obtain ⟨yn, yv, yd, yp, yho, yse, yhi, yex, ycr⟩ := y
      have c0 := cc 0 _ rfl
      have c1 := cc 1 _ rfl
      have c2 := cc 2 _ rfl
      have c3 := cc 3 _ rfl
      have c4 := cc 4 _ rfl
      have c5 := cc 5 _ rfl
      have c6 := cc 6 _ rfl
      have c7 := cc 7 _ rfl
      have c8 := cc 8 _ rfl
      simp only [Nat.add_zero] at c0
      clear cc
      obtain ⟨R, hR⟩ : ∃ R, sameB c ⟨yn, yv, yd, yp, yho, yse, yhi, yex, ycr⟩ = R := ⟨_, rfl⟩
      have CAR := Lib.hid (fun W => CA.out _ R hR c.cr W)
      have HR := Lib.hid hR
      clear hR
      cases R
      all_goals
        go_wp2_with fail
        go_region_with (go_at_call 71; with_reducible refine (CAR.out _).mono ?_; rintro x w2 ⟨rfl, hb2⟩)
        all_goals
          go_wp2_with fail
          go_roundw
          case rel => exact ⟨m, _, (m : Int) - 1, by go_num, by go_num, by omega, down_pred m, by first | exact atK_miss HA.out hm (by rw [HY.out]; exact HR.out) | exact atK_hit hm (by rw [HY.out]; exact HR.out), hbw.trans ((Below.refl _ wr).drew.trans hb2 |>.mono hbw.size)⟩
          case measure => first | (simp [intOf]; done) | (simp [intOf]; omega)
    · have hA0 := atK_zero HA.out
      rw [HID.out] at hA0
      subst hA0
      clear HA
      have u0 := IB.c 0 rfl; have u1 := IB.c 1 rfl; have u2 := IB.c 2 rfl; have u3 := IB.c 3 rfl; have u4 := IB.c 4 rfl; have u5 := IB.c 5 rfl
      have ilB := IB.lt
      have hBB := hBA.trans (hbw.mono hBA.size)
      go_upto_region 10 with fail
      go_cut [79] (fun p79 wx => Value.bool false = p79 ∧ wr = wx)
      case first =>
        rcases HOK.out with ⟨h1, h2⟩
        rcases h2 with hm | ⟨kk, hkl, hkI, hh, hop⟩
        · subst hm
          rcases h1 with rfl | hc
          · go_wp2_with fail
            go_meet
            case rel => exact ⟨rfl, rfl⟩
          · rw [hc] at z6
            cases sc
            all_goals
              go_wp2_with fail
              go_meet
              case rel => exact ⟨rfl, rfl⟩
        · subst hkI
          obtain ⟨b0, off, rfl, hb0, hcell⟩ := HROW.out kk hkl
          have cc : ∀ j u, (ckL l[kk])[j]? = some u → wr.cell? ⟨b0, off + kk * 9 + j, none⟩ = some u := fun j u hu => (brl hbw _ _ (cell_lt (hcell j u hu))).trans (hcell j u hu)
          have y5 := cc 5 _ rfl
          have y6 := cc 6 _ rfl
          clear cc hcell
          have hkz : (kk : Int) < (l.length : Int) := by omega
          have hk0 : (0 : Int) ≤ (kk : Int) := by omega
          rcases hop with hop | ⟨hop, hs2⟩
          · rw [hop] at y5
            rcases h1 with rfl | hc
            · go_wp2_with fail
              go_meet
              case rel => exact ⟨rfl, rfl⟩
            · rw [hc] at z6
              rcases hh with rfl | hh
              · go_wp2_with fail
                go_meet
                case rel => exact ⟨rfl, rfl⟩
              · rw [hh] at y6
                cases sc
                all_goals
                  go_wp2_with fail
                  go_meet
                  case rel => exact ⟨rfl, rfl⟩
          · rw [hop] at y5
            rcases h1 with rfl | hc
            · go_wp2_with fail
              go_meet
              case rel => exact ⟨rfl, rfl⟩
            · rw [hc] at z6
              rcases hh with rfl | hh
              · go_wp2_with fail
                go_meet
                case rel => exact ⟨rfl, rfl⟩
              · rw [hh] at y6
                cases sc
                all_goals
                  go_wp2_with fail
                  go_meet
                  case rel => exact ⟨rfl, rfl⟩
      case rest =>
        obtain ⟨rfl, rfl⟩ := hcut
        have hP0 := AtL.new wr [.slice none 0 0, .int .i64 nx] 46
        have hal := (Below.refl _ wr).alloc (Nat.le_refl _) (.cells [.slice none 0 0, .int .i64 nx].toArray 46)
        clear u0 u1 u2 u3 u4 u5
        go_wp2_with (go_at_call 29; with_reducible refine (CE.out _).mono ?_; rintro x w4 ⟨rfl, hb4⟩)
        have hB4 : Below wr.heap.size wr w4 := hal.trans (hb4.mono hal.size)
        have P4 := hP0.next hb4
        have J4 := JB.next hB4
        have K4 := KB.next hB4
        have O4 := (OA.below hbw OA.lt).next hB4
        have hBW4 := hBB.trans (hB4.mono hBB.size)
        have hwA4 : Below wA.heap.size wA w4 := hbw.trans (hB4.mono hbw.size)
        have hJP := JB.lt
        have hKP := KB.lt
        have hOP := (OA.below hbw OA.lt).lt
        obtain ⟨P, hP⟩ : ∃ P, wr.heap.size = P := ⟨_, rfl⟩
        rw [hP] at P4 hJP hKP hOP
        rw [hP]
        have hO1 : O < P + 1 := Nat.lt_succ_of_lt hOP
        have hK1 : K < P + 1 := Nat.lt_succ_of_lt hKP
        have hP1 : P < P + 1 := Nat.lt_succ_self P
        have hROW4 : ∀ m (h : m < l.length), ∃ b0 off : Nat, sa = some ⟨b0, off, none⟩ ∧ b0 < J ∧ ∀ q u, (ckL l[m])[q]? = some u → w4.cell? ⟨b0, off + m * 9 + q, none⟩ = some u := fun m h => by
          obtain ⟨b0, off, e, hb0, hcell⟩ := HROW.out m h
          exact ⟨b0, off, e, hb0, fun q u hu => (brl hwA4 _ _ (cell_lt (hcell q u hu))).trans (hcell q u hu)⟩
        have HROW4 := Lib.hid hROW4
        have HLB := Lib.hid (HLL.out)
        clear hP hP0 hal hB4 hb4 hwA4 hROW4 HROW JB KB IB OA JA KA IA hBB hbw hBA j0 j1 z0 z1 z2 z3 z4 z5 z6 z7 z8 jlB klB ilB
        obtain rfl := H0.out
        have hkt0 : (0 : Int) ≤ (kt : Int) := by omega
        go_loopw [18] (fun iv wr => ∃ (k : Nat) (vo : Value) (M : List Ck) (Xc : Int), iv = .int .i64 k ∧ k ≤ l.length ∧ Hid (M = (l.set kt c').take k) ∧ M.length ≤ k ∧ AtL wr P [vo, .int .i64 nx] ∧ wr.ownsRow (P + 1) 29 9 vo M.length (cellsK ckL M) ∧ AtL wr K (ckL { c with cr := Xc }) ∧ BelowBut P K w4 wr) (fun iv _ => l.length - (intOf iv).toNat)
        case atStart => exact ⟨0, _, [], c.cr, rfl, Nat.zero_le _, Lib.hid rfl, Nat.le_refl _, P4, World.ownsRow_nil _ _ _ _, K4, BelowBut.refl _ _ _⟩
        case round =>
          obtain ⟨k, vo, M, Xc, rfl, hk, hMk, hMl, PB, hown, K5, hb5⟩ := hrel
          have hJK : J < K := by omega
          have J5 := J4.but hb5 hJP (Nat.ne_of_lt hJK)
          have j0 := J5.c 0 rfl; have j1 := J5.c 1 rfl
          have jl5 := J5.lt
          have kl5 := K5.lt
          have hl1000 := HLB.out
          by_cases hlt : k < l.length
          · have hlz : (k : Int) < (l.length : Int) := by omega
            have hk0 : (0 : Int) ≤ (k : Int) := by omega
            obtain ⟨b0, off, rfl, hb0, hcell⟩ := HROW4.out k hlt
            have cc : ∀ j u, (ckL l[k])[j]? = some u → wr.cell? ⟨b0, off + k * 9 + j, none⟩ = some u := fun j u hu => (hb5.cell (p := ⟨b0, off + k * 9 + j, none⟩) (by show b0 < P; omega) (by show b0 ≠ K; omega)).trans (hcell j u hu)
            obtain ⟨y, hy⟩ : ∃ y, l[k] = y := ⟨_, rfl⟩
            rw [hy] at cc
            have HF := Lib.hid (put_step l M kt k c' y hlt hy hMk.out)
            have hcy : kt = k → { c with cr := y.cr } = c' := fun e => by subst e; rw [← hy]; exact HC'.out
            have HCY := Lib.hid hcy
            have HC := Lib.hid cc
            clear hy hcell hcy
            obtain ⟨yn, yv, yd, yp, yho, yse, yhi, yex, ycr⟩ := y
            have c0 := cc 0 _ rfl
            have c1 := cc 1 _ rfl
            have c2 := cc 2 _ rfl
            have c3 := cc 3 _ rfl
            have c4 := cc 4 _ rfl
            have c5 := cc 5 _ rfl
            have c6 := cc 6 _ rfl
            have c7 := cc 7 _ rfl
            have c8 := cc 8 _ rfl
            simp only [Nat.add_zero] at c0
            clear cc
            have z0 := K5.c 0 rfl; have z1 := K5.c 1 rfl; have z2 := K5.c 2 rfl; have z3 := K5.c 3 rfl; have z4 := K5.c 4 rfl; have z5 := K5.c 5 rfl; have z6 := K5.c 6 rfl; have z7 := K5.c 7 rfl; have z8 := K5.c 8 rfl; have f0 := K5.f 0 rfl; have f1 := K5.f 1 rfl; have f2 := K5.f 2 rfl; have f3 := K5.f 3 rfl; have f4 := K5.f 4 rfl; have f5 := K5.f 5 rfl; have f6 := K5.f 6 rfl; have f7 := K5.f 7 rfl; have f8 := K5.f 8 rfl
            by_cases hkk : kt = k
            · have hkb : ((k : Int) == (kt : Int)) = true := beq_iff_eq.2 (by omega)
              have HKK := Lib.hid hkk
              clear hkk
              go_wp2_with fail
              go_region
              all_goals
                obtain ⟨w6, hw6⟩ : ∃ w6 : World, wr.drew = w6 := ⟨_, rfl⟩
                have hB6 : Below wr.heap.size wr w6 := by rw [← hw6]; exact (Below.refl _ wr).drew
                rw [hw6]
                clear hw6
                have PK : P ≠ K := Nat.ne_of_gt hKP
                have P6 := (PB.next hB6).far ⟨K, 8, none⟩ (.int .i64 ycr) (Ne.symm PK)
                have K6 : AtL (w6.setCell ⟨K, 8, none⟩ (.int .i64 ycr)) K (ckL { c with cr := ycr }) := (K5.next hB6).set 8 (.int .i64 ycr)
                have own6 := ownsRow_setCell_other (a := ⟨K, 8, none⟩) (own_below hown hB6 (Nat.le_refl _)) (own_nb hown hK1) (.int .i64 ycr)
                have hb6 := (hb5.below hB6 (Nat.le_of_lt PB.lt)).setCell ⟨K, 8, none⟩ (Or.inl rfl) (.int .i64 ycr)
                have hb06 : b0 < wr.heap.size := by omega
                have J6 := J5.next hB6
                have K6' := K5.next hB6
                have P6' := PB.next hB6
                have cc : ∀ j u, (ckL ⟨yn, yv, yd, yp, yho, yse, yhi, yex, ycr⟩)[j]? = some u → w6.cell? ⟨b0, off + k * 9 + j, none⟩ = some u := fun j u hu => (brl hB6 _ _ hb06).trans (HC.out j u hu)
                clear c0 c1 c2 c3 c4 c5 c6 c7 c8 j0 j1 z0 z1 z2 z3 z4 z5 z6 z7 z8 f0 f1 f2 f3 f4 f5 f6 f7 f8
                have c8 := cc 8 _ rfl
                clear cc
                have j0 := J6.c 0 rfl; have j1 := J6.c 1 rfl
                have z0 := K6'.c 0 rfl; have z1 := K6'.c 1 rfl; have z2 := K6'.c 2 rfl; have z3 := K6'.c 3 rfl; have z4 := K6'.c 4 rfl; have z5 := K6'.c 5 rfl; have z6 := K6'.c 6 rfl; have z7 := K6'.c 7 rfl; have z8 := K6'.c 8 rfl; have f0 := K6'.f 0 rfl; have f1 := K6'.f 1 rfl; have f2 := K6'.f 2 rfl; have f3 := K6'.f 3 rfl; have f4 := K6'.f 4 rfl; have f5 := K6'.f 5 rfl; have f6 := K6'.f 6 rfl; have f7 := K6'.f 7 rfl; have f8 := K6'.f 8 rfl
                have p0 := P6'.c 0 rfl; have p1 := P6'.c 1 rfl; have q0 := P6'.f 0 rfl; have q1 := P6'.f 1 rfl
                have jl6 := J6.lt
                have pl6 := P6.lt
                have pl6' := P6'.lt
                have kl6 := K6'.lt
                go_wp2_with (refine app2 slC _ (by rfl) (.tmp 119) (.tmp 121) (by rfl) (P + 1) _ _ _ (by rfl) own6 [_, _, _, _, _, _, _, _, _] 1 w6.heap.size (by rfl) (by rw [World.size_setCell]) (by rfl) (by intro u hu; simp at hu; rcases hu with rfl | rfl | rfl | rfl | rfl | rfl | rfl | rfl | rfl <;> rfl) (by decide) (by omega) (by omega) pl6 ?_; intro v2 w7 hA2 gA fA; obtain ⟨a2, cap2, rfl, _, _, _⟩ := own_reads hA2; have PG := P6.grown gA (own_nb own6 hP1); have KG := K6.grown gA (own_nb own6 hK1); have hb7 := (hb6.below (below_own (Below.refl P _) own6 gA (Nat.le_of_lt pl6) (Nat.le_succ P)) (Nat.le_refl P)); have p0 := PG.c 0 rfl; have q0 := PG.f 0 rfl; have pl7 := PG.lt)
                go_roundw
                case rel => exact ⟨k + 1, _, M ++ [c'], ycr, by go_num, by omega, Lib.hid (by have h := HF.out; rw [if_pos HKK.out] at h; exact h), by simp; omega, PG.set 0 _, own_eq (ownsRow_setCell_other (a := ⟨P, 0, none⟩) hA2 (own_nb hA2 hP1) _) (by simp) (by rw [cellsK_app, ← HCY.out HKK.out]; rfl), KG.far ⟨P, 0, none⟩ _ PK, hb7.setCell ⟨P, 0, none⟩ (Or.inr (Nat.le_refl P)) _⟩
                case measure => simp [intOf]; omega
            · have hkb : ((k : Int) == (kt : Int)) = false := beq_eq_false_iff_ne.2 (by omega)
              have HKK := Lib.hid hkk
              clear hkk
              go_wp2_with fail
              go_region
              all_goals
                obtain ⟨w6, hw6⟩ : ∃ w6 : World, wr.drew = w6 := ⟨_, rfl⟩
                have hB6 : Below wr.heap.size wr w6 := by rw [← hw6]; exact (Below.refl _ wr).drew
                rw [hw6]
                clear hw6 f0 f1 f2 f3 f4 f5 f6 f7 f8
                have P6 := PB.next hB6
                have J6 := J5.next hB6
                have own6 := own_below hown hB6 (Nat.le_refl _)
                have hb06 : b0 < wr.heap.size := by omega
                have cc : ∀ j u, (ckL ⟨yn, yv, yd, yp, yho, yse, yhi, yex, ycr⟩)[j]? = some u → w6.cell? ⟨b0, off + k * 9 + j, none⟩ = some u := fun j u hu => (brl hB6 _ _ hb06).trans (HC.out j u hu)
                clear c0 c1 c2 c3 c4 c5 c6 c7 c8 j0 j1 z0 z1 z2 z3 z4 z5 z6 z7 z8
                have c0 := cc 0 _ rfl
                have c1 := cc 1 _ rfl
                have c2 := cc 2 _ rfl
                have c3 := cc 3 _ rfl
                have c4 := cc 4 _ rfl
                have c5 := cc 5 _ rfl
                have c6 := cc 6 _ rfl
                have c7 := cc 7 _ rfl
                have c8 := cc 8 _ rfl
                simp only [Nat.add_zero] at c0
                clear cc
                have j0 := J6.c 0 rfl; have j1 := J6.c 1 rfl
                have p0 := P6.c 0 rfl; have p1 := P6.c 1 rfl; have q0 := P6.f 0 rfl; have q1 := P6.f 1 rfl
                have jl6 := J6.lt
                have pl6 := P6.lt
                have hBF : P + 1 ≤ w6.heap.size := pl6
                go_wp2_with fail
                go_region_law (first
                  | (refine step_app slC w6 (by rfl) (.tmp 125) (.tmp 131) (by rfl) (P + 1) vo M.length (cellsK ckL M) (by rfl) own6 (ckL ⟨yn, yv, yd, yp, yho, yse, yhi, yex, ycr⟩) 1 w6.heap.size (by rfl) rfl (by rfl) (one9 _) (by omega) (by omega) (by omega) hBF ?_; intro g cap w7 hown7 hgrow hat hlt7; have PG := P6.grown hgrow (own_nb own6 hP1); have p0 := PG.c 0 rfl; have q0 := PG.f 0 rfl; have pl7 := PG.lt))
                all_goals
                  have hgP : (Value.slice (some ⟨g, 0, none⟩) (M.length + 1) cap).ownBlock ≠ some P := own_nb hown7 hP1
                  have own8 := own_eq (ownsRow_setCell_other (a := ⟨P, 0, none⟩) hown7 hgP (.slice (some ⟨g, 0, none⟩) (M.length + 1) cap)) (by simp : M.length + 1 = (M ++ [(⟨yn, yv, yd, yp, yho, yse, yhi, yex, ycr⟩ : Ck)]).length) (by rw [cellsK_app]; rfl : cellsK ckL M ++ ckL ⟨yn, yv, yd, yp, yho, yse, yhi, yex, ycr⟩ = cellsK ckL (M ++ [(⟨yn, yv, yd, yp, yho, yse, yhi, yex, ycr⟩ : Ck)]))
                  have PS := PG.set 0 (.slice (some ⟨g, 0, none⟩) (M.length + 1) cap)
                  have hb7 := ((hb5.below hB6 (Nat.le_of_lt PB.lt)).below (below_own (Below.refl P _) own6 hgrow (Nat.le_of_lt pl6) (Nat.le_succ P)) (Nat.le_refl P)).setCell ⟨P, 0, none⟩ (Or.inr (Nat.le_refl P)) (.slice (some ⟨g, 0, none⟩) (M.length + 1) cap)
                  have KG := ((K5.next hB6).grown hgrow (own_nb own6 hK1)).far ⟨P, 0, none⟩ (.slice (some ⟨g, 0, none⟩) (M.length + 1) cap) (Nat.ne_of_gt hKP)
                  go_wp2_with fail
                  go_roundw
                  case rel => exact ⟨k + 1, _, M ++ [⟨yn, yv, yd, yp, yho, yse, yhi, yex, ycr⟩], Xc, by go_num, by omega, Lib.hid (by have h := HF.out; rw [if_neg HKK.out] at h; exact h), by simp; omega, PS, own8, KG, hb7⟩
                  case measure => simp [intOf]; omega
          · obtain rfl : k = l.length := by omega
            have hM := hMk.out
            rw [List.take_of_length_le (by simp)] at hM
            subst hM
            clear hMk
            have hOK : O < K := hOK
            rw [List.length_set] at hown
            obtain ⟨a2, cap2, rfl, _, _, _⟩ := own_reads hown
            have O5 := O4.but hb5 hOP (Nat.ne_of_lt hOK)
            have o0 := O5.c 0 rfl; have o1 := O5.c 1 rfl; have n0 := O5.f 0 rfl; have n1 := O5.f 1 rfl
            have p0 := PB.c 0 rfl; have p1 := PB.c 1 rfl; have q0 := PB.f 0 rfl; have q1 := PB.f 1 rfl
            have ol5 := O5.lt
            have pl5 := PB.lt
            have hkt1 : ¬ (kt : Int) < 0 := by omega
            go_wp2_with fail
            have hown9 := ownsRow_setCell_other (a := ⟨O, 1, none⟩) (ownsRow_setCell_other (a := ⟨O, 0, none⟩) hown (own_nb hown hO1) (.slice a2 l.length cap2)) (own_nb hown hO1) (.int .i64 nx)
            obtain rfl := HJ.out
            have hb59 : Below w.heap.size w wr := hb5.to_below hBW4 (by omega) (by omega)
            refine bodyPost_ret (ret2x_run (q := 10) (r := 11) (T := 46) (by rfl) (fun w => by kernel_rfl) (fun w => by kernel_rfl) _ _ O _ (.int .i64 nx) (.int .i64 0) (by rfl) (by rfl) ((O5.set 0 _).set 1 (.int .i64 nx))) rfl (RsQ.mk (SlK.of_own ckL_len (own_eq hown9 (List.length_set ..).symm rfl)) ((hb59.setCell (p := ⟨O, 0, none⟩) (by show w.heap.size ≤ O; omega) _).setCell (p := ⟨O, 1, none⟩) (by show w.heap.size ≤ O; omega) _))
end Go.Proofs.YtgjooigolgdocaaGreatDoor
