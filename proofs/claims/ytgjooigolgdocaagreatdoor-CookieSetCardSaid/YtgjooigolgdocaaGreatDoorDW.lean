/- Cookies: the reference's Set: a new cookie. -/
import Derived.Test.YtgjooigolgdocaaGreatDoorG7
import Derived.Deep.DeepCutAuto
namespace Go.Proofs.YtgjooigolgdocaaGreatDoor
set_option linter.unusedVariables false
set_option linter.unusedSimpArgs false
open Go.RowKit
theorem new_step (l M : List Ck) (k : Nat) (y : Ck) (h : k < l.length) (hy : l[k] = y) (hM : M = l.take k) : M ++ [y] = l.take (k + 1) := by
  subst hy
  rw [List.take_succ_eq_append_getElem h, ← hM]
theorem drop_cells (L : List Ck) (q : Nat) (g cap : Nat) (w : World) (hg : g < w.heap.size) (hc : L.length ≤ cap) (hm : cap ≤ maxLen) (hq : q < L.length) (hcell : ∀ i (hi : i < L.length) j u, (ckL L[i])[j]? = some u → w.cell? ⟨g, i * 9 + j, none⟩ = some u) :
    SlK ckL 9 w (.slice (some ⟨g, q * 9, none⟩) (L.length - q) (cap - q)) (L.drop q) := by
  refine .inr ⟨by intro e; have := congrArg List.length e; simp at this; omega, g, q * 9, cap - q, by simp, by simp; omega, by omega, hg, fun i hi j u hu => ?_⟩
  have hi2 : q + i < L.length := by simp at hi; omega
  have := hcell (q + i) hi2 j u (by rw [← hu, List.getElem_drop])
  rw [show q * 9 + i * 9 + j = (q + i) * 9 + j by omega]
  exact this
set_option maxRecDepth 20000 in
set_option maxHeartbeats 8000000 in
theorem rset_new (s a b cc d e f : ByteArray) (now : Int) (T : Bool) (hT : takesB (u6 a b cc d e f) = T) (c : Ck) (hR : parseC s.data.toList T a b d now = (c, 0)) (w : World) (hs : s.size ≤ 100000) (hz : USize 40000 a b cc d e f) (hM : MaxAt w) (v : Value) (l : List Ck) (nx : Int)
    (hv : SlK ckL 9 w v l) (hll : l.length ≤ 1000) (sc : Bool) (hid : idxI (sameB c) l = -1) (hex : exB c now = false) (hsc : sc = false ∨ c.hi = false) (hn1 : -1152921504606846976 ≤ nx) (hn2 : nx ≤ 1152921504606846976) (q : Nat) (hq : (l.length < 200 ∧ q = 0) ∨ l.length + 1 = 200 + q) :
    Calls Tryz.prog 32 #[.agg #[v, .int .i64 nx], .string s, urlA a b cc d e f, .int .i64 now, .bool sc] w (RsQ w ((l ++ [{ c with cr := nx }]).drop q) (nx + 1) 0) := by
  obtain ⟨kI, hkI0⟩ : ∃ kI : Int, (-1 : Int) = kI := ⟨_, rfl⟩
  have HOK : Hid ((sc = false ∨ c.hi = false) ∧ (kI = -1 ∨ ∃ kk : Nat, ∃ h : kk < l.length, kI = kk ∧ (sc = false ∨ l[kk].hi = false) ∧ OpenS a l[kk])) := Lib.hid ⟨hsc, .inl hkI0.symm⟩
  rw [hkI0] at hid
  have H0 := Lib.hid hkI0
  have HID := Lib.hid hid
  have HQ := Lib.hid hq
  have CE := Lib.hid (fun w => rexpired_is c now false hex w)
  obtain ⟨c', hc'⟩ : ∃ c' : Ck, { c with cr := nx } = c' := ⟨_, rfl⟩
  rw [hc']
  have HC' := Lib.hid hc'
  clear hid hsc hex hc' hkI0 hq
  have CP := Lib.hid (fun w hM => rparse_ex s a b cc d e f now T hT c 0 hR w hs hz hM)
  have CA := Lib.hid (fun (y : Ck) (R : Bool) (h : sameB c y = R) (X : Int) (W : World) => alike_is y { c with cr := X } R (by rw [← h]; exact sameB_comm y c) W)
  have hb0 : Below w.heap.size w (((w.alloc (.cells [v, .int .i64 nx].toArray 46)).alloc (.cells (urlL a b cc d e f).toArray 23)).alloc (.cells [.slice none 0 0, .int .i64 0].toArray 46)) := (((Below.refl _ w).alloc (Nat.le_refl _) _).alloc (by simp) _).alloc (by simp; omega) _
  have J0 := ((AtL.new w [v, .int .i64 nx] 46).alloc (.cells (urlL a b cc d e f).toArray 23)).alloc (.cells [.slice none 0 0, .int .i64 0].toArray 46)
  have I0 := (AtL.new (w.alloc (.cells [v, .int .i64 nx].toArray 46)) (urlL a b cc d e f) 23).alloc (.cells [.slice none 0 0, .int .i64 0].toArray 46)
  have O0 := AtL.new ((w.alloc (.cells [v, .int .i64 nx].toArray 46)).alloc (.cells (urlL a b cc d e f).toArray 23)) [.slice none 0 0, .int .i64 0] 46
  rw [show (w.alloc (.cells [v, .int .i64 nx].toArray 46)).heap.size = w.heap.size + 1 by simp] at I0
  rw [show ((w.alloc (.cells [v, .int .i64 nx].toArray 46)).alloc (.cells (urlL a b cc d e f).toArray 23)).heap.size = w.heap.size + 1 + 1 by simp] at O0
  have hM0 := hM.below hb0 (Nat.le_refl _)
  have hv0 := hv.below hb0 (Nat.le_refl _)
  obtain ⟨sa, sl, rfl, _⟩ := hv.shape
  have HBW := Lib.hid hv.base
  clear hR hT hs hz hM hv
  go_enter Tryz.func32, Tryz.ntmps32
  go_wp2_with fail
  obtain ⟨w0, hw0⟩ : ∃ w0 : World, ((w.alloc (.cells [.slice sa l.length sl, .int .i64 nx].toArray 46)).alloc (.cells (urlL a b cc d e f).toArray 23)).alloc (.cells [.slice none 0 0, .int .i64 0].toArray 46) = w0 := ⟨_, rfl⟩
  obtain ⟨O, hO⟩ : ∃ O, w.heap.size + 1 + 1 = O := ⟨_, rfl⟩
  obtain ⟨I, hI⟩ : ∃ I, w.heap.size + 1 = I := ⟨_, rfl⟩
  obtain ⟨J, hJ⟩ : ∃ J, w.heap.size = J := ⟨_, rfl⟩
  have hJI : J < I := by omega
  have hIO : I < O := by omega
  have hgw0 : w.heap.size ≤ J := by omega
  rw [hw0] at J0 I0 O0 hb0 hM0 hv0
  rw [hO] at O0
  rw [hI] at I0
  rw [hJ] at J0
  rw [hw0, hO, hI, hJ]
  have HJ := Lib.hid hJ
  clear hw0 hO hI hJ
  have j0 := J0.c 0 rfl; have j1 := J0.c 1 rfl
  have u0 := I0.c 0 rfl; have u1 := I0.c 1 rfl; have u2 := I0.c 2 rfl; have u3 := I0.c 3 rfl; have u4 := I0.c 4 rfl; have u5 := I0.c 5 rfl
  have jl0 := J0.lt
  have il0 := I0.lt
  have ol0 := O0.lt
  go_wp2_with (go_at_call 13; with_reducible refine (CP.out _ hM0).mono ?_; rintro x w1 ⟨rfl, hb1⟩; have hal : Below w1.heap.size w1 (w1.alloc (.cells (ckL c).toArray 29)) := (Below.refl _ w1).alloc (Nat.le_refl _) _; have JA := (J0.next hb1).next hal; have IA := (I0.next hb1).next hal; have OA := (O0.next hb1).next hal; have KA := AtL.new w1 (ckL c) 29; have hvA := (hv0.below hb1 (Nat.le_refl _)).below hal (Nat.le_refl _); have hB1 := hb0.trans (hb1.mono hb0.size); have hBA := hB1.trans (hal.mono hB1.size); have hOK := (O0.next hb1).lt; clear j0 j1 u0 u1 u2 u3 u4 u5; have j0 := JA.c 0 rfl; have j1 := JA.c 1 rfl; have u0 := IA.c 0 rfl; have u1 := IA.c 1 rfl; have u2 := IA.c 2 rfl; have u3 := IA.c 3 rfl; have u4 := IA.c 4 rfl; have u5 := IA.c 5 rfl; have jlA := JA.lt; have ilA := IA.lt)
  obtain ⟨wA, hwA⟩ : ∃ wA : World, w1.alloc (.cells (ckL c).toArray 29) = wA := ⟨_, rfl⟩
  obtain ⟨K, hK⟩ : ∃ K, w1.heap.size = K := ⟨_, rfl⟩
  rw [hwA] at JA IA OA KA hvA hBA j0 j1 u0 u1 u2 u3 u4 u5 jlA ilA
  rw [hK] at KA hOK
  rw [hwA, hK]
  clear hwA hK hal hb1 hb0 hM0 hv0 J0 I0 O0 hB1 jl0 il0 ol0
  clear j0 j1 u0 u1 u2 u3 u4 u5 jlA ilA
  have hROW : ∀ m (h : m < l.length), ∃ b0 off : Nat, sa = some ⟨b0, off, none⟩ ∧ b0 < J ∧ ∀ q u, (ckL l[m])[q]? = some u → wA.cell? ⟨b0, off + m * 9 + q, none⟩ = some u := fun m h => by
    rcases hvA with ⟨rfl, _⟩ | ⟨_, b0, off, cap, he, hc1, hc2, hc3, hcell⟩
    · simp at h
    injection he with e1 e2 e3
    exact ⟨b0, off, e1, by rw [← HJ.out]; exact HBW.out _ _ e1 (by omega), fun q u hu => hcell m h q u hu⟩
  have HROW := Lib.hid hROW
  clear hROW hvA
  have HLL := Lib.hid hll
  clear hll
  go_loopw [14, 15] (fun av iv wr => ∃ (k : Nat) (A i : Int), iv = .int .i64 i ∧ av = .int .i64 A ∧ k ≤ l.length ∧ DownI k i ∧ AtK (sameB c) l k A ∧ Below wA.heap.size wA wr) (fun _ iv _ => (intOf iv + 1).toNat)
  case atStart => exact ⟨l.length, -1, (l.length : Int) - 1, by go_num, rfl, Nat.le_refl _, down_pred l.length, atK_start _ _, Below.refl _ _⟩
  case round =>
    obtain ⟨k, A, i, rfl, rfl, hk, hd, hA, hbw⟩ := hrel
    have HA := Lib.hid hA
    clear hA
    have JB := JA.below hbw JA.lt
    have IB := IA.below hbw IA.lt
    have KB := KA.below hbw KA.lt
    have j0 := JB.c 0 rfl; have j1 := JB.c 1 rfl
    have z0 := KB.c 0 rfl; have z1 := KB.c 1 rfl; have z2 := KB.c 2 rfl; have z3 := KB.c 3 rfl; have z4 := KB.c 4 rfl; have z5 := KB.c 5 rfl; have z6 := KB.c 6 rfl; have z7 := KB.c 7 rfl; have z8 := KB.c 8 rfl
    have jlB := JB.lt
    have klB := KB.lt
    rcases hd with ⟨rfl, rfl⟩ | ⟨m, rfl, rfl⟩
    rotate_left
    · have hm : m < l.length := by omega
      have hmz : (m : Int) < (l.length : Int) := by omega
      have hm1000 : m ≤ 1000 := by have := HLL.out; omega
      obtain ⟨b0, off, rfl, hb0, hcell⟩ := HROW.out m hm
      have cc : ∀ j u, (ckL l[m])[j]? = some u → wr.cell? ⟨b0, off + m * 9 + j, none⟩ = some u := fun j u hu => (brl hbw _ _ (cell_lt (hcell j u hu))).trans (hcell j u hu)
      obtain ⟨y, hy⟩ : ∃ y, l[m] = y := ⟨_, rfl⟩
      rw [hy] at cc
      have HY := Lib.hid hy
      clear hy hcell
      obtain ⟨yn, yv, yd, yp, yho, yse, yhi, yex, ycr⟩ := y
      have c0 := cc 0 _ rfl
      have c1 := cc 1 _ rfl
      have c2 := cc 2 _ rfl
      have c3 := cc 3 _ rfl
      have c4 := cc 4 _ rfl
      have c5 := cc 5 _ rfl
      have c6 := cc 6 _ rfl
      have c7 := cc 7 _ rfl
      have c8 := cc 8 _ rfl
      simp only [Nat.add_zero] at c0
      clear cc
      obtain ⟨R, hR⟩ : ∃ R, sameB c ⟨yn, yv, yd, yp, yho, yse, yhi, yex, ycr⟩ = R := ⟨_, rfl⟩
      have CAR := Lib.hid (fun W => CA.out _ R hR c.cr W)
      have HR := Lib.hid hR
      clear hR
      cases R
      all_goals
        go_wp2_with fail
        go_region_with (go_at_call 71; with_reducible refine (CAR.out _).mono ?_; rintro x w2 ⟨rfl, hb2⟩)
        all_goals
          go_wp2_with fail
          go_roundw
          case rel => exact ⟨m, _, (m : Int) - 1, by go_num, by go_num, by omega, down_pred m, by first | exact atK_miss HA.out hm (by rw [HY.out]; exact HR.out) | exact atK_hit hm (by rw [HY.out]; exact HR.out), hbw.trans ((Below.refl _ wr).drew.trans hb2 |>.mono hbw.size)⟩
          case measure => first | (simp [intOf]; done) | (simp [intOf]; omega)
    · have hA0 := atK_zero HA.out
      rw [HID.out] at hA0
      subst hA0
      clear HA
      have u0 := IB.c 0 rfl; have u1 := IB.c 1 rfl; have u2 := IB.c 2 rfl; have u3 := IB.c 3 rfl; have u4 := IB.c 4 rfl; have u5 := IB.c 5 rfl
      have ilB := IB.lt
      have hBB := hBA.trans (hbw.mono hBA.size)
      go_upto_region 10 with fail
      go_cut [79] (fun p79 wx => Value.bool false = p79 ∧ wr = wx)
      case first =>
        rcases HOK.out with ⟨h1, h2⟩
        rcases h2 with hm | ⟨kk, hkl, hkI, hh, hop⟩
        · subst hm
          rcases h1 with rfl | hc
          · go_wp2_with fail
            go_meet
            case rel => exact ⟨rfl, rfl⟩
          · rw [hc] at z6
            cases sc
            all_goals
              go_wp2_with fail
              go_meet
              case rel => exact ⟨rfl, rfl⟩
        · subst hkI
          obtain ⟨b0, off, rfl, hb0, hcell⟩ := HROW.out kk hkl
          have cc : ∀ j u, (ckL l[kk])[j]? = some u → wr.cell? ⟨b0, off + kk * 9 + j, none⟩ = some u := fun j u hu => (brl hbw _ _ (cell_lt (hcell j u hu))).trans (hcell j u hu)
          have y5 := cc 5 _ rfl
          have y6 := cc 6 _ rfl
          clear cc hcell
          have hkz : (kk : Int) < (l.length : Int) := by omega
          have hk0 : (0 : Int) ≤ (kk : Int) := by omega
          rcases hop with hop | ⟨hop, hs2⟩
          · rw [hop] at y5
            rcases h1 with rfl | hc
            · go_wp2_with fail
              go_meet
              case rel => exact ⟨rfl, rfl⟩
            · rw [hc] at z6
              rcases hh with rfl | hh
              · go_wp2_with fail
                go_meet
                case rel => exact ⟨rfl, rfl⟩
              · rw [hh] at y6
                cases sc
                all_goals
                  go_wp2_with fail
                  go_meet
                  case rel => exact ⟨rfl, rfl⟩
          · rw [hop] at y5
            rcases h1 with rfl | hc
            · go_wp2_with fail
              go_meet
              case rel => exact ⟨rfl, rfl⟩
            · rw [hc] at z6
              rcases hh with rfl | hh
              · go_wp2_with fail
                go_meet
                case rel => exact ⟨rfl, rfl⟩
              · rw [hh] at y6
                cases sc
                all_goals
                  go_wp2_with fail
                  go_meet
                  case rel => exact ⟨rfl, rfl⟩
      case rest =>
        obtain ⟨rfl, rfl⟩ := hcut
        have hP0 := AtL.new wr [.slice none 0 0, .int .i64 nx] 46
        have hal := (Below.refl _ wr).alloc (Nat.le_refl _) (.cells [.slice none 0 0, .int .i64 nx].toArray 46)
        clear u0 u1 u2 u3 u4 u5
        go_wp2_with (go_at_call 29; with_reducible refine (CE.out _).mono ?_; rintro x w4 ⟨rfl, hb4⟩)
        have hB4 : Below wr.heap.size wr w4 := hal.trans (hb4.mono hal.size)
        have P4 := hP0.next hb4
        have J4 := JB.next hB4
        have K4 := KB.next hB4
        have O4 := (OA.below hbw OA.lt).next hB4
        have hBW4 := hBB.trans (hB4.mono hBB.size)
        have hwA4 : Below wA.heap.size wA w4 := hbw.trans (hB4.mono hbw.size)
        have hJP := JB.lt
        have hKP := KB.lt
        have hOP := (OA.below hbw OA.lt).lt
        obtain ⟨P, hP⟩ : ∃ P, wr.heap.size = P := ⟨_, rfl⟩
        rw [hP] at P4 hJP hKP hOP
        rw [hP]
        have hO1 : O < P + 1 := Nat.lt_succ_of_lt hOP
        have hK1 : K < P + 1 := Nat.lt_succ_of_lt hKP
        have hP1 : P < P + 1 := Nat.lt_succ_self P
        have hROW4 : ∀ m (h : m < l.length), ∃ b0 off : Nat, sa = some ⟨b0, off, none⟩ ∧ b0 < J ∧ ∀ q u, (ckL l[m])[q]? = some u → w4.cell? ⟨b0, off + m * 9 + q, none⟩ = some u := fun m h => by
          obtain ⟨b0, off, e, hb0, hcell⟩ := HROW.out m h
          exact ⟨b0, off, e, hb0, fun q u hu => (brl hwA4 _ _ (cell_lt (hcell q u hu))).trans (hcell q u hu)⟩
        have HROW4 := Lib.hid hROW4
        have HLB := Lib.hid (HLL.out)
        clear hP hP0 hal hB4 hb4 hwA4 hROW4 HROW JB KB IB OA JA KA IA hBB hbw hBA j0 j1 z0 z1 z2 z3 z4 z5 z6 z7 z8 jlB klB ilB
        obtain rfl := H0.out
        go_loopw [18] (fun iv wr => ∃ (k : Nat) (vo : Value) (M : List Ck), iv = .int .i64 k ∧ k ≤ l.length ∧ Hid (M = l.take k) ∧ M.length ≤ k ∧ AtL wr P [vo, .int .i64 nx] ∧ wr.ownsRow (P + 1) 29 9 vo M.length (cellsK ckL M) ∧ Below P w4 wr) (fun iv _ => l.length - (intOf iv).toNat)
        case atStart => exact ⟨0, _, [], rfl, Nat.zero_le _, Lib.hid rfl, Nat.le_refl _, P4, World.ownsRow_nil _ _ _ _, Below.refl _ _⟩
        case round =>
          obtain ⟨k, vo, M, rfl, hk, hMk, hMl, PB, hown, hb5⟩ := hrel
          have J5 := J4.below hb5 hJP
          have K5 := K4.below hb5 hKP
          have j0 := J5.c 0 rfl; have j1 := J5.c 1 rfl
          have z0 := K5.c 0 rfl; have z1 := K5.c 1 rfl; have z2 := K5.c 2 rfl; have z3 := K5.c 3 rfl; have z4 := K5.c 4 rfl; have z5 := K5.c 5 rfl; have z6 := K5.c 6 rfl; have z7 := K5.c 7 rfl; have z8 := K5.c 8 rfl; have f0 := K5.f 0 rfl; have f1 := K5.f 1 rfl; have f2 := K5.f 2 rfl; have f3 := K5.f 3 rfl; have f4 := K5.f 4 rfl; have f5 := K5.f 5 rfl; have f6 := K5.f 6 rfl; have f7 := K5.f 7 rfl; have f8 := K5.f 8 rfl
          have jl5 := J5.lt
          have kl5 := K5.lt
          have hl1000 := HLB.out
          by_cases hlt : k < l.length
          · have hlz : (k : Int) < (l.length : Int) := by omega
            have hk0 : (0 : Int) ≤ (k : Int) := by omega
            have hk1 : ((k : Int) == -1) = false := beq_eq_false_iff_ne.2 (by omega)
            obtain ⟨b0, off, rfl, hb0, hcell⟩ := HROW4.out k hlt
            have cc : ∀ j u, (ckL l[k])[j]? = some u → wr.cell? ⟨b0, off + k * 9 + j, none⟩ = some u := fun j u hu => (brl hb5 _ _ (by omega)).trans (hcell j u hu)
            obtain ⟨y, hy⟩ : ∃ y, l[k] = y := ⟨_, rfl⟩
            rw [hy] at cc
            have HF := Lib.hid (new_step l M k y hlt hy hMk.out)
            have HC := Lib.hid cc
            clear hy hcell
            obtain ⟨yn, yv, yd, yp, yho, yse, yhi, yex, ycr⟩ := y
            have c0 := cc 0 _ rfl
            have c1 := cc 1 _ rfl
            have c2 := cc 2 _ rfl
            have c3 := cc 3 _ rfl
            have c4 := cc 4 _ rfl
            have c5 := cc 5 _ rfl
            have c6 := cc 6 _ rfl
            have c7 := cc 7 _ rfl
            have c8 := cc 8 _ rfl
            simp only [Nat.add_zero] at c0
            clear cc
            go_wp2_with fail
            go_region
            all_goals
              obtain ⟨w6, hw6⟩ : ∃ w6 : World, wr.drew = w6 := ⟨_, rfl⟩
              have hB6 : Below wr.heap.size wr w6 := by rw [← hw6]; exact (Below.refl _ wr).drew
              rw [hw6]
              clear hw6 f0 f1 f2 f3 f4 f5 f6 f7 f8
              have P6 := PB.next hB6
              have J6 := J5.next hB6
              have own6 := own_below hown hB6 (Nat.le_refl _)
              have hb06 : b0 < wr.heap.size := by omega
              have cc : ∀ j u, (ckL ⟨yn, yv, yd, yp, yho, yse, yhi, yex, ycr⟩)[j]? = some u → w6.cell? ⟨b0, off + k * 9 + j, none⟩ = some u := fun j u hu => (brl hB6 _ _ hb06).trans (HC.out j u hu)
              clear c0 c1 c2 c3 c4 c5 c6 c7 c8 j0 j1 z0 z1 z2 z3 z4 z5 z6 z7 z8
              have c0 := cc 0 _ rfl
              have c1 := cc 1 _ rfl
              have c2 := cc 2 _ rfl
              have c3 := cc 3 _ rfl
              have c4 := cc 4 _ rfl
              have c5 := cc 5 _ rfl
              have c6 := cc 6 _ rfl
              have c7 := cc 7 _ rfl
              have c8 := cc 8 _ rfl
              simp only [Nat.add_zero] at c0
              clear cc
              have j0 := J6.c 0 rfl; have j1 := J6.c 1 rfl
              have p0 := P6.c 0 rfl; have p1 := P6.c 1 rfl; have q0 := P6.f 0 rfl; have q1 := P6.f 1 rfl
              have jl6 := J6.lt
              have pl6 := P6.lt
              have hBF : P + 1 ≤ w6.heap.size := pl6
              go_wp2_with fail
              go_region_law (first
                | (refine step_app slC w6 (by rfl) (.tmp 125) (.tmp 131) (by rfl) (P + 1) vo M.length (cellsK ckL M) (by rfl) own6 (ckL ⟨yn, yv, yd, yp, yho, yse, yhi, yex, ycr⟩) 1 w6.heap.size (by rfl) rfl (by rfl) (one9 _) (by omega) (by omega) (by omega) hBF ?_; intro g cap w7 hown7 hgrow hat hlt7; have PG := P6.grown hgrow (own_nb own6 hP1); have p0 := PG.c 0 rfl; have q0 := PG.f 0 rfl; have pl7 := PG.lt))
              all_goals
                have hgP : (Value.slice (some ⟨g, 0, none⟩) (M.length + 1) cap).ownBlock ≠ some P := own_nb hown7 hP1
                have own8 := own_eq (ownsRow_setCell_other (a := ⟨P, 0, none⟩) hown7 hgP (.slice (some ⟨g, 0, none⟩) (M.length + 1) cap)) (by simp : M.length + 1 = (M ++ [(⟨yn, yv, yd, yp, yho, yse, yhi, yex, ycr⟩ : Ck)]).length) (by rw [cellsK_app]; rfl : cellsK ckL M ++ ckL ⟨yn, yv, yd, yp, yho, yse, yhi, yex, ycr⟩ = cellsK ckL (M ++ [(⟨yn, yv, yd, yp, yho, yse, yhi, yex, ycr⟩ : Ck)]))
                have PS := PG.set 0 (.slice (some ⟨g, 0, none⟩) (M.length + 1) cap)
                have hB7 := (below_own (hb5.trans (hB6.mono (Nat.le_of_lt PB.lt))) own6 hgrow (Nat.le_of_lt pl6) (by omega)).setCell (p := ⟨P, 0, none⟩) (Nat.le_refl P) (.slice (some ⟨g, 0, none⟩) (M.length + 1) cap)
                go_wp2_with fail
                go_roundw
                case rel => exact ⟨k + 1, _, M ++ [⟨yn, yv, yd, yp, yho, yse, yhi, yex, ycr⟩], by go_num, by omega, Lib.hid HF.out, by simp; omega, PS, own8, hB7⟩
                case measure => simp [intOf]; omega
          · obtain rfl : k = l.length := by omega
            have hM := hMk.out
            rw [List.take_length] at hM
            clear hMk
            subst M
            have p0 := PB.c 0 rfl; have p1 := PB.c 1 rfl; have q0 := PB.f 0 rfl; have q1 := PB.f 1 rfl
            have pl5 := PB.lt
            have PK : P ≠ K := Nat.ne_of_gt hKP
            have P6 := (PB.far ⟨K, 8, none⟩ (.int .i64 nx) (Ne.symm PK)).set 1 (.int .i64 (nx + 1))
            have own6 := ownsRow_setCell_other (a := ⟨P, 1, none⟩) (ownsRow_setCell_other (a := ⟨K, 8, none⟩) hown (own_nb hown hK1) (.int .i64 nx)) (own_nb hown hP1) (.int .i64 (nx + 1))
            have K6 : AtL ((wr.setCell ⟨K, 8, none⟩ (.int .i64 nx)).setCell ⟨P, 1, none⟩ (.int .i64 (nx + 1))) K (ckL { c with cr := nx }) := (K5.set 8 (.int .i64 nx)).far ⟨P, 1, none⟩ (.int .i64 (nx + 1)) PK
            have hb6 := (((BelowBut.refl P K w4).below hb5 (Nat.le_refl _)).setCell ⟨K, 8, none⟩ (Or.inl rfl) (.int .i64 nx)).setCell ⟨P, 1, none⟩ (Or.inr (Nat.le_refl P)) (.int .i64 (nx + 1))
            have pl6 : P + 1 ≤ ((wr.setCell ⟨K, 8, none⟩ (.int .i64 nx)).setCell ⟨P, 1, none⟩ (.int .i64 (nx + 1))).heap.size := P6.lt
            clear hown p0 p1 q0 q1 z0 z1 z2 z3 z4 z5 z6 z7 z8 f0 f1 f2 f3 f4 f5 f6 f7 f8
            have p0 := PB.c 0 rfl; have p1 := PB.c 1 rfl; have q0 := PB.f 0 rfl; have q1 := PB.f 1 rfl
            have z0 := K5.c 0 rfl; have z1 := K5.c 1 rfl; have z2 := K5.c 2 rfl; have z3 := K5.c 3 rfl; have z4 := K5.c 4 rfl; have z5 := K5.c 5 rfl; have z6 := K5.c 6 rfl; have z7 := K5.c 7 rfl; have z8 := K5.c 8 rfl; have f0 := K5.f 0 rfl; have f1 := K5.f 1 rfl; have f2 := K5.f 2 rfl; have f3 := K5.f 3 rfl; have f4 := K5.f 4 rfl; have f5 := K5.f 5 rfl; have f6 := K5.f 6 rfl; have f7 := K5.f 7 rfl; have f8 := K5.f 8 rfl
            go_upto_region 25 with fail
            obtain ⟨wF, hwF⟩ : ∃ wF : World, (wr.setCell ⟨K, 8, none⟩ (.int .i64 nx)).setCell ⟨P, 1, none⟩ (.int .i64 (nx + 1)) = wF := ⟨_, rfl⟩
            rw [hwF] at P6 own6 K6 hb6 pl6
            rw [hwF]
            clear hwF p0 p1 q0 q1 z0 z1 z2 z3 z4 z5 z6 z7 z8 f0 f1 f2 f3 f4 f5 f6 f7 f8 K5 PB kl5
            have p0 := P6.c 0 rfl; have p1 := P6.c 1 rfl; have q0 := P6.f 0 rfl; have q1 := P6.f 1 rfl
            have z0 := K6.c 0 rfl; have z1 := K6.c 1 rfl; have z2 := K6.c 2 rfl; have z3 := K6.c 3 rfl; have z4 := K6.c 4 rfl; have z5 := K6.c 5 rfl; have z6 := K6.c 6 rfl; have z7 := K6.c 7 rfl; have z8 := K6.c 8 rfl
            have pl6' := P6.lt
            have kl6 := K6.lt
            go_wp2_with (refine app2 slC wF (by rfl) (.tmp 148) (.tmp 150) (by rfl) (P + 1) vo l.length (cellsK ckL l) (by rfl) own6 (ckL { c with cr := nx }) 1 wF.heap.size (by rfl) rfl (by rfl) (one9 _) (by decide) (by omega) (by omega) pl6 ?_; intro v2 w7 hA2 gA fA; obtain ⟨a2, cap, rfl, hcap, hcm, ha2⟩ := own_reads hA2; have PG := P6.grown gA (own_nb own6 hP1); have hb7 := (hb6.below (below_own (Below.refl P _) own6 gA (Nat.le_of_lt pl6) (Nat.le_succ P)) (Nat.le_refl P)); have p0 := PG.c 0 rfl; have q0 := PG.f 0 rfl; have pl7 := PG.lt)
            rcases ha2 with ⟨_, h0⟩ | ⟨g, rfl, hPg, hgw7, hcell7⟩
            · exact absurd h0 (by simp)
            have hv2 : (Value.slice (some ⟨g, 0, none⟩) (l.length + 1) cap).ownBlock ≠ some P := own_nb hA2 hP1
            have own8 := own_eq (ownsRow_setCell_other (a := ⟨P, 0, none⟩) hA2 hv2 (.slice (some ⟨g, 0, none⟩) (l.length + 1) cap)) (by simp : l.length + 1 = (l ++ [c']).length) (by rw [cellsK_app, ← HC'.out]; rfl : cellsK ckL l ++ ckL { c with cr := nx } = cellsK ckL (l ++ [c']))
            have P8 := PG.set 0 (.slice (some ⟨g, 0, none⟩) (l.length + 1) cap)
            have hb8 := hb7.setCell ⟨P, 0, none⟩ (Or.inr (Nat.le_refl P)) (.slice (some ⟨g, 0, none⟩) (l.length + 1) cap)
            have O8 := O4.but hb8 hOP (Nat.ne_of_lt hOK)
            have hbW8 : Below w.heap.size w (w7.setCell ⟨P, 0, none⟩ (.slice (some ⟨g, 0, none⟩) (l.length + 1) cap)) := hb8.to_below hBW4 (by have := HJ.out; omega) (by have := HJ.out; omega)
            have hgw : g < (w7.setCell ⟨P, 0, none⟩ (.slice (some ⟨g, 0, none⟩) (l.length + 1) cap)).heap.size := by rw [World.size_setCell]; exact hgw7
            have hgP : g ≠ P := by omega
            have hgO : g ≠ O := by omega
            obtain ⟨a3, cap3, hv3, _, _, ha3⟩ := own_reads own8
            have hcell9 : ∀ i (hi : i < (l ++ [c']).length) j u, (ckL (l ++ [c'])[i])[j]? = some u → (w7.setCell ⟨P, 0, none⟩ (.slice (some ⟨g, 0, none⟩) (l.length + 1) cap)).cell? ⟨g, i * 9 + j, none⟩ = some u := fun i hi j u hu => by
              rcases ha3 with ⟨rfl, _⟩ | ⟨g3, rfl, _, _, hcc⟩
              · cases hv3
              · injection hv3 with e1
                injection e1 with e1
                injection e1 with e1
                subst e1
                exact hcc _ _ (cellsK_get ckL_len (l ++ [c']) i hi j u hu)
            have HC9 := Lib.hid hcell9
            clear hv3 ha3 hcell7
            clear hcell9 own8 hA2 gA fA PG own6 hb6 hb7 P6 K6 hv2
            obtain ⟨w8, hw8⟩ : ∃ w8 : World, w7.setCell ⟨P, 0, none⟩ (.slice (some ⟨g, 0, none⟩) (l.length + 1) cap) = w8 := ⟨_, rfl⟩
            rw [hw8] at P8 O8 hbW8 hgw HC9 hb8
            rw [hw8]
            clear hw8
            go_loopg [153] q (fun r _ w9 => ∃ (j s cc : Nat), Hid (j + r = q ∧ s + j = l.length + 1 ∧ cc + j = cap) ∧ s ≤ cc ∧ cc ≤ maxLen ∧ AtL w9 P [.slice (some ⟨g, j * 9, none⟩) s cc, .int .i64 (nx + 1)] ∧ BelowBut w8.heap.size P w8 w9)
            case atStart => exact ⟨0, l.length + 1, cap, Lib.hid ⟨by omega, by omega, by omega⟩, hcap, hcm, P8, BelowBut.refl _ _ _⟩
            case round =>
              obtain ⟨j, s, cc, hjs, hsc, hcm2, P9, hb9⟩ := hrel
              unfold maxLen at hcm2
              have O9 := O8.but hb9 O8.lt (Nat.ne_of_lt hOP)
              have p0 := P9.c 0 rfl; have p1 := P9.c 1 rfl; have n0 := P9.f 0 rfl; have n1 := P9.f 1 rfl
              have o0 := O9.c 0 rfl; have o1 := O9.c 1 rfl; have e0 := O9.f 0 rfl; have e1 := O9.f 1 rfl
              have pl9 := P9.lt
              have ol9 := O9.lt
              rcases Nat.eq_zero_or_pos gk with hr0 | hr0
              · have hs200 : ¬ (s : Int) > 200 := by
                  obtain ⟨h1, h2, h3⟩ := hjs.out
                  rcases HQ.out with ⟨h4, h5⟩ | h4 <;> omega
                have HR0 := Lib.hid hr0
                clear hr0
                go_wp2_with fail
                obtain ⟨h1, h2, h3⟩ := hjs.out
                have hr0 := HR0.out
                have hLn : (l ++ [c']).length = l.length + 1 := by simp
                obtain rfl : j = q := by omega
                have es : s = (l ++ [c']).length - j := by rw [hLn]; omega
                have ec : cc = cap - j := by omega
                have hjL : j < (l ++ [c']).length := by rw [hLn]; rcases HQ.out with ⟨h4, h5⟩ | h4 <;> omega
                have hcell := HC9.out
                have hg9 : g < wr.heap.size := Nat.lt_of_lt_of_le hgw hb9.size
                have hcF : ∀ i (hi : i < (l ++ [c']).length) j' u, (ckL (l ++ [c'])[i])[j']? = some u → ((wr.setCell ⟨O, 0, none⟩ (.slice (some ⟨g, j * 9, none⟩) s cc)).setCell ⟨O, 1, none⟩ (.int .i64 (nx + 1))).cell? ⟨g, i * 9 + j', none⟩ = some u := fun i hi j' u hu =>
                  (World.cell?_setCell_other _ _ _ _ (fun e => hgO (congrArg Addr.block e).symm)).trans ((World.cell?_setCell_other _ _ _ _ (fun e => hgO (congrArg Addr.block e).symm)).trans ((hb9.cell (p := ⟨g, i * 9 + j', none⟩) hgw hgP).trans (hcell i hi j' u hu)))
                have hSl : SlK ckL 9 ((wr.setCell ⟨O, 0, none⟩ (.slice (some ⟨g, j * 9, none⟩) s cc)).setCell ⟨O, 1, none⟩ (.int .i64 (nx + 1))) (.slice (some ⟨g, j * 9, none⟩) s cc) ((l ++ [c']).drop j) := by
                  have := drop_cells (l ++ [c']) j g cap _ (by rw [World.size_setCell, World.size_setCell]; exact hg9) (by rw [hLn]; exact hcap) hcm hjL hcF
                  rw [← es, ← ec] at this
                  exact this
                obtain rfl := HJ.out
                have hbW9 : Below w.heap.size w wr := hb9.to_below hbW8 hbW8.size (by omega)
                refine bodyPost_ret (ret2x_run (q := 10) (r := 11) (T := 46) (by rfl) (fun w => by kernel_rfl) (fun w => by kernel_rfl) _ _ O (.slice (some ⟨g, j * 9, none⟩) s cc) (.int .i64 (nx + 1)) (.int .i64 0) (by rfl) (by rfl) ((O9.set 0 _).set 1 _)) rfl (RsQ.mk hSl ((hbW9.setCell (p := ⟨O, 0, none⟩) (by show w.heap.size ≤ O; omega) _).setCell (p := ⟨O, 1, none⟩) (by show w.heap.size ≤ O; omega) _))
              · have hs200 : (s : Int) > 200 := by
                  obtain ⟨h1, h2, h3⟩ := hjs.out
                  rcases HQ.out with ⟨h4, h5⟩ | h4 <;> omega
                have hcc1 : ¬ cc = 1 := by omega
                have hs1 : (1 : Int) ≤ (s : Int) := by omega
                have hs2 : (s : Int) ≤ (cc : Int) := by omega
                have hs3 : (1 : Int) ≤ (cc : Int) := by omega
                go_wp2_with fail
                go_roundg (gk - 1)
                case measure => omega
                case rel => exact ⟨j + 1, s - 1, cc - 1, (by have := hjs.out; exact Lib.hid ⟨by omega, by omega, by omega⟩), by omega, by unfold maxLen; omega, (by rw [show (j + 1) * 9 = j * 9 + 9 by omega]; exact P9.set 0 _), hb9.setCell ⟨P, 0, none⟩ (Or.inl rfl) _⟩
end Go.Proofs.YtgjooigolgdocaaGreatDoor
