/- Cookies: the walk of the reference's Parse: its early ends. -/
import Derived.Test.YtgjooigolgdocaaGreatDoorCJ
import Derived.Deep.RegionHeld3
import Derived.Deep.DeepCutAuto
namespace Go.Proofs.YtgjooigolgdocaaGreatDoor
set_option linter.unusedVariables false
set_option linter.unusedSimpArgs false
open Go.RowKit

set_option maxRecDepth 20000 in
set_option maxHeartbeats 1000000 in
theorem rparse_no (s a b c d e f : ByteArray) (now : Int) (w : World) (hz : USize 40000 a b c d e f) (hM : MaxAt w) (hT : takesB (u6 a b c d e f) = false) :
    Calls Tryz.prog 13 #[.string s, urlA a b c d e f, .int .i64 now] w fun x w' => x = .returned (resC (ck0, 7)) ∧ Below w.heap.size w w' := by
  have CT := Lib.hid (fun w hM => has_is a b c d e f false hT w hz hM)
  have A0 := AtL.new w (urlL a b c d e f) 23
  have A1 := (A0.alloc (.cells ck0V.toArray 29)).alloc (.cells ck0V.toArray 29)
  have R0 := AtL.new (w.alloc (.cells (urlL a b c d e f).toArray 23)) ck0V 29
  have R1 := R0.alloc (.cells ck0V.toArray 29)
  have Z1 := AtL.new ((w.alloc (.cells (urlL a b c d e f).toArray 23)).alloc (.cells ck0V.toArray 29)) ck0V 29
  have hB1 : Below w.heap.size w (((w.alloc (.cells (urlL a b c d e f).toArray 23)).alloc (.cells ck0V.toArray 29)).alloc (.cells ck0V.toArray 29)) := (((Below.refl _ w).alloc (Nat.le_refl _) _).alloc (by simp) _).alloc (by simp; omega) _
  have hM1 := hM.below hB1 (Nat.le_refl _)
  rw [show (w.alloc (.cells (urlL a b c d e f).toArray 23)).heap.size = w.heap.size + 1 by simp] at R1
  rw [show ((w.alloc (.cells (urlL a b c d e f).toArray 23)).alloc (.cells ck0V.toArray 29)).heap.size = w.heap.size + 1 + 1 by simp] at Z1
  clear A0 R0
  clear hT hz hM
  go_enter Tryz.func13, Tryz.ntmps13
  go_wp2_with
    (go_at_call 44; with_reducible refine (CT.out _ hM1).mono ?_; rintro x w1 ⟨rfl, hb1⟩; have hB2 := hB1.trans (hb1.mono hB1.size); have R2 := R1.next hb1; have A2 := A1.next hb1; have Z2 := Z1.next hb1; have hM2 := hM1.below hb1 (Nat.le_refl _); have r0 := R2.c 0 rfl; have r1 := R2.c 1 rfl; have r2 := R2.c 2 rfl; have r3 := R2.c 3 rfl; have r4 := R2.c 4 rfl; have r5 := R2.c 5 rfl; have r6 := R2.c 6 rfl; have r7 := R2.c 7 rfl; have r8 := R2.c 8 rfl; have q0 := R2.f 0 rfl; have q1 := R2.f 1 rfl; have q2 := R2.f 2 rfl; have q3 := R2.f 3 rfl; have q4 := R2.f 4 rfl; have q5 := R2.f 5 rfl; have q6 := R2.f 6 rfl; have q7 := R2.f 7 rfl; have q8 := R2.f 8 rfl; have z0 := Z2.c 0 rfl; have z1 := Z2.c 1 rfl; have z2 := Z2.c 2 rfl; have z3 := Z2.c 3 rfl; have z4 := Z2.c 4 rfl; have z5 := Z2.c 5 rfl; have z6 := Z2.c 6 rfl; have z7 := Z2.c 7 rfl; have z8 := Z2.c 8 rfl; have hk2 := R2.lt; have hk3 := Z2.lt; have u1 := A2.c 1 rfl; have u3 := A2.c 3 rfl)
  exact bodyPost_ret (ret9_run Tryz.results13 Tryz.sizeOf29 Tryz.isAgg29 _ _ _ _ _ _ _ _ _ _ _ _ _ rfl rfl (R2.set9 rfl _ _ _ _ _ _ _ _ _)) rfl ⟨rfl, below_set9 hB2 (Nat.le_succ _) _ _ _ _ _ _ _ _ _⟩
set_option maxRecDepth 20000 in
set_option maxHeartbeats 4000000 in
theorem rparse_ctl (s a b c d e f : ByteArray) (now : Int) (w : World) (hs : s.size ≤ 100000) (hz : USize 40000 a b c d e f) (hM : MaxAt w) (hT : takesB (u6 a b c d e f) = true) (hctl : ctlL s.data.toList = true) :
    Calls Tryz.prog 13 #[.string s, urlA a b c d e f, .int .i64 now] w fun x w' => x = .returned (resC (ck0, 4)) ∧ Below w.heap.size w w' := by
  have CT := Lib.hid (fun w hM => has_is a b c d e f true hT w hz hM)
  obtain ⟨dp, hdp⟩ : ∃ dp, bs (defpL d.data.toList) = dp := ⟨_, rfl⟩
  have cD := fun w => rdefp_is d w (by have := hz.d; omega)
  rw [hdp] at cD
  have CD := Lib.hid cD
  have A0 := AtL.new w (urlL a b c d e f) 23
  have A1 := (A0.alloc (.cells ck0V.toArray 29)).alloc (.cells ck0V.toArray 29)
  have R0 := AtL.new (w.alloc (.cells (urlL a b c d e f).toArray 23)) ck0V 29
  have R1 := R0.alloc (.cells ck0V.toArray 29)
  have Z1 := AtL.new ((w.alloc (.cells (urlL a b c d e f).toArray 23)).alloc (.cells ck0V.toArray 29)) ck0V 29
  have hB1 : Below w.heap.size w (((w.alloc (.cells (urlL a b c d e f).toArray 23)).alloc (.cells ck0V.toArray 29)).alloc (.cells ck0V.toArray 29)) := (((Below.refl _ w).alloc (Nat.le_refl _) _).alloc (by simp) _).alloc (by simp; omega) _
  have hM1 := hM.below hB1 (Nat.le_refl _)
  rw [show (w.alloc (.cells (urlL a b c d e f).toArray 23)).heap.size = w.heap.size + 1 by simp] at R1
  rw [show ((w.alloc (.cells (urlL a b c d e f).toArray 23)).alloc (.cells ck0V.toArray 29)).heap.size = w.heap.size + 1 + 1 by simp] at Z1
  clear A0 R0
  clear hT hM hdp cD
  go_enter Tryz.func13, Tryz.ntmps13
  go_upto_region 4 with
    (go_at_call 44; with_reducible refine (CT.out _ hM1).mono ?_; rintro x w1 ⟨rfl, hb1⟩; have hB2 := hB1.trans (hb1.mono hB1.size); have R2 := R1.next hb1; have A2 := A1.next hb1; have Z2 := Z1.next hb1; have hM2 := hM1.below hb1 (Nat.le_refl _); have r0 := R2.c 0 rfl; have r1 := R2.c 1 rfl; have r2 := R2.c 2 rfl; have r3 := R2.c 3 rfl; have r4 := R2.c 4 rfl; have r5 := R2.c 5 rfl; have r6 := R2.c 6 rfl; have r7 := R2.c 7 rfl; have r8 := R2.c 8 rfl; have q0 := R2.f 0 rfl; have q1 := R2.f 1 rfl; have q2 := R2.f 2 rfl; have q3 := R2.f 3 rfl; have q4 := R2.f 4 rfl; have q5 := R2.f 5 rfl; have q6 := R2.f 6 rfl; have q7 := R2.f 7 rfl; have q8 := R2.f 8 rfl; have z0 := Z2.c 0 rfl; have z1 := Z2.c 1 rfl; have z2 := Z2.c 2 rfl; have z3 := Z2.c 3 rfl; have z4 := Z2.c 4 rfl; have z5 := Z2.c 5 rfl; have z6 := Z2.c 6 rfl; have z7 := Z2.c 7 rfl; have z8 := Z2.c 8 rfl; have hk2 := R2.lt; have hk3 := Z2.lt; have u1 := A2.c 1 rfl; have u3 := A2.c 3 rfl)
  go_cut [9] (fun p9 wx => ∃ K, p9 = .pointer (some ⟨K, 0, none⟩) ∧ w1.heap.size ≤ K ∧ AtL wx K (ckL ⟨⟨#[]⟩, ⟨#[]⟩, b, dp, true, false, false, -1, 0⟩) ∧ Below w1.heap.size w1 wx)
  case first =>
    clear A1 A2 R1 R2 Z1 Z2
    go_region_held3 (fun w' => w'.cell? ⟨w.heap.size, 1, none⟩ = some (.string b) ∧ w'.cell? ⟨w.heap.size, 3, none⟩ = some (.string d)) (go_keep) (first | (go_at_call 19; with_reducible refine (CD.out _).mono ?_; rintro x w5 ⟨rfl, rfl⟩))
    all_goals
      go_wp2_with fail
      go_meet
      exact ⟨w1.heap.size, rfl, Nat.le_refl _, (AtL.new w1 (ckL ⟨⟨#[]⟩, ⟨#[]⟩, b, dp, true, false, false, -1, 0⟩) 29).drew, ((Below.refl _ w1).alloc (Nat.le_refl _) _).drew⟩
  case rest =>
    obtain ⟨K, rfl, hK, AK, hBK⟩ := hcut
    have R6 := R2.below hBK R2.lt
    have Z6 := Z2.below hBK Z2.lt
    have hB6 := hB2.trans (hBK.mono hB2.size)
    have r0 := R6.c 0 rfl; have r1 := R6.c 1 rfl; have r2 := R6.c 2 rfl; have r3 := R6.c 3 rfl; have r4 := R6.c 4 rfl; have r5 := R6.c 5 rfl; have r6 := R6.c 6 rfl; have r7 := R6.c 7 rfl; have r8 := R6.c 8 rfl; have q0 := R6.f 0 rfl; have q1 := R6.f 1 rfl; have q2 := R6.f 2 rfl; have q3 := R6.f 3 rfl; have q4 := R6.f 4 rfl; have q5 := R6.f 5 rfl; have q6 := R6.f 6 rfl; have q7 := R6.f 7 rfl; have q8 := R6.f 8 rfl
    have z0 := Z6.c 0 rfl; have z1 := Z6.c 1 rfl; have z2 := Z6.c 2 rfl; have z3 := Z6.c 3 rfl; have z4 := Z6.c 4 rfl; have z5 := Z6.c 5 rfl; have z6 := Z6.c 6 rfl; have z7 := Z6.c 7 rfl; have z8 := Z6.c 8 rfl
    have k6 := R6.lt
    have k7 := Z6.lt
    have Hctl := Lib.hid hctl
    clear A1 A2 R1 R2 Z1 Z2 hM1 hM2 hb1 CT CD u1 u3 hk2 hk3 hctl
    go_wp2_with fail
    go_loop [10] (fun i => ∃ k : Nat, k ≤ s.size ∧ i = .int .i64 k ∧ (s.data.toList.take k).any ctlB = false) (fun i => s.size - (intOf i).toNat)
    case atStart => exact ⟨0, Nat.zero_le _, rfl, rfl⟩
    case round =>
      have hctl : ctlL s.data.toList = false → False := fun h => by have := Hctl.out; rw [h] at this; cases this
      have HX := Lib.hid hctl
      clear hctl
      obtain ⟨k, hk, rfl, hany⟩ := hrel
      by_cases hlt : k < s.size
      · have hsn := ctl_snoc s k hlt
        have hfo := ctl_found s k hlt
        have hki : (k : Int) < (s.size : Int) := by omega
        rw [hany, Bool.false_or] at hsn
        rcases ctl_cases s[k] with ⟨hc, hh⟩ | ⟨hc, hh⟩
        · have HCT := Lib.hid (hfo hc)
          clear hsn hfo hc hany
          rcases hh with ⟨h1, h2⟩ | ⟨h1, h2⟩
          · have h3 : ((s[k].toNat : Int) != 9) = true := by simp [h2]
            clear h2
            go_wp2_with fail
            exact bodyPost_ret (ret9_run Tryz.results13 Tryz.sizeOf29 Tryz.isAgg29 _ _ _ _ _ _ _ _ _ _ _ _ _ rfl rfl (R6.set9 rfl _ _ _ _ _ _ _ _ _)) rfl ⟨rfl, below_set9 hB6 (Nat.le_succ _) _ _ _ _ _ _ _ _ _⟩
          · have h3 : ((s[k].toNat : Int) == 127) = true := by simp [h2]
            clear h2
            go_wp2_with fail
            exact bodyPost_ret (ret9_run Tryz.results13 Tryz.sizeOf29 Tryz.isAgg29 _ _ _ _ _ _ _ _ _ _ _ _ _ rfl rfl (R6.set9 rfl _ _ _ _ _ _ _ _ _)) rfl ⟨rfl, below_set9 hB6 (Nat.le_succ _) _ _ _ _ _ _ _ _ _⟩
        · rw [hc] at hsn
          have HSN := Lib.hid hsn
          clear hsn hfo hc hany
          rcases hh with h1 | ⟨h1, h2⟩
          · have h1' : (s[k].toNat : Int) < 32 := by omega
            have h3 : ((s[k].toNat : Int) != 9) = false := by simp [h1]
            have h4 : ((s[k].toNat : Int) == 127) = false := by simp [h1]
            clear h1
            go_wp2_with fail
            go_round
            case rel => exact ⟨k + 1, by omega, by go_num, HSN.out⟩
            case measure => simp [intOf]; omega
          · have h4 : ((s[k].toNat : Int) == 127) = false := by simp [h2]
            clear h2
            go_wp2_with fail
            go_round
            case rel => exact ⟨k + 1, by omega, by go_num, HSN.out⟩
            case measure => simp [intOf]; omega
      · obtain rfl : k = s.size := by omega
        have HCT := Lib.hid (ctl_none s hany)
        clear hany
        exact (HX.out HCT.out).elim
end Go.Proofs.YtgjooigolgdocaaGreatDoor
