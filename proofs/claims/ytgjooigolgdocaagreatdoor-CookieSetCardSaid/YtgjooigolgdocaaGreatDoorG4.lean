import Derived.Test.YtgjooigolgdocaaGreatDoorCJ
import Derived.Deep.RegionHeld3
import Derived.Deep.DeepCutAuto
import Derived.Deep.QuietTactic
import Derived.BigQuiet
/- Cookies: the walk of the reference's Parse: its early ends. -/
namespace Go.Proofs.YtgjooigolgdocaaGreatDoor
set_option linter.unusedVariables false
set_option linter.unusedSimpArgs false
open Go.RowKit

set_option maxRecDepth 20000 in
set_option maxHeartbeats 1000000 in
theorem rparse_no (s a b c d e f : ByteArray) (now : Int) (w : World) (hz : USize 40000 a b c d e f) (hM : MaxAt w) (hT : takesB (u6 a b c d e f) = false) :
    Calls Tryz.prog 13 #[.string s, urlA a b c d e f, .int .i64 now] w fun x w' => x = .returned (resC (ck0, 7)) ∧ Below w.heap.size w w' := by
  have CT := Lib.hid (fun w hM => has_is a b c d e f false hT w hz hM)
  have A0 := AtL.new w (urlL a b c d e f) 23
  have A1 := (A0.alloc (.cells ck0V.toArray 29)).alloc (.cells ck0V.toArray 29)
  have R0 := AtL.new (w.alloc (.cells (urlL a b c d e f).toArray 23)) ck0V 29
  have R1 := R0.alloc (.cells ck0V.toArray 29)
  have Z1 := AtL.new ((w.alloc (.cells (urlL a b c d e f).toArray 23)).alloc (.cells ck0V.toArray 29)) ck0V 29
  have hB1 : Below w.heap.size w (((w.alloc (.cells (urlL a b c d e f).toArray 23)).alloc (.cells ck0V.toArray 29)).alloc (.cells ck0V.toArray 29)) := (((Below.refl _ w).alloc (Nat.le_refl _) _).alloc (by simp) _).alloc (by simp; omega) _
  have hM1 := hM.below hB1 (Nat.le_refl _)
  rw [show (w.alloc (.cells (urlL a b c d e f).toArray 23)).heap.size = w.heap.size + 1 by simp] at R1
  rw [show ((w.alloc (.cells (urlL a b c d e f).toArray 23)).alloc (.cells ck0V.toArray 29)).heap.size = w.heap.size + 1 + 1 by simp] at Z1
  clear A0 R0
  clear hT hz hM
  go_enter Tryz.func13, Tryz.ntmps13
  go_wp2_with
    (go_at_call 44; with_reducible refine (CT.out _ hM1).mono ?_; rintro x w1 ⟨rfl, hb1⟩; have hB2 := hB1.trans (hb1.mono hB1.size); have R2 := R1.next hb1; have A2 := A1.next hb1; have Z2 := Z1.next hb1; have hM2 := hM1.below hb1 (Nat.le_refl _); have r0 := R2.c 0 rfl; have r1 := R2.c 1 rfl; have r2 := R2.c 2 rfl; have r3 := R2.c 3 rfl; have r4 := R2.c 4 rfl; have r5 := R2.c 5 rfl; have r6 := R2.c 6 rfl; have r7 := R2.c 7 rfl; have r8 := R2.c 8 rfl; have q0 := R2.f 0 rfl; have q1 := R2.f 1 rfl; have q2 := R2.f 2 rfl; have q3 := R2.f 3 rfl; have q4 := R2.f 4 rfl; have q5 := R2.f 5 rfl; have q6 := R2.f 6 rfl; have q7 := R2.f 7 rfl; have q8 := R2.f 8 rfl; have z0 := Z2.c 0 rfl; have z1 := Z2.c 1 rfl; have z2 := Z2.c 2 rfl; have z3 := Z2.c 3 rfl; have z4 := Z2.c 4 rfl; have z5 := Z2.c 5 rfl; have z6 := Z2.c 6 rfl; have z7 := Z2.c 7 rfl; have z8 := Z2.c 8 rfl; have hk2 := R2.lt; have hk3 := Z2.lt; have u1 := A2.c 1 rfl; have u3 := A2.c 3 rfl)
  exact bodyPost_ret (ret9_run Tryz.results13 Tryz.sizeOf29 Tryz.isAgg29 _ _ _ _ _ _ _ _ _ _ _ _ _ rfl rfl (R2.set9 rfl _ _ _ _ _ _ _ _ _)) rfl ⟨rfl, below_set9 hB2 (Nat.le_succ _) _ _ _ _ _ _ _ _ _⟩
set_option maxRecDepth 20000 in
set_option maxHeartbeats 4000000 in
theorem rparse_ctl (s a b c d e f : ByteArray) (now : Int) (w : World) (hs : s.size ≤ 100000) (hz : USize 40000 a b c d e f) (hM : MaxAt w) (hT : takesB (u6 a b c d e f) = true) (hctl : ctlL s.data.toList = true) :
    Calls Tryz.prog 13 #[.string s, urlA a b c d e f, .int .i64 now] w fun x w' => x = .returned (resC (ck0, 4)) ∧ Below w.heap.size w w' := by
  have CT := Lib.hid (fun w hM => has_is a b c d e f true hT w hz hM)
  obtain ⟨dp, hdp⟩ : ∃ dp, bs (defpL d.data.toList) = dp := ⟨_, rfl⟩
  have cD := fun w => rdefp_is d w (by have := hz.d; omega)
  rw [hdp] at cD
  have CD := Lib.hid cD
  have A0 := AtL.new w (urlL a b c d e f) 23
  have A1 := (A0.alloc (.cells ck0V.toArray 29)).alloc (.cells ck0V.toArray 29)
  have R0 := AtL.new (w.alloc (.cells (urlL a b c d e f).toArray 23)) ck0V 29
  have R1 := R0.alloc (.cells ck0V.toArray 29)
  have Z1 := AtL.new ((w.alloc (.cells (urlL a b c d e f).toArray 23)).alloc (.cells ck0V.toArray 29)) ck0V 29
  have hB1 : Below w.heap.size w (((w.alloc (.cells (urlL a b c d e f).toArray 23)).alloc (.cells ck0V.toArray 29)).alloc (.cells ck0V.toArray 29)) := (((Below.refl _ w).alloc (Nat.le_refl _) _).alloc (by simp) _).alloc (by simp; omega) _
  have hM1 := hM.below hB1 (Nat.le_refl _)
  rw [show (w.alloc (.cells (urlL a b c d e f).toArray 23)).heap.size = w.heap.size + 1 by simp] at R1
  rw [show ((w.alloc (.cells (urlL a b c d e f).toArray 23)).alloc (.cells ck0V.toArray 29)).heap.size = w.heap.size + 1 + 1 by simp] at Z1
  clear A0 R0
  clear hT hM hdp cD
  go_enter Tryz.func13, Tryz.ntmps13
  go_upto_region 4 with
    (go_at_call 44; with_reducible refine (CT.out _ hM1).mono ?_; rintro x w1 ⟨rfl, hb1⟩; have hB2 := hB1.trans (hb1.mono hB1.size); have R2 := R1.next hb1; have A2 := A1.next hb1; have Z2 := Z1.next hb1; have hM2 := hM1.below hb1 (Nat.le_refl _); have r0 := R2.c 0 rfl; have r1 := R2.c 1 rfl; have r2 := R2.c 2 rfl; have r3 := R2.c 3 rfl; have r4 := R2.c 4 rfl; have r5 := R2.c 5 rfl; have r6 := R2.c 6 rfl; have r7 := R2.c 7 rfl; have r8 := R2.c 8 rfl; have q0 := R2.f 0 rfl; have q1 := R2.f 1 rfl; have q2 := R2.f 2 rfl; have q3 := R2.f 3 rfl; have q4 := R2.f 4 rfl; have q5 := R2.f 5 rfl; have q6 := R2.f 6 rfl; have q7 := R2.f 7 rfl; have q8 := R2.f 8 rfl; have z0 := Z2.c 0 rfl; have z1 := Z2.c 1 rfl; have z2 := Z2.c 2 rfl; have z3 := Z2.c 3 rfl; have z4 := Z2.c 4 rfl; have z5 := Z2.c 5 rfl; have z6 := Z2.c 6 rfl; have z7 := Z2.c 7 rfl; have z8 := Z2.c 8 rfl; have hk2 := R2.lt; have hk3 := Z2.lt; have u1 := A2.c 1 rfl; have u3 := A2.c 3 rfl)
  go_cut [9] (fun p9 wx => ∃ K, p9 = .pointer (some ⟨K, 0, none⟩) ∧ w1.heap.size ≤ K ∧ AtL wx K (ckL ⟨⟨#[]⟩, ⟨#[]⟩, b, dp, true, false, false, -1, 0⟩) ∧ Below w1.heap.size w1 wx)
  case first =>
    clear A1 A2 R1 R2 Z1 Z2
    go_region_held3 (fun w' => w'.cell? ⟨w.heap.size, 1, none⟩ = some (.string b) ∧ w'.cell? ⟨w.heap.size, 3, none⟩ = some (.string d)) (go_keep) (first | (go_at_call 19; with_reducible refine (CD.out _).mono ?_; rintro x w5 ⟨rfl, rfl⟩))
    all_goals
      go_wp2_with fail
      go_meet
      exact ⟨w1.heap.size, rfl, Nat.le_refl _, (AtL.new w1 (ckL ⟨⟨#[]⟩, ⟨#[]⟩, b, dp, true, false, false, -1, 0⟩) 29).drew, ((Below.refl _ w1).alloc (Nat.le_refl _) _).drew⟩
  case rest =>
    obtain ⟨K, rfl, hK, AK, hBK⟩ := hcut
    have R6 := R2.below hBK R2.lt
    have Z6 := Z2.below hBK Z2.lt
    have hB6 := hB2.trans (hBK.mono hB2.size)
    have r0 := R6.c 0 rfl; have r1 := R6.c 1 rfl; have r2 := R6.c 2 rfl; have r3 := R6.c 3 rfl; have r4 := R6.c 4 rfl; have r5 := R6.c 5 rfl; have r6 := R6.c 6 rfl; have r7 := R6.c 7 rfl; have r8 := R6.c 8 rfl; have q0 := R6.f 0 rfl; have q1 := R6.f 1 rfl; have q2 := R6.f 2 rfl; have q3 := R6.f 3 rfl; have q4 := R6.f 4 rfl; have q5 := R6.f 5 rfl; have q6 := R6.f 6 rfl; have q7 := R6.f 7 rfl; have q8 := R6.f 8 rfl
    have z0 := Z6.c 0 rfl; have z1 := Z6.c 1 rfl; have z2 := Z6.c 2 rfl; have z3 := Z6.c 3 rfl; have z4 := Z6.c 4 rfl; have z5 := Z6.c 5 rfl; have z6 := Z6.c 6 rfl; have z7 := Z6.c 7 rfl; have z8 := Z6.c 8 rfl
    have k6 := R6.lt
    have k7 := Z6.lt
    have Hctl := Lib.hid hctl
    clear A1 A2 R1 R2 Z1 Z2 hM1 hM2 hb1 CT CD u1 u3 hk2 hk3 hctl
    go_wp2_with fail
    go_loop [10] (fun i => ∃ k : Nat, k ≤ s.size ∧ i = .int .i64 k ∧ (s.data.toList.take k).any ctlB = false) (fun i => s.size - (intOf i).toNat)
    case atStart => exact ⟨0, Nat.zero_le _, rfl, rfl⟩
    case round =>
      have hctl : ctlL s.data.toList = false → False := fun h => by have := Hctl.out; rw [h] at this; cases this
      have HX := Lib.hid hctl
      clear hctl
      obtain ⟨k, hk, rfl, hany⟩ := hrel
      by_cases hlt : k < s.size
      · have hsn := ctl_snoc s k hlt
        have hfo := ctl_found s k hlt
        have hki : (k : Int) < (s.size : Int) := by omega
        rw [hany, Bool.false_or] at hsn
        rcases ctl_cases s[k] with ⟨hc, hh⟩ | ⟨hc, hh⟩
        · have HCT := Lib.hid (hfo hc)
          clear hsn hfo hc hany
          rcases hh with ⟨h1, h2⟩ | ⟨h1, h2⟩
          · have h3 : ((s[k].toNat : Int) != 9) = true := by simp [h2]
            clear h2
            go_wp2_with fail
            exact bodyPost_ret (ret9_run Tryz.results13 Tryz.sizeOf29 Tryz.isAgg29 _ _ _ _ _ _ _ _ _ _ _ _ _ rfl rfl (R6.set9 rfl _ _ _ _ _ _ _ _ _)) rfl ⟨rfl, below_set9 hB6 (Nat.le_succ _) _ _ _ _ _ _ _ _ _⟩
          · have h3 : ((s[k].toNat : Int) == 127) = true := by simp [h2]
            clear h2
            go_wp2_with fail
            exact bodyPost_ret (ret9_run Tryz.results13 Tryz.sizeOf29 Tryz.isAgg29 _ _ _ _ _ _ _ _ _ _ _ _ _ rfl rfl (R6.set9 rfl _ _ _ _ _ _ _ _ _)) rfl ⟨rfl, below_set9 hB6 (Nat.le_succ _) _ _ _ _ _ _ _ _ _⟩
        · rw [hc] at hsn
          have HSN := Lib.hid hsn
          clear hsn hfo hc hany
          rcases hh with h1 | ⟨h1, h2⟩
          · have h1' : (s[k].toNat : Int) < 32 := by omega
            have h3 : ((s[k].toNat : Int) != 9) = false := by simp [h1]
            have h4 : ((s[k].toNat : Int) == 127) = false := by simp [h1]
            clear h1
            go_wp2_with fail
            go_round
            case rel => exact ⟨k + 1, by omega, by go_num, HSN.out⟩
            case measure => simp [intOf]; omega
          · have h4 : ((s[k].toNat : Int) == 127) = false := by simp [h2]
            clear h2
            go_wp2_with fail
            go_round
            case rel => exact ⟨k + 1, by omega, by go_num, HSN.out⟩
            case measure => simp [intOf]; omega
      · obtain rfl : k = s.size := by omega
        have HCT := Lib.hid (ctl_none s hany)
        clear hany
        exact (HX.out HCT.out).elim
end Go.Proofs.YtgjooigolgdocaaGreatDoor

/- Cookies: the walk of the reference's Parse: the fields. -/
namespace Go.Proofs.YtgjooigolgdocaaGreatDoor
set_option linter.unusedVariables false
set_option linter.unusedSimpArgs false
open Go.RowKit

theorem startsq_is (s t : ByteArray) (H : Bool) (hH : Lib.hasPrefix s.data.toList t.data.toList = H) (w : World) (hs : s.size ≤ 1000000) (ht : t.size ≤ 1000000) :
    Calls Tryz.prog 51 #[.string s, .string t] w fun e w' => e = .returned (.bool H) ∧ w = w' := by
  have := starts_any s t w hs ht
  rwa [hH] at this
theorem pre_pos (s : ByteArray) (h : Lib.hasPrefix s.data.toList [46] = true) : 0 < s.size := by
  have := hasPrefix_drop h
  rw [← size_len, this]; simp
theorem pre_full (c : UInt8) (l : List UInt8) : (pre c l).length = l.length ↔ l.contains c = false := by
  constructor
  · intro h
    cases hh : l.contains c with
    | false => rfl
    | true =>
      have e := congrArg List.length (pre_post c l (List.contains_iff_mem.1 hh))
      rw [List.length_append, List.length_cons] at e
      omega
  · intro h
    rw [pre_all c l (fun hm => by rw [List.contains_iff_mem.2 hm] at h; cases h)]
set_option maxRecDepth 20000 in
set_option maxHeartbeats 8000000 in
theorem rparse_main (s a b c d e f : ByteArray) (now : Int) (w : World) (hs : s.size ≤ 100000) (hz : USize 40000 a b c d e f) (hM : MaxAt w) (hT : takesB (u6 a b c d e f) = true) (hctl : ctlL s.data.toList = false)
    (R : Ck × Int) (hR : ∃ p0 pr, segs 59 s.data.toList = p0 :: pr ∧ (if p0.contains 61 = false ∨ trimC (pre 61 p0) = [] then (ck0, 4) else lastC b.data.toList a.data.toList (pr.foldl (stepC b (bs (defpL d.data.toList)) now) (firstC b (bs (defpL d.data.toList)) p0))) = R) :
    Calls Tryz.prog 13 #[.string s, urlA a b c d e f, .int .i64 now] w fun x w' => x = .returned (resC R) ∧ Below w.heap.size w w' := by
  have CT := Lib.hid (fun w hM => has_is a b c d e f true hT w hz hM)
  obtain ⟨dp, hdp⟩ : ∃ dp, bs (defpL d.data.toList) = dp := ⟨_, rfl⟩
  have cD := fun w => rdefp_is d w (by have := hz.d; omega)
  rw [hdp] at cD hR
  have CD := Lib.hid cD
  have CSg := Lib.hid (fun w => seg59 s w (by omega))
  have HR0 := Lib.hid hR
  have A0 := AtL.new w (urlL a b c d e f) 23
  have A1 := (A0.alloc (.cells ck0V.toArray 29)).alloc (.cells ck0V.toArray 29)
  have R0 := AtL.new (w.alloc (.cells (urlL a b c d e f).toArray 23)) ck0V 29
  have R1 := R0.alloc (.cells ck0V.toArray 29)
  have Z1 := AtL.new ((w.alloc (.cells (urlL a b c d e f).toArray 23)).alloc (.cells ck0V.toArray 29)) ck0V 29
  have hB1 : Below w.heap.size w (((w.alloc (.cells (urlL a b c d e f).toArray 23)).alloc (.cells ck0V.toArray 29)).alloc (.cells ck0V.toArray 29)) := (((Below.refl _ w).alloc (Nat.le_refl _) _).alloc (by simp) _).alloc (by simp; omega) _
  have hM1 := hM.below hB1 (Nat.le_refl _)
  rw [show (w.alloc (.cells (urlL a b c d e f).toArray 23)).heap.size = w.heap.size + 1 by simp] at R1
  rw [show ((w.alloc (.cells (urlL a b c d e f).toArray 23)).alloc (.cells ck0V.toArray 29)).heap.size = w.heap.size + 1 + 1 by simp] at Z1
  clear A0 R0
  clear hT hM hdp cD hR
  go_enter Tryz.func13, Tryz.ntmps13
  go_upto_region 4 with
    (go_at_call 44; with_reducible refine (CT.out _ hM1).mono ?_; rintro x w1 ⟨rfl, hb1⟩; have hB2 := hB1.trans (hb1.mono hB1.size); have R2 := R1.next hb1; have A2 := A1.next hb1; have Z2 := Z1.next hb1; have hM2 := hM1.below hb1 (Nat.le_refl _); have r0 := R2.c 0 rfl; have r1 := R2.c 1 rfl; have r2 := R2.c 2 rfl; have r3 := R2.c 3 rfl; have r4 := R2.c 4 rfl; have r5 := R2.c 5 rfl; have r6 := R2.c 6 rfl; have r7 := R2.c 7 rfl; have r8 := R2.c 8 rfl; have q0 := R2.f 0 rfl; have q1 := R2.f 1 rfl; have q2 := R2.f 2 rfl; have q3 := R2.f 3 rfl; have q4 := R2.f 4 rfl; have q5 := R2.f 5 rfl; have q6 := R2.f 6 rfl; have q7 := R2.f 7 rfl; have q8 := R2.f 8 rfl; have z0 := Z2.c 0 rfl; have z1 := Z2.c 1 rfl; have z2 := Z2.c 2 rfl; have z3 := Z2.c 3 rfl; have z4 := Z2.c 4 rfl; have z5 := Z2.c 5 rfl; have z6 := Z2.c 6 rfl; have z7 := Z2.c 7 rfl; have z8 := Z2.c 8 rfl; have hk2 := R2.lt; have hk3 := Z2.lt; have u1 := A2.c 1 rfl; have u3 := A2.c 3 rfl)
  go_cut [9] (fun p9 wx => ∃ K, p9 = .pointer (some ⟨K, 0, none⟩) ∧ w1.heap.size ≤ K ∧ AtL wx K (ckL ⟨⟨#[]⟩, ⟨#[]⟩, b, dp, true, false, false, -1, 0⟩) ∧ Below w1.heap.size w1 wx)
  case first =>
    clear A1 A2 R1 R2 Z1 Z2
    go_region_held3 (fun w' => w'.cell? ⟨w.heap.size, 1, none⟩ = some (.string b) ∧ w'.cell? ⟨w.heap.size, 3, none⟩ = some (.string d)) (go_keep) (first | (go_at_call 19; with_reducible refine (CD.out _).mono ?_; rintro x w5 ⟨rfl, rfl⟩))
    all_goals
      go_wp2_with fail
      go_meet
      exact ⟨w1.heap.size, rfl, Nat.le_refl _, (AtL.new w1 (ckL ⟨⟨#[]⟩, ⟨#[]⟩, b, dp, true, false, false, -1, 0⟩) 29).drew, ((Below.refl _ w1).alloc (Nat.le_refl _) _).drew⟩
  case rest =>
    obtain ⟨K, rfl, hK, AK, hBK⟩ := hcut
    have R6 := R2.below hBK R2.lt
    have Z6 := Z2.below hBK Z2.lt
    have A6 := A2.below hBK A2.lt
    have hM6 := hM2.below hBK (Nat.le_refl _)
    have hB6 := hB2.trans (hBK.mono hB2.size)
    have hUK : w.heap.size ≠ K := by have := A2.lt; omega
    have hRK : w.heap.size + 1 ≠ K := by have := R2.lt; omega
    have hZK : w.heap.size + 1 + 1 ≠ K := by have := Z2.lt; omega
    have hKw : w.heap.size ≤ K := by have := A2.lt; omega
    clear A1 A2 R1 R2 Z1 Z2 hM1 hM2 hb1 CT u1 u3 hk2 hk3 hB1 hB2 hBK r0 r1 r2 r3 r4 r5 r6 r7 r8 q0 q1 q2 q3 q4 q5 q6 q7 q8 z0 z1 z2 z3 z4 z5 z6 z7 z8
    go_wp2_with fail
    go_loop [10] (fun i => ∃ k : Nat, k ≤ s.size ∧ i = .int .i64 k ∧ (s.data.toList.take k).any ctlB = false) (fun i => s.size - (intOf i).toNat)
    case atStart => exact ⟨0, Nat.zero_le _, rfl, rfl⟩
    case round =>
      obtain ⟨k, hk, rfl, hany⟩ := hrel
      by_cases hlt : k < s.size
      · have hsn := ctl_snoc s k hlt
        have hfo := ctl_found s k hlt
        have hki : (k : Int) < (s.size : Int) := by omega
        rw [hany, Bool.false_or] at hsn
        rcases ctl_cases s[k] with ⟨hc, hh⟩ | ⟨hc, hh⟩
        · have HCT := Lib.hid (hfo hc)
          clear hsn hfo hc hany
          rcases hh with ⟨h1, h2⟩ | ⟨h1, h2⟩
          · have h3 : ((s[k].toNat : Int) != 9) = true := by simp [h2]
            clear h2
            rw [hctl] at HCT
            exact absurd HCT.out (by decide)
          · have h3 : ((s[k].toNat : Int) == 127) = true := by simp [h2]
            clear h2
            rw [hctl] at HCT
            exact absurd HCT.out (by decide)
        · rw [hc] at hsn
          have HSN := Lib.hid hsn
          clear hsn hfo hc hany
          rcases hh with h1 | ⟨h1, h2⟩
          · have h1' : (s[k].toNat : Int) < 32 := by omega
            have h3 : ((s[k].toNat : Int) != 9) = false := by simp [h1]
            have h4 : ((s[k].toNat : Int) == 127) = false := by simp [h1]
            clear h1
            go_wp2_with fail
            go_round
            case rel => exact ⟨k + 1, by omega, by go_num, HSN.out⟩
            case measure => simp [intOf]; omega
          · have h4 : ((s[k].toNat : Int) == 127) = false := by simp [h2]
            clear h2
            go_wp2_with fail
            go_round
            case rel => exact ⟨k + 1, by omega, by go_num, HSN.out⟩
            case measure => simp [intOf]; omega
      · obtain rfl : k = s.size := by omega
        have HCT := Lib.hid (ctl_none s hany)
        clear hany
        clear HCT
        go_wp2_with (go_at_call 45; with_reducible refine (CSg.out _).mono ?_; rintro x w5 ⟨g, cap, ps, rfl, hcp, hcm, hg, hgw, hcl, hps, hb5⟩)
        have hKc := AK.lt
        have hgK : g ≠ K := by omega
        have R7 := R6.next hb5
        have Z7 := Z6.next hb5
        have A7 := A6.next hb5
        have AK7 := AK.next hb5
        have hM7 := hM6.below hb5 (Nat.le_refl _)
        have hB7 := hB6.trans (hb5.mono hB6.size)
        have hU5 : w.heap.size < w5.heap.size := A7.lt
        have hR5 : w.heap.size + 1 < w5.heap.size := R7.lt
        have hZ5 : w.heap.size + 1 + 1 < w5.heap.size := Z7.lt
        have hsz := segs_sizes hps
        have hpl : ps.length ≤ 100001 := by have := hsz.1; omega
        have HQ := Lib.hid (show ∀ p ∈ ps, p.size ≤ 100000 from fun p hp => by have := hsz.2 p hp; omega)
        have HC := Lib.hid hcl
        have hpp : 0 < ps.length := by
          cases ps with
          | nil => exact absurd hps.symm (segs_ne 59 _)
          | cons x r => simp
        have HR := Lib.hid (show ∃ p0 pr, lists ps = p0 :: pr ∧ (if p0.contains 61 = false ∨ trimC (pre 61 p0) = [] then (ck0, 4) else lastC b.data.toList a.data.toList (pr.foldl (stepC b dp now) (firstC b dp p0))) = R from by
          rw [hps]; exact HR0.out)
        clear hcl hps hsz HR0 hb5 R6 Z6 A6 AK hM6 hB6 CSg
        go_loopw [12] (fun iv wr => ∃ (k : Nat) (c : Ck), k ≤ ps.length ∧ iv = .int .i64 k ∧ AtL wr K (ckL c) ∧ BelowBut w5.heap.size K w5 wr ∧ c.d.size ≤ 200000 ∧ (k = 0 → c = ⟨⟨#[]⟩, ⟨#[]⟩, b, dp, true, false, false, -1, 0⟩) ∧ (k ≠ 0 → lastC b.data.toList a.data.toList ((lists (ps.drop k)).foldl (stepC b dp now) c) = R)) (fun iv _ => ps.length - (intOf iv).toNat)
        case atStart => exact ⟨0, _, Nat.zero_le _, rfl, AK7, BelowBut.refl _ _ _, by have := hz.b; show b.size ≤ _; omega, fun _ => rfl, fun h => absurd rfl h⟩
        case round =>
          obtain ⟨k, c, hk, rfl, AK8, hbw, hcd, hc0, hf⟩ := hrel
          have R8 := R7.but hbw hR5 hRK
          have Z8 := Z7.but hbw hZ5 hZK
          have HBX : Below w.heap.size w wr := hbw.to_below hB7 (Nat.le_of_lt hU5) hKw
          by_cases hlt : k < ps.length
          · clear AK7
            have c0 := (hbw.cell (p := ⟨g, k, none⟩) hgw hgK).trans (HC.out k hlt)
            have hqk := HQ.out ps[k] (List.getElem_mem hlt)
            obtain ⟨p, hp⟩ : ∃ p, ps[k] = p := ⟨_, rfl⟩
            obtain ⟨PP, hPP⟩ : ∃ N : ByteArray, N.data.toList = trimC p.data.toList := ⟨bs _, rfl⟩
            obtain ⟨n, hn⟩ : ∃ n, (pre 61 PP.data.toList).length = n := ⟨_, rfl⟩
            obtain ⟨NN, hNN⟩ : ∃ N : ByteArray, N.data.toList = trimC (pre 61 PP.data.toList) := ⟨bs _, rfl⟩
            obtain ⟨LL, hLL⟩ : ∃ L : ByteArray, L.data.toList = lowL NN.data.toList := ⟨bs _, rfl⟩
            have hdk := List.drop_eq_getElem_cons hlt
            rw [hp] at c0 hqk hdk
            have hPs : PP.size ≤ 100000 := by rw [← size_len, hPP]; have h1 := trimC_len p.data.toList; rw [size_len] at h1; omega
            have hnp : n ≤ PP.size := by rw [← hn, ← size_len]; exact pre_len' 61 _
            have hNs : NN.size ≤ 100000 := by rw [← size_len, hNN]; have h1 := trimC_len (pre 61 PP.data.toList); omega
            have hXs : (PP.extract 0 n).size ≤ 100000 := by rw [ByteArray.size_extract]; omega
            have CTr1 := Lib.hid (fun w => rtrimc_is p PP w (by omega) hPP)
            have CFi := Lib.hid (fun w => findc61 PP n hn w (by omega))
            have CTr2 := Lib.hid (fun w => rtrimc_is (PP.extract 0 n) NN w (by omega) (by rw [hNN, ext_from, ← hn, pre_take]))
            have CL1 := Lib.hid (fun w => smallc_is NN LL hLL w (by omega))
            have hW5 := hbw.size
            have hki : (k : Int) < (ps.length : Int) := by omega
            have hni : (n : Int) ≤ (PP.size : Int) := by omega
            have hNp : NN.data.toList = trimC (pre 61 p.data.toList) := by rw [hNN, hPP, part_pre]
            have hpc : (n < PP.size) ↔ p.data.toList.contains 61 = true := by
              rw [← hn, ← size_len, pre_lt_iff, hPP, part_mem, List.contains_iff_mem]
            by_cases hfn : n < PP.size
            · have hcon := hpc.1 hfn
              obtain ⟨VV, hVV⟩ : ∃ V : ByteArray, V.data.toList = trimC (post 61 PP.data.toList) := ⟨bs _, rfl⟩
              have hVs : VV.size ≤ 100000 := by rw [← size_len, hVV]; have h1 := trimC_len (post 61 PP.data.toList); have h2 := post_len' 61 PP.data.toList; rw [size_len] at h2; omega
              have hYs : (PP.extract (n + 1) PP.size).size ≤ 100000 := by rw [ByteArray.size_extract]; omega
              have CTr3 := Lib.hid (fun w => rtrimc_is (PP.extract (n + 1) PP.size) VV w (by omega) (by rw [hVV, ext_to, ← hn, post_drop]))
              have hVp : VV.data.toList = trimC (post 61 p.data.toList) := by rw [hVV, hPP, part_post]
              have hfi : (n : Int) < (PP.size : Int) := by omega
              have hfb : ((n : Int) == (PP.size : Int)) = false := beq_eq_false_iff_ne.2 (by omega)
              by_cases hk0 : k = 0
              · subst hk0
                obtain rfl := hc0 rfl
                obtain ⟨p0, pr, hseg, hR0⟩ := HR.out
                have hp0 : p.data.toList = p0 ∧ lists (ps.drop 1) = pr := by
                  have h1 : lists (ps.drop 0) = p0 :: pr := by rw [List.drop_zero]; exact hseg
                  rw [hdk] at h1
                  exact List.cons.inj h1
                rw [← hp0.1, ← hp0.2, hcon] at hR0
                by_cases hNe : trimC (pre 61 p.data.toList) = []
                · rw [if_pos (.inr hNe)] at hR0
                  have hf0 : R = (ck0, 4) := hR0.symm
                  have hE : NN.toList.isEmpty = true := by rw [ByteArray.toList_eq, hNp, List.isEmpty_iff]; exact hNe
                  clear hR0 hseg hp0 hdk hp hPP hn hNN hLL hVV hNp hVp hpc hNe hcon hcd hf hc0
                  have HV := Lib.hid hf0
                  clear hf0
                  have r0 := R8.c 0 rfl; have r1 := R8.c 1 rfl; have r2 := R8.c 2 rfl; have r3 := R8.c 3 rfl; have r4 := R8.c 4 rfl; have r5 := R8.c 5 rfl; have r6 := R8.c 6 rfl; have r7 := R8.c 7 rfl; have r8 := R8.c 8 rfl; have q0 := R8.f 0 rfl; have q1 := R8.f 1 rfl; have q2 := R8.f 2 rfl; have q3 := R8.f 3 rfl; have q4 := R8.f 4 rfl; have q5 := R8.f 5 rfl; have q6 := R8.f 6 rfl; have q7 := R8.f 7 rfl; have q8 := R8.f 8 rfl
                  have z0 := Z8.c 0 rfl; have z1 := Z8.c 1 rfl; have z2 := Z8.c 2 rfl; have z3 := Z8.c 3 rfl; have z4 := Z8.c 4 rfl; have z5 := Z8.c 5 rfl; have z6 := Z8.c 6 rfl; have z7 := Z8.c 7 rfl; have z8 := Z8.c 8 rfl
                  have kr := R8.lt
                  have kz := Z8.lt
                  go_wp2_with (first
                    | (go_at_call 46; with_reducible refine (CTr1.out _).mono ?_; rintro x v ⟨rfl, rfl⟩)
                    | (go_at_call 47; with_reducible refine (CFi.out _).mono ?_; rintro x v ⟨rfl, rfl⟩)
                    | (go_at_call 46; with_reducible refine (CTr2.out _).mono ?_; rintro x v ⟨rfl, rfl⟩)
                    | (go_at_call 46; with_reducible refine (CTr3.out _).mono ?_; rintro x v ⟨rfl, rfl⟩))
                  exact bodyPost_ret (ret9_run Tryz.results13 Tryz.sizeOf29 Tryz.isAgg29 _ _ _ _ _ _ _ _ _ _ _ _ _ rfl rfl (R8.set9 rfl _ _ _ _ _ _ _ _ _)) rfl ⟨by rw [HV.out]; exact rfl, below_set9 HBX (Nat.le_succ _) _ _ _ _ _ _ _ _ _⟩
                · rw [if_neg (by rintro (h | h); cases h; exact hNe h)] at hR0
                  have hE : NN.toList.isEmpty = false := by
                    cases hh : NN.toList.isEmpty with
                    | false => rfl
                    | true => rw [ByteArray.toList_eq, hNp, List.isEmpty_iff] at hh; exact absurd hh hNe
                  have hfc : firstC b dp p.data.toList = ⟨NN, VV, b, dp, true, false, false, -1, 0⟩ := by
                    unfold firstC; rw [← hNp, ← hVp, bs_data, bs_data]
                  rw [hfc] at hR0
                  have HF := Lib.hid hR0
                  clear hR0 hseg hp0 hdk hp hPP hn hNN hLL hVV hNp hVp hpc hNe hcon hf hc0 hfc
                  have z0 := AK8.c 0 rfl; have z1 := AK8.c 1 rfl; have z2 := AK8.c 2 rfl; have z3 := AK8.c 3 rfl; have z4 := AK8.c 4 rfl; have z5 := AK8.c 5 rfl; have z6 := AK8.c 6 rfl; have z7 := AK8.c 7 rfl; have z8 := AK8.c 8 rfl; have y0 := AK8.f 0 rfl; have y1 := AK8.f 1 rfl; have y2 := AK8.f 2 rfl; have y3 := AK8.f 3 rfl; have y4 := AK8.f 4 rfl; have y5 := AK8.f 5 rfl; have y6 := AK8.f 6 rfl; have y7 := AK8.f 7 rfl; have y8 := AK8.f 8 rfl
                  have kk8 := AK8.lt
                  go_wp2_with (first
                    | (go_at_call 46; with_reducible refine (CTr1.out _).mono ?_; rintro x v ⟨rfl, rfl⟩)
                    | (go_at_call 47; with_reducible refine (CFi.out _).mono ?_; rintro x v ⟨rfl, rfl⟩)
                    | (go_at_call 46; with_reducible refine (CTr2.out _).mono ?_; rintro x v ⟨rfl, rfl⟩)
                    | (go_at_call 46; with_reducible refine (CTr3.out _).mono ?_; rintro x v ⟨rfl, rfl⟩))
                  go_roundw
                  case rel => exact ⟨0 + 1, ⟨NN, VV, b, dp, true, false, false, -1, 0⟩, by omega, by go_num, (AK8.set 0 _).set 1 _, (hbw.setCell _ (Or.inl rfl) _).setCell _ (Or.inl rfl) _, by have := hz.b; show b.size ≤ _; omega, fun h => absurd h (Nat.succ_ne_zero _), fun _ => HF.out⟩
                  case measure => simp [intOf]; omega
              · have hf := hf (by omega)
                have hkb : ((k : Int) == 0) = false := beq_eq_false_iff_ne.2 (by omega)
                rw [hdk, show lists (p :: ps.drop (k + 1)) = p.data.toList :: lists (ps.drop (k + 1)) from rfl, List.foldl_cons, step_is b dp now c p.data.toList LL VV (by rw [hLL, hNp]) hVp] at hf
                clear hdk hp hPP hn hNN hLL hVV hNp hVp hpc hcon hc0 hk0 R8 Z8 HBX
                rcases kind_cases LL with ⟨g1, e⟩ | ⟨g1, g2, e⟩ | ⟨g1, g2, g3, e⟩ | ⟨g1, g2, g3, g4, e⟩ | ⟨g1, g2, g3, g4, g5, e⟩ | ⟨g1, g2, g3, g4, g5, n1, n2, n3, n4, n5⟩
                · rw [e] at hf
                  cases hag : ageL VV.data.toList with
                  | none =>
                    rw [attr_max0 _ _ _ _ _ hag] at hf
                    have CA := Lib.hid (fun w => rage_is VV none hag w (by omega))
                    have HF := Lib.hid hf
                    clear hf e hag
                    go_wp2_with (first
                      | (go_at_call 46; with_reducible refine (CTr1.out _).mono ?_; rintro x v ⟨rfl, rfl⟩)
                      | (go_at_call 47; with_reducible refine (CFi.out _).mono ?_; rintro x v ⟨rfl, rfl⟩)
                      | (go_at_call 46; with_reducible refine (CTr2.out _).mono ?_; rintro x v ⟨rfl, rfl⟩)
                      | (go_at_call 46; with_reducible refine (CTr3.out _).mono ?_; rintro x v ⟨rfl, rfl⟩)
                      | (go_at_call 48; with_reducible refine (CL1.out _).mono ?_; rintro x v6 ⟨rfl, hv6⟩; have B6 := hbw.below hv6 hW5; have K6 := AK8.next hv6; have z0 := K6.c 0 rfl; have z1 := K6.c 1 rfl; have z2 := K6.c 2 rfl; have z3 := K6.c 3 rfl; have z4 := K6.c 4 rfl; have z5 := K6.c 5 rfl; have z6 := K6.c 6 rfl; have z7 := K6.c 7 rfl; have z8 := K6.c 8 rfl; have y0 := K6.f 0 rfl; have y1 := K6.f 1 rfl; have y2 := K6.f 2 rfl; have y3 := K6.f 3 rfl; have y4 := K6.f 4 rfl; have y5 := K6.f 5 rfl; have y6 := K6.f 6 rfl; have y7 := K6.f 7 rfl; have y8 := K6.f 8 rfl; have k6 := K6.lt; have U6 := A7.but B6 hU5 hUK; have u1 := U6.c 1 rfl; have u3 := U6.c 3 rfl)
                      | (go_at_call 49; with_reducible refine (CA.out _).mono ?_; rintro x v ⟨rfl, rfl⟩))
                    go_roundw
                    case rel => exact ⟨k + 1, c, by omega, by go_num, K6, B6, hcd, fun h => absurd h (Nat.succ_ne_zero _), fun _ => HF.out⟩
                    case measure => simp [intOf]; omega
                  | some n =>
                    rw [attr_max _ _ _ _ _ n hag] at hf
                    have hnb := ageL_bd _ _ hag
                    have CA := Lib.hid (fun w => rage_is VV (some n) hag w (by omega))
                    have hcb := clock_bd now
                    have cK := fun w => rtime_any now w
                    obtain ⟨Cn, hCn⟩ : ∃ Cn, clockI now = Cn := ⟨_, rfl⟩
                    rw [hCn] at cK hcb hf
                    have CKl := Lib.hid cK
                    have HF := Lib.hid hf
                    clear hf e hag hCn cK
                    obtain ⟨hn1, hn2⟩ := hnb
                    obtain ⟨hc1, hc2⟩ := hcb
                    go_wp2_with (first
                      | (go_at_call 46; with_reducible refine (CTr1.out _).mono ?_; rintro x v ⟨rfl, rfl⟩)
                      | (go_at_call 47; with_reducible refine (CFi.out _).mono ?_; rintro x v ⟨rfl, rfl⟩)
                      | (go_at_call 46; with_reducible refine (CTr2.out _).mono ?_; rintro x v ⟨rfl, rfl⟩)
                      | (go_at_call 46; with_reducible refine (CTr3.out _).mono ?_; rintro x v ⟨rfl, rfl⟩)
                      | (go_at_call 48; with_reducible refine (CL1.out _).mono ?_; rintro x v6 ⟨rfl, hv6⟩; have B6 := hbw.below hv6 hW5; have K6 := AK8.next hv6; have z0 := K6.c 0 rfl; have z1 := K6.c 1 rfl; have z2 := K6.c 2 rfl; have z3 := K6.c 3 rfl; have z4 := K6.c 4 rfl; have z5 := K6.c 5 rfl; have z6 := K6.c 6 rfl; have z7 := K6.c 7 rfl; have z8 := K6.c 8 rfl; have y0 := K6.f 0 rfl; have y1 := K6.f 1 rfl; have y2 := K6.f 2 rfl; have y3 := K6.f 3 rfl; have y4 := K6.f 4 rfl; have y5 := K6.f 5 rfl; have y6 := K6.f 6 rfl; have y7 := K6.f 7 rfl; have y8 := K6.f 8 rfl; have k6 := K6.lt; have U6 := A7.but B6 hU5 hUK; have u1 := U6.c 1 rfl; have u3 := U6.c 3 rfl)
                      | (go_at_call 49; with_reducible refine (CA.out _).mono ?_; rintro x v ⟨rfl, rfl⟩)
                      | (go_at_call 50; with_reducible refine (CKl.out _).mono ?_; rintro x v ⟨rfl, rfl⟩))
                    go_roundw
                    case rel => exact ⟨k + 1, { c with ex := Cn + n * 1000 }, by omega, by go_num, (K6.set 7 _), (B6.setCell _ (Or.inl rfl) _), hcd, fun h => absurd h (Nat.succ_ne_zero _), fun _ => HF.out⟩
                    case measure => simp [intOf]; omega
                · rw [e, attr_dom] at hf
                  obtain ⟨L2, hL2⟩ : ∃ L : ByteArray, L = bs (lowL (undot VV.data.toList)) := ⟨_, rfl⟩
                  have hLs : L2.size ≤ 200000 := by rw [hL2, bs_size, low_len]; have h1 := undot_len VV.data.toList; rw [size_len] at h1; omega
                  obtain ⟨H, hH⟩ : ∃ H, Lib.hasPrefix VV.data.toList [46] = H := ⟨_, rfl⟩
                  have CSd := Lib.hid (fun w => startsq_is VV ⟨#[46]⟩ H hH w (by omega) (by decide))
                  cases H
                  · have hTT : VV.data.toList = undot VV.data.toList := by unfold undot; rw [if_neg (by rw [hH]; exact Bool.false_ne_true)]
                    have CL2 := Lib.hid (fun w => smallc_is VV L2 (by rw [hL2, bs_list]; exact congrArg lowL hTT.symm) w (by omega))
                    rw [← hL2] at hf
                    by_cases hd0 : lowL (undot VV.data.toList) = []
                    · rw [if_pos hd0] at hf
                      have hE2 : VV.toList.isEmpty = true := by
                        rw [ByteArray.toList_eq, hTT, List.isEmpty_iff]
                        exact List.map_eq_nil_iff.1 hd0
                      have HF := Lib.hid hf
                      clear hf e hd0 hL2 hTT hH
                      go_wp2_with (first
                        | (go_at_call 46; with_reducible refine (CTr1.out _).mono ?_; rintro x v ⟨rfl, rfl⟩)
                        | (go_at_call 47; with_reducible refine (CFi.out _).mono ?_; rintro x v ⟨rfl, rfl⟩)
                        | (go_at_call 46; with_reducible refine (CTr2.out _).mono ?_; rintro x v ⟨rfl, rfl⟩)
                        | (go_at_call 46; with_reducible refine (CTr3.out _).mono ?_; rintro x v ⟨rfl, rfl⟩)
                        | (go_at_call 48; with_reducible refine (CL1.out _).mono ?_; rintro x v6 ⟨rfl, hv6⟩; have B6 := hbw.below hv6 hW5; have K6 := AK8.next hv6; have z0 := K6.c 0 rfl; have z1 := K6.c 1 rfl; have z2 := K6.c 2 rfl; have z3 := K6.c 3 rfl; have z4 := K6.c 4 rfl; have z5 := K6.c 5 rfl; have z6 := K6.c 6 rfl; have z7 := K6.c 7 rfl; have z8 := K6.c 8 rfl; have y0 := K6.f 0 rfl; have y1 := K6.f 1 rfl; have y2 := K6.f 2 rfl; have y3 := K6.f 3 rfl; have y4 := K6.f 4 rfl; have y5 := K6.f 5 rfl; have y6 := K6.f 6 rfl; have y7 := K6.f 7 rfl; have y8 := K6.f 8 rfl; have k6 := K6.lt; have U6 := A7.but B6 hU5 hUK; have u1 := U6.c 1 rfl; have u3 := U6.c 3 rfl; have B6h : w5.heap.size ≤ v6.heap.size := Nat.le_trans hW5 hv6.size)
                        | (go_at_call 51; with_reducible refine (CSd.out _).mono ?_; rintro x v ⟨rfl, rfl⟩)
                        | (go_at_call 48; with_reducible refine (CL2.out _).mono ?_; rintro x v7 ⟨rfl, hv7⟩; have B7 := B6.below hv7 B6h; have K7 := K6.next hv7; have z0 := K7.c 0 rfl; have z1 := K7.c 1 rfl; have z2 := K7.c 2 rfl; have z3 := K7.c 3 rfl; have z4 := K7.c 4 rfl; have z5 := K7.c 5 rfl; have z6 := K7.c 6 rfl; have z7 := K7.c 7 rfl; have z8 := K7.c 8 rfl; have y0 := K7.f 0 rfl; have y1 := K7.f 1 rfl; have y2 := K7.f 2 rfl; have y3 := K7.f 3 rfl; have y4 := K7.f 4 rfl; have y5 := K7.f 5 rfl; have y6 := K7.f 6 rfl; have y7 := K7.f 7 rfl; have y8 := K7.f 8 rfl; have k7 := K7.lt; have U7 := A7.but B7 hU5 hUK; have u1 := U7.c 1 rfl; have u3 := U7.c 3 rfl))
                      go_roundw
                      case rel => exact ⟨k + 1, { c with d := b, ho := true }, by omega, by go_num, (((K7.set 2 _).set 4 _).set 2 _), (((B7.setCell _ (Or.inl rfl) _).setCell _ (Or.inl rfl) _).setCell _ (Or.inl rfl) _), by have := hz.b; show b.size ≤ _; omega, fun h => absurd h (Nat.succ_ne_zero _), fun _ => HF.out⟩
                      case measure => simp [intOf]; omega
                    · rw [if_neg hd0] at hf
                      have hE2 : VV.toList.isEmpty = false := by
                        cases hh : VV.toList.isEmpty with
                        | false => rfl
                        | true =>
                          rw [ByteArray.toList_eq, hTT, List.isEmpty_iff] at hh
                          exact absurd (by rw [hh]; rfl) hd0
                      have HF := Lib.hid hf
                      clear hf e hd0 hL2 hTT hH
                      go_wp2_with (first
                        | (go_at_call 46; with_reducible refine (CTr1.out _).mono ?_; rintro x v ⟨rfl, rfl⟩)
                        | (go_at_call 47; with_reducible refine (CFi.out _).mono ?_; rintro x v ⟨rfl, rfl⟩)
                        | (go_at_call 46; with_reducible refine (CTr2.out _).mono ?_; rintro x v ⟨rfl, rfl⟩)
                        | (go_at_call 46; with_reducible refine (CTr3.out _).mono ?_; rintro x v ⟨rfl, rfl⟩)
                        | (go_at_call 48; with_reducible refine (CL1.out _).mono ?_; rintro x v6 ⟨rfl, hv6⟩; have B6 := hbw.below hv6 hW5; have K6 := AK8.next hv6; have z0 := K6.c 0 rfl; have z1 := K6.c 1 rfl; have z2 := K6.c 2 rfl; have z3 := K6.c 3 rfl; have z4 := K6.c 4 rfl; have z5 := K6.c 5 rfl; have z6 := K6.c 6 rfl; have z7 := K6.c 7 rfl; have z8 := K6.c 8 rfl; have y0 := K6.f 0 rfl; have y1 := K6.f 1 rfl; have y2 := K6.f 2 rfl; have y3 := K6.f 3 rfl; have y4 := K6.f 4 rfl; have y5 := K6.f 5 rfl; have y6 := K6.f 6 rfl; have y7 := K6.f 7 rfl; have y8 := K6.f 8 rfl; have k6 := K6.lt; have U6 := A7.but B6 hU5 hUK; have u1 := U6.c 1 rfl; have u3 := U6.c 3 rfl; have B6h : w5.heap.size ≤ v6.heap.size := Nat.le_trans hW5 hv6.size)
                        | (go_at_call 51; with_reducible refine (CSd.out _).mono ?_; rintro x v ⟨rfl, rfl⟩)
                        | (go_at_call 48; with_reducible refine (CL2.out _).mono ?_; rintro x v7 ⟨rfl, hv7⟩; have B7 := B6.below hv7 B6h; have K7 := K6.next hv7; have z0 := K7.c 0 rfl; have z1 := K7.c 1 rfl; have z2 := K7.c 2 rfl; have z3 := K7.c 3 rfl; have z4 := K7.c 4 rfl; have z5 := K7.c 5 rfl; have z6 := K7.c 6 rfl; have z7 := K7.c 7 rfl; have z8 := K7.c 8 rfl; have y0 := K7.f 0 rfl; have y1 := K7.f 1 rfl; have y2 := K7.f 2 rfl; have y3 := K7.f 3 rfl; have y4 := K7.f 4 rfl; have y5 := K7.f 5 rfl; have y6 := K7.f 6 rfl; have y7 := K7.f 7 rfl; have y8 := K7.f 8 rfl; have k7 := K7.lt; have U7 := A7.but B7 hU5 hUK; have u1 := U7.c 1 rfl; have u3 := U7.c 3 rfl))
                      go_roundw
                      case rel => exact ⟨k + 1, { c with d := L2, ho := false }, by omega, by go_num, ((K7.set 2 _).set 4 _), ((B7.setCell _ (Or.inl rfl) _).setCell _ (Or.inl rfl) _), hLs, fun h => absurd h (Nat.succ_ne_zero _), fun _ => HF.out⟩
                      case measure => simp [intOf]; omega
                  · have hV0 : 0 < VV.size := pre_pos VV hH
                    have hV1 : (1 : Int) ≤ VV.size := by omega
                    have hTT : (VV.extract 1 VV.size).data.toList = undot VV.data.toList := by unfold undot; rw [if_pos hH, ext_to]
                    have hTs : (VV.extract 1 VV.size).size ≤ 100000 := by rw [ByteArray.size_extract]; omega
                    have CL2 := Lib.hid (fun w => smallc_is (VV.extract 1 VV.size) L2 (by rw [hL2, bs_list]; exact congrArg lowL hTT.symm) w (by omega))
                    rw [← hL2] at hf
                    by_cases hd0 : lowL (undot VV.data.toList) = []
                    · rw [if_pos hd0] at hf
                      have hE2 : (VV.extract 1 VV.size).toList.isEmpty = true := by
                        rw [ByteArray.toList_eq, hTT, List.isEmpty_iff]
                        exact List.map_eq_nil_iff.1 hd0
                      have HF := Lib.hid hf
                      clear hf e hd0 hL2 hTT hH
                      go_wp2_with (first
                        | (go_at_call 46; with_reducible refine (CTr1.out _).mono ?_; rintro x v ⟨rfl, rfl⟩)
                        | (go_at_call 47; with_reducible refine (CFi.out _).mono ?_; rintro x v ⟨rfl, rfl⟩)
                        | (go_at_call 46; with_reducible refine (CTr2.out _).mono ?_; rintro x v ⟨rfl, rfl⟩)
                        | (go_at_call 46; with_reducible refine (CTr3.out _).mono ?_; rintro x v ⟨rfl, rfl⟩)
                        | (go_at_call 48; with_reducible refine (CL1.out _).mono ?_; rintro x v6 ⟨rfl, hv6⟩; have B6 := hbw.below hv6 hW5; have K6 := AK8.next hv6; have z0 := K6.c 0 rfl; have z1 := K6.c 1 rfl; have z2 := K6.c 2 rfl; have z3 := K6.c 3 rfl; have z4 := K6.c 4 rfl; have z5 := K6.c 5 rfl; have z6 := K6.c 6 rfl; have z7 := K6.c 7 rfl; have z8 := K6.c 8 rfl; have y0 := K6.f 0 rfl; have y1 := K6.f 1 rfl; have y2 := K6.f 2 rfl; have y3 := K6.f 3 rfl; have y4 := K6.f 4 rfl; have y5 := K6.f 5 rfl; have y6 := K6.f 6 rfl; have y7 := K6.f 7 rfl; have y8 := K6.f 8 rfl; have k6 := K6.lt; have U6 := A7.but B6 hU5 hUK; have u1 := U6.c 1 rfl; have u3 := U6.c 3 rfl; have B6h : w5.heap.size ≤ v6.heap.size := Nat.le_trans hW5 hv6.size)
                        | (go_at_call 51; with_reducible refine (CSd.out _).mono ?_; rintro x v ⟨rfl, rfl⟩)
                        | (go_at_call 48; with_reducible refine (CL2.out _).mono ?_; rintro x v7 ⟨rfl, hv7⟩; have B7 := B6.below hv7 B6h; have K7 := K6.next hv7; have z0 := K7.c 0 rfl; have z1 := K7.c 1 rfl; have z2 := K7.c 2 rfl; have z3 := K7.c 3 rfl; have z4 := K7.c 4 rfl; have z5 := K7.c 5 rfl; have z6 := K7.c 6 rfl; have z7 := K7.c 7 rfl; have z8 := K7.c 8 rfl; have y0 := K7.f 0 rfl; have y1 := K7.f 1 rfl; have y2 := K7.f 2 rfl; have y3 := K7.f 3 rfl; have y4 := K7.f 4 rfl; have y5 := K7.f 5 rfl; have y6 := K7.f 6 rfl; have y7 := K7.f 7 rfl; have y8 := K7.f 8 rfl; have k7 := K7.lt; have U7 := A7.but B7 hU5 hUK; have u1 := U7.c 1 rfl; have u3 := U7.c 3 rfl))
                      go_roundw
                      case rel => exact ⟨k + 1, { c with d := b, ho := true }, by omega, by go_num, (((K7.set 2 _).set 4 _).set 2 _), (((B7.setCell _ (Or.inl rfl) _).setCell _ (Or.inl rfl) _).setCell _ (Or.inl rfl) _), by have := hz.b; show b.size ≤ _; omega, fun h => absurd h (Nat.succ_ne_zero _), fun _ => HF.out⟩
                      case measure => simp [intOf]; omega
                    · rw [if_neg hd0] at hf
                      have hE2 : (VV.extract 1 VV.size).toList.isEmpty = false := by
                        cases hh : (VV.extract 1 VV.size).toList.isEmpty with
                        | false => rfl
                        | true =>
                          rw [ByteArray.toList_eq, hTT, List.isEmpty_iff] at hh
                          exact absurd (by rw [hh]; rfl) hd0
                      have HF := Lib.hid hf
                      clear hf e hd0 hL2 hTT hH
                      go_wp2_with (first
                        | (go_at_call 46; with_reducible refine (CTr1.out _).mono ?_; rintro x v ⟨rfl, rfl⟩)
                        | (go_at_call 47; with_reducible refine (CFi.out _).mono ?_; rintro x v ⟨rfl, rfl⟩)
                        | (go_at_call 46; with_reducible refine (CTr2.out _).mono ?_; rintro x v ⟨rfl, rfl⟩)
                        | (go_at_call 46; with_reducible refine (CTr3.out _).mono ?_; rintro x v ⟨rfl, rfl⟩)
                        | (go_at_call 48; with_reducible refine (CL1.out _).mono ?_; rintro x v6 ⟨rfl, hv6⟩; have B6 := hbw.below hv6 hW5; have K6 := AK8.next hv6; have z0 := K6.c 0 rfl; have z1 := K6.c 1 rfl; have z2 := K6.c 2 rfl; have z3 := K6.c 3 rfl; have z4 := K6.c 4 rfl; have z5 := K6.c 5 rfl; have z6 := K6.c 6 rfl; have z7 := K6.c 7 rfl; have z8 := K6.c 8 rfl; have y0 := K6.f 0 rfl; have y1 := K6.f 1 rfl; have y2 := K6.f 2 rfl; have y3 := K6.f 3 rfl; have y4 := K6.f 4 rfl; have y5 := K6.f 5 rfl; have y6 := K6.f 6 rfl; have y7 := K6.f 7 rfl; have y8 := K6.f 8 rfl; have k6 := K6.lt; have U6 := A7.but B6 hU5 hUK; have u1 := U6.c 1 rfl; have u3 := U6.c 3 rfl; have B6h : w5.heap.size ≤ v6.heap.size := Nat.le_trans hW5 hv6.size)
                        | (go_at_call 51; with_reducible refine (CSd.out _).mono ?_; rintro x v ⟨rfl, rfl⟩)
                        | (go_at_call 48; with_reducible refine (CL2.out _).mono ?_; rintro x v7 ⟨rfl, hv7⟩; have B7 := B6.below hv7 B6h; have K7 := K6.next hv7; have z0 := K7.c 0 rfl; have z1 := K7.c 1 rfl; have z2 := K7.c 2 rfl; have z3 := K7.c 3 rfl; have z4 := K7.c 4 rfl; have z5 := K7.c 5 rfl; have z6 := K7.c 6 rfl; have z7 := K7.c 7 rfl; have z8 := K7.c 8 rfl; have y0 := K7.f 0 rfl; have y1 := K7.f 1 rfl; have y2 := K7.f 2 rfl; have y3 := K7.f 3 rfl; have y4 := K7.f 4 rfl; have y5 := K7.f 5 rfl; have y6 := K7.f 6 rfl; have y7 := K7.f 7 rfl; have y8 := K7.f 8 rfl; have k7 := K7.lt; have U7 := A7.but B7 hU5 hUK; have u1 := U7.c 1 rfl; have u3 := U7.c 3 rfl))
                      go_roundw
                      case rel => exact ⟨k + 1, { c with d := L2, ho := false }, by omega, by go_num, ((K7.set 2 _).set 4 _), ((B7.setCell _ (Or.inl rfl) _).setCell _ (Or.inl rfl) _), hLs, fun h => absurd h (Nat.succ_ne_zero _), fun _ => HF.out⟩
                      case measure => simp [intOf]; omega
                · rw [e, attr_path, bs_data] at hf
                  obtain ⟨H, hH⟩ : ∃ H, Lib.hasPrefix VV.data.toList [47] = H := ⟨_, rfl⟩
                  have CSl := Lib.hid (fun w => startsq_is VV ⟨#[47]⟩ H hH w (by omega) (by decide))
                  rw [hH] at hf
                  cases H
                  · rw [if_neg Bool.false_ne_true] at hf
                    have HF := Lib.hid hf
                    clear hf e hH
                    go_wp2_with (first
                      | (go_at_call 46; with_reducible refine (CTr1.out _).mono ?_; rintro x v ⟨rfl, rfl⟩)
                      | (go_at_call 47; with_reducible refine (CFi.out _).mono ?_; rintro x v ⟨rfl, rfl⟩)
                      | (go_at_call 46; with_reducible refine (CTr2.out _).mono ?_; rintro x v ⟨rfl, rfl⟩)
                      | (go_at_call 46; with_reducible refine (CTr3.out _).mono ?_; rintro x v ⟨rfl, rfl⟩)
                      | (go_at_call 48; with_reducible refine (CL1.out _).mono ?_; rintro x v6 ⟨rfl, hv6⟩; have B6 := hbw.below hv6 hW5; have K6 := AK8.next hv6; have z0 := K6.c 0 rfl; have z1 := K6.c 1 rfl; have z2 := K6.c 2 rfl; have z3 := K6.c 3 rfl; have z4 := K6.c 4 rfl; have z5 := K6.c 5 rfl; have z6 := K6.c 6 rfl; have z7 := K6.c 7 rfl; have z8 := K6.c 8 rfl; have y0 := K6.f 0 rfl; have y1 := K6.f 1 rfl; have y2 := K6.f 2 rfl; have y3 := K6.f 3 rfl; have y4 := K6.f 4 rfl; have y5 := K6.f 5 rfl; have y6 := K6.f 6 rfl; have y7 := K6.f 7 rfl; have y8 := K6.f 8 rfl; have k6 := K6.lt; have U6 := A7.but B6 hU5 hUK; have u1 := U6.c 1 rfl; have u3 := U6.c 3 rfl)
                      | (go_at_call 19; with_reducible refine (CD.out _).mono ?_; rintro x v ⟨rfl, rfl⟩)
                      | (go_at_call 51; with_reducible refine (CSl.out _).mono ?_; rintro x v ⟨rfl, rfl⟩))
                    go_roundw
                    case rel => exact ⟨k + 1, { c with p := dp }, by omega, by go_num, (K6.set 3 _), (B6.setCell _ (Or.inl rfl) _), hcd, fun h => absurd h (Nat.succ_ne_zero _), fun _ => HF.out⟩
                    case measure => simp [intOf]; omega
                  · rw [if_pos rfl] at hf
                    have HF := Lib.hid hf
                    clear hf e hH
                    go_wp2_with (first
                      | (go_at_call 46; with_reducible refine (CTr1.out _).mono ?_; rintro x v ⟨rfl, rfl⟩)
                      | (go_at_call 47; with_reducible refine (CFi.out _).mono ?_; rintro x v ⟨rfl, rfl⟩)
                      | (go_at_call 46; with_reducible refine (CTr2.out _).mono ?_; rintro x v ⟨rfl, rfl⟩)
                      | (go_at_call 46; with_reducible refine (CTr3.out _).mono ?_; rintro x v ⟨rfl, rfl⟩)
                      | (go_at_call 48; with_reducible refine (CL1.out _).mono ?_; rintro x v6 ⟨rfl, hv6⟩; have B6 := hbw.below hv6 hW5; have K6 := AK8.next hv6; have z0 := K6.c 0 rfl; have z1 := K6.c 1 rfl; have z2 := K6.c 2 rfl; have z3 := K6.c 3 rfl; have z4 := K6.c 4 rfl; have z5 := K6.c 5 rfl; have z6 := K6.c 6 rfl; have z7 := K6.c 7 rfl; have z8 := K6.c 8 rfl; have y0 := K6.f 0 rfl; have y1 := K6.f 1 rfl; have y2 := K6.f 2 rfl; have y3 := K6.f 3 rfl; have y4 := K6.f 4 rfl; have y5 := K6.f 5 rfl; have y6 := K6.f 6 rfl; have y7 := K6.f 7 rfl; have y8 := K6.f 8 rfl; have k6 := K6.lt; have U6 := A7.but B6 hU5 hUK; have u1 := U6.c 1 rfl; have u3 := U6.c 3 rfl)
                      | (go_at_call 19; with_reducible refine (CD.out _).mono ?_; rintro x v ⟨rfl, rfl⟩)
                      | (go_at_call 51; with_reducible refine (CSl.out _).mono ?_; rintro x v ⟨rfl, rfl⟩))
                    go_roundw
                    case rel => exact ⟨k + 1, { c with p := VV }, by omega, by go_num, ((K6.set 3 _).set 3 _), ((B6.setCell _ (Or.inl rfl) _).setCell _ (Or.inl rfl) _), hcd, fun h => absurd h (Nat.succ_ne_zero _), fun _ => HF.out⟩
                    case measure => simp [intOf]; omega
                · rw [e, attr_sec] at hf
                  have HF := Lib.hid hf
                  clear hf e
                  go_wp2_with (first
                    | (go_at_call 46; with_reducible refine (CTr1.out _).mono ?_; rintro x v ⟨rfl, rfl⟩)
                    | (go_at_call 47; with_reducible refine (CFi.out _).mono ?_; rintro x v ⟨rfl, rfl⟩)
                    | (go_at_call 46; with_reducible refine (CTr2.out _).mono ?_; rintro x v ⟨rfl, rfl⟩)
                    | (go_at_call 46; with_reducible refine (CTr3.out _).mono ?_; rintro x v ⟨rfl, rfl⟩)
                    | (go_at_call 48; with_reducible refine (CL1.out _).mono ?_; rintro x v6 ⟨rfl, hv6⟩; have B6 := hbw.below hv6 hW5; have K6 := AK8.next hv6; have z0 := K6.c 0 rfl; have z1 := K6.c 1 rfl; have z2 := K6.c 2 rfl; have z3 := K6.c 3 rfl; have z4 := K6.c 4 rfl; have z5 := K6.c 5 rfl; have z6 := K6.c 6 rfl; have z7 := K6.c 7 rfl; have z8 := K6.c 8 rfl; have y0 := K6.f 0 rfl; have y1 := K6.f 1 rfl; have y2 := K6.f 2 rfl; have y3 := K6.f 3 rfl; have y4 := K6.f 4 rfl; have y5 := K6.f 5 rfl; have y6 := K6.f 6 rfl; have y7 := K6.f 7 rfl; have y8 := K6.f 8 rfl; have k6 := K6.lt; have U6 := A7.but B6 hU5 hUK; have u1 := U6.c 1 rfl; have u3 := U6.c 3 rfl))
                  go_roundw
                  case rel => exact ⟨k + 1, { c with se := true }, by omega, by go_num, (K6.set 5 _), (B6.setCell _ (Or.inl rfl) _), hcd, fun h => absurd h (Nat.succ_ne_zero _), fun _ => HF.out⟩
                  case measure => simp [intOf]; omega
                · rw [e, attr_hid] at hf
                  have HF := Lib.hid hf
                  clear hf e
                  go_wp2_with (first
                    | (go_at_call 46; with_reducible refine (CTr1.out _).mono ?_; rintro x v ⟨rfl, rfl⟩)
                    | (go_at_call 47; with_reducible refine (CFi.out _).mono ?_; rintro x v ⟨rfl, rfl⟩)
                    | (go_at_call 46; with_reducible refine (CTr2.out _).mono ?_; rintro x v ⟨rfl, rfl⟩)
                    | (go_at_call 46; with_reducible refine (CTr3.out _).mono ?_; rintro x v ⟨rfl, rfl⟩)
                    | (go_at_call 48; with_reducible refine (CL1.out _).mono ?_; rintro x v6 ⟨rfl, hv6⟩; have B6 := hbw.below hv6 hW5; have K6 := AK8.next hv6; have z0 := K6.c 0 rfl; have z1 := K6.c 1 rfl; have z2 := K6.c 2 rfl; have z3 := K6.c 3 rfl; have z4 := K6.c 4 rfl; have z5 := K6.c 5 rfl; have z6 := K6.c 6 rfl; have z7 := K6.c 7 rfl; have z8 := K6.c 8 rfl; have y0 := K6.f 0 rfl; have y1 := K6.f 1 rfl; have y2 := K6.f 2 rfl; have y3 := K6.f 3 rfl; have y4 := K6.f 4 rfl; have y5 := K6.f 5 rfl; have y6 := K6.f 6 rfl; have y7 := K6.f 7 rfl; have y8 := K6.f 8 rfl; have k6 := K6.lt; have U6 := A7.but B6 hU5 hUK; have u1 := U6.c 1 rfl; have u3 := U6.c 3 rfl))
                  go_roundw
                  case rel => exact ⟨k + 1, { c with hi := true }, by omega, by go_num, (K6.set 6 _), (B6.setCell _ (Or.inl rfl) _), hcd, fun h => absurd h (Nat.succ_ne_zero _), fun _ => HF.out⟩
                  case measure => simp [intOf]; omega
                · rw [attr_no _ _ _ _ _ _ n1 n2 n3 n4 n5] at hf
                  have HF := Lib.hid hf
                  clear hf n1 n2 n3 n4 n5
                  go_wp2_with (first
                    | (go_at_call 46; with_reducible refine (CTr1.out _).mono ?_; rintro x v ⟨rfl, rfl⟩)
                    | (go_at_call 47; with_reducible refine (CFi.out _).mono ?_; rintro x v ⟨rfl, rfl⟩)
                    | (go_at_call 46; with_reducible refine (CTr2.out _).mono ?_; rintro x v ⟨rfl, rfl⟩)
                    | (go_at_call 46; with_reducible refine (CTr3.out _).mono ?_; rintro x v ⟨rfl, rfl⟩)
                    | (go_at_call 48; with_reducible refine (CL1.out _).mono ?_; rintro x v6 ⟨rfl, hv6⟩; have B6 := hbw.below hv6 hW5; have K6 := AK8.next hv6; have z0 := K6.c 0 rfl; have z1 := K6.c 1 rfl; have z2 := K6.c 2 rfl; have z3 := K6.c 3 rfl; have z4 := K6.c 4 rfl; have z5 := K6.c 5 rfl; have z6 := K6.c 6 rfl; have z7 := K6.c 7 rfl; have z8 := K6.c 8 rfl; have y0 := K6.f 0 rfl; have y1 := K6.f 1 rfl; have y2 := K6.f 2 rfl; have y3 := K6.f 3 rfl; have y4 := K6.f 4 rfl; have y5 := K6.f 5 rfl; have y6 := K6.f 6 rfl; have y7 := K6.f 7 rfl; have y8 := K6.f 8 rfl; have k6 := K6.lt; have U6 := A7.but B6 hU5 hUK; have u1 := U6.c 1 rfl; have u3 := U6.c 3 rfl))
                  go_roundw
                  case rel => exact ⟨k + 1, c, by omega, by go_num, K6, B6, hcd, fun h => absurd h (Nat.succ_ne_zero _), fun _ => HF.out⟩
                  case measure => simp [intOf]; omega
            · have hcon : p.data.toList.contains 61 = false := by
                cases hh : p.data.toList.contains 61 with
                | false => rfl
                | true => exact absurd (hpc.2 hh) hfn
              have hne2 : n = PP.size := by omega
              obtain ⟨VV, hVV⟩ : ∃ V : ByteArray, V = ⟨#[]⟩ := ⟨_, rfl⟩
              have hVp : VV.data.toList = trimC (post 61 p.data.toList) := by
                rw [hVV, post_none 61 _ (fun h => by rw [List.contains_iff_mem.2 h] at hcon; cases hcon)]; rfl
              have hfi : ¬ (n : Int) < (PP.size : Int) := by omega
              have hfb : ((n : Int) == (PP.size : Int)) = true := beq_iff_eq.2 (by omega)
              by_cases hk0 : k = 0
              · subst hk0
                obtain rfl := hc0 rfl
                obtain ⟨p0, pr, hseg, hR0⟩ := HR.out
                have hp0 : p.data.toList = p0 ∧ lists (ps.drop 1) = pr := by
                  have h1 : lists (ps.drop 0) = p0 :: pr := by rw [List.drop_zero]; exact hseg
                  rw [hdk] at h1
                  exact List.cons.inj h1
                rw [← hp0.1, ← hp0.2, hcon, if_pos (.inl rfl)] at hR0
                have hf0 : R = (ck0, 4) := hR0.symm
                clear hR0 hseg hp0 hdk hp hPP hn hNN hLL hVV hNp hVp hpc hcon hcd hf hc0 hne2 hfn
                have HV := Lib.hid hf0
                clear hf0
                have r0 := R8.c 0 rfl; have r1 := R8.c 1 rfl; have r2 := R8.c 2 rfl; have r3 := R8.c 3 rfl; have r4 := R8.c 4 rfl; have r5 := R8.c 5 rfl; have r6 := R8.c 6 rfl; have r7 := R8.c 7 rfl; have r8 := R8.c 8 rfl; have q0 := R8.f 0 rfl; have q1 := R8.f 1 rfl; have q2 := R8.f 2 rfl; have q3 := R8.f 3 rfl; have q4 := R8.f 4 rfl; have q5 := R8.f 5 rfl; have q6 := R8.f 6 rfl; have q7 := R8.f 7 rfl; have q8 := R8.f 8 rfl
                have z0 := Z8.c 0 rfl; have z1 := Z8.c 1 rfl; have z2 := Z8.c 2 rfl; have z3 := Z8.c 3 rfl; have z4 := Z8.c 4 rfl; have z5 := Z8.c 5 rfl; have z6 := Z8.c 6 rfl; have z7 := Z8.c 7 rfl; have z8 := Z8.c 8 rfl
                have kr := R8.lt
                have kz := Z8.lt
                go_wp2_with (first
                  | (go_at_call 46; with_reducible refine (CTr1.out _).mono ?_; rintro x v ⟨rfl, rfl⟩)
                  | (go_at_call 47; with_reducible refine (CFi.out _).mono ?_; rintro x v ⟨rfl, rfl⟩)
                  | (go_at_call 46; with_reducible refine (CTr2.out _).mono ?_; rintro x v ⟨rfl, rfl⟩))
                exact bodyPost_ret (ret9_run Tryz.results13 Tryz.sizeOf29 Tryz.isAgg29 _ _ _ _ _ _ _ _ _ _ _ _ _ rfl rfl (R8.set9 rfl _ _ _ _ _ _ _ _ _)) rfl ⟨by rw [HV.out]; exact rfl, below_set9 HBX (Nat.le_succ _) _ _ _ _ _ _ _ _ _⟩
              · have hf := hf (by omega)
                have hkb : ((k : Int) == 0) = false := beq_eq_false_iff_ne.2 (by omega)
                rw [hdk, show lists (p :: ps.drop (k + 1)) = p.data.toList :: lists (ps.drop (k + 1)) from rfl, List.foldl_cons, step_is b dp now c p.data.toList LL VV (by rw [hLL, hNp]) hVp] at hf
                subst hVV
                have hVs : (⟨#[]⟩ : ByteArray).size ≤ 100000 := by decide
                clear hdk hp hPP hn hNN hLL hNp hVp hpc hcon hc0 hk0 R8 Z8 HBX hne2 hfn
                rcases kind_cases LL with ⟨g1, e⟩ | ⟨g1, g2, e⟩ | ⟨g1, g2, g3, e⟩ | ⟨g1, g2, g3, g4, e⟩ | ⟨g1, g2, g3, g4, g5, e⟩ | ⟨g1, g2, g3, g4, g5, n1, n2, n3, n4, n5⟩
                · rw [e, attr_max0 _ _ _ _ _ (show ageL (⟨#[]⟩ : ByteArray).data.toList = none by decide)] at hf
                  have CA := Lib.hid (fun w => rage_is ⟨#[]⟩ none (by decide) w (by decide))
                  have HF := Lib.hid hf
                  clear hf e
                  go_wp2_with (first
                    | (go_at_call 46; with_reducible refine (CTr1.out _).mono ?_; rintro x v ⟨rfl, rfl⟩)
                    | (go_at_call 47; with_reducible refine (CFi.out _).mono ?_; rintro x v ⟨rfl, rfl⟩)
                    | (go_at_call 46; with_reducible refine (CTr2.out _).mono ?_; rintro x v ⟨rfl, rfl⟩)
                    | (go_at_call 48; with_reducible refine (CL1.out _).mono ?_; rintro x v6 ⟨rfl, hv6⟩; have B6 := hbw.below hv6 hW5; have K6 := AK8.next hv6; have z0 := K6.c 0 rfl; have z1 := K6.c 1 rfl; have z2 := K6.c 2 rfl; have z3 := K6.c 3 rfl; have z4 := K6.c 4 rfl; have z5 := K6.c 5 rfl; have z6 := K6.c 6 rfl; have z7 := K6.c 7 rfl; have z8 := K6.c 8 rfl; have y0 := K6.f 0 rfl; have y1 := K6.f 1 rfl; have y2 := K6.f 2 rfl; have y3 := K6.f 3 rfl; have y4 := K6.f 4 rfl; have y5 := K6.f 5 rfl; have y6 := K6.f 6 rfl; have y7 := K6.f 7 rfl; have y8 := K6.f 8 rfl; have k6 := K6.lt; have U6 := A7.but B6 hU5 hUK; have u1 := U6.c 1 rfl; have u3 := U6.c 3 rfl)
                    | (go_at_call 49; with_reducible refine (CA.out _).mono ?_; rintro x v ⟨rfl, rfl⟩))
                  go_roundw
                  case rel => exact ⟨k + 1, c, by omega, by go_num, K6, B6, hcd, fun h => absurd h (Nat.succ_ne_zero _), fun _ => HF.out⟩
                  case measure => simp [intOf]; omega
                · rw [e, attr_dom, if_pos (show lowL (undot (⟨#[]⟩ : ByteArray).data.toList) = [] by decide)] at hf
                  have CSd := Lib.hid (fun w => startsq_is ⟨#[]⟩ ⟨#[46]⟩ false (by decide) w (by decide) (by decide))
                  have CL2 := Lib.hid (fun w => smallc_is ⟨#[]⟩ ⟨#[]⟩ rfl w (by decide))
                  have HF := Lib.hid hf
                  clear hf e
                  go_wp2_with (first
                    | (go_at_call 46; with_reducible refine (CTr1.out _).mono ?_; rintro x v ⟨rfl, rfl⟩)
                    | (go_at_call 47; with_reducible refine (CFi.out _).mono ?_; rintro x v ⟨rfl, rfl⟩)
                    | (go_at_call 46; with_reducible refine (CTr2.out _).mono ?_; rintro x v ⟨rfl, rfl⟩)
                    | (go_at_call 48; with_reducible refine (CL1.out _).mono ?_; rintro x v6 ⟨rfl, hv6⟩; have B6 := hbw.below hv6 hW5; have K6 := AK8.next hv6; have z0 := K6.c 0 rfl; have z1 := K6.c 1 rfl; have z2 := K6.c 2 rfl; have z3 := K6.c 3 rfl; have z4 := K6.c 4 rfl; have z5 := K6.c 5 rfl; have z6 := K6.c 6 rfl; have z7 := K6.c 7 rfl; have z8 := K6.c 8 rfl; have y0 := K6.f 0 rfl; have y1 := K6.f 1 rfl; have y2 := K6.f 2 rfl; have y3 := K6.f 3 rfl; have y4 := K6.f 4 rfl; have y5 := K6.f 5 rfl; have y6 := K6.f 6 rfl; have y7 := K6.f 7 rfl; have y8 := K6.f 8 rfl; have k6 := K6.lt; have U6 := A7.but B6 hU5 hUK; have u1 := U6.c 1 rfl; have u3 := U6.c 3 rfl; have B6h : w5.heap.size ≤ v6.heap.size := Nat.le_trans hW5 hv6.size)
                    | (go_at_call 51; with_reducible refine (CSd.out _).mono ?_; rintro x v ⟨rfl, rfl⟩)
                    | (go_at_call 48; with_reducible refine (CL2.out _).mono ?_; rintro x v7 ⟨rfl, hv7⟩; have B7 := B6.below hv7 B6h; have K7 := K6.next hv7; have z0 := K7.c 0 rfl; have z1 := K7.c 1 rfl; have z2 := K7.c 2 rfl; have z3 := K7.c 3 rfl; have z4 := K7.c 4 rfl; have z5 := K7.c 5 rfl; have z6 := K7.c 6 rfl; have z7 := K7.c 7 rfl; have z8 := K7.c 8 rfl; have y0 := K7.f 0 rfl; have y1 := K7.f 1 rfl; have y2 := K7.f 2 rfl; have y3 := K7.f 3 rfl; have y4 := K7.f 4 rfl; have y5 := K7.f 5 rfl; have y6 := K7.f 6 rfl; have y7 := K7.f 7 rfl; have y8 := K7.f 8 rfl; have k7 := K7.lt; have U7 := A7.but B7 hU5 hUK; have u1 := U7.c 1 rfl; have u3 := U7.c 3 rfl))
                  go_roundw
                  case rel => exact ⟨k + 1, { c with d := b, ho := true }, by omega, by go_num, (((K7.set 2 _).set 4 _).set 2 _), (((B7.setCell _ (Or.inl rfl) _).setCell _ (Or.inl rfl) _).setCell _ (Or.inl rfl) _), by have := hz.b; show b.size ≤ _; omega, fun h => absurd h (Nat.succ_ne_zero _), fun _ => HF.out⟩
                  case measure => simp [intOf]; omega
                · rw [e, attr_path, if_neg (show ¬ Lib.hasPrefix (⟨#[]⟩ : ByteArray).data.toList [47] = true by decide)] at hf
                  have CSl := Lib.hid (fun w => startsq_is ⟨#[]⟩ ⟨#[47]⟩ false (by decide) w (by decide) (by decide))
                  have HF := Lib.hid hf
                  clear hf e
                  go_wp2_with (first
                    | (go_at_call 46; with_reducible refine (CTr1.out _).mono ?_; rintro x v ⟨rfl, rfl⟩)
                    | (go_at_call 47; with_reducible refine (CFi.out _).mono ?_; rintro x v ⟨rfl, rfl⟩)
                    | (go_at_call 46; with_reducible refine (CTr2.out _).mono ?_; rintro x v ⟨rfl, rfl⟩)
                    | (go_at_call 48; with_reducible refine (CL1.out _).mono ?_; rintro x v6 ⟨rfl, hv6⟩; have B6 := hbw.below hv6 hW5; have K6 := AK8.next hv6; have z0 := K6.c 0 rfl; have z1 := K6.c 1 rfl; have z2 := K6.c 2 rfl; have z3 := K6.c 3 rfl; have z4 := K6.c 4 rfl; have z5 := K6.c 5 rfl; have z6 := K6.c 6 rfl; have z7 := K6.c 7 rfl; have z8 := K6.c 8 rfl; have y0 := K6.f 0 rfl; have y1 := K6.f 1 rfl; have y2 := K6.f 2 rfl; have y3 := K6.f 3 rfl; have y4 := K6.f 4 rfl; have y5 := K6.f 5 rfl; have y6 := K6.f 6 rfl; have y7 := K6.f 7 rfl; have y8 := K6.f 8 rfl; have k6 := K6.lt; have U6 := A7.but B6 hU5 hUK; have u1 := U6.c 1 rfl; have u3 := U6.c 3 rfl)
                    | (go_at_call 19; with_reducible refine (CD.out _).mono ?_; rintro x v ⟨rfl, rfl⟩)
                    | (go_at_call 51; with_reducible refine (CSl.out _).mono ?_; rintro x v ⟨rfl, rfl⟩))
                  go_roundw
                  case rel => exact ⟨k + 1, { c with p := dp }, by omega, by go_num, (K6.set 3 _), (B6.setCell _ (Or.inl rfl) _), hcd, fun h => absurd h (Nat.succ_ne_zero _), fun _ => HF.out⟩
                  case measure => simp [intOf]; omega
                · rw [e, attr_sec] at hf
                  have HF := Lib.hid hf
                  clear hf e
                  go_wp2_with (first
                    | (go_at_call 46; with_reducible refine (CTr1.out _).mono ?_; rintro x v ⟨rfl, rfl⟩)
                    | (go_at_call 47; with_reducible refine (CFi.out _).mono ?_; rintro x v ⟨rfl, rfl⟩)
                    | (go_at_call 46; with_reducible refine (CTr2.out _).mono ?_; rintro x v ⟨rfl, rfl⟩)
                    | (go_at_call 48; with_reducible refine (CL1.out _).mono ?_; rintro x v6 ⟨rfl, hv6⟩; have B6 := hbw.below hv6 hW5; have K6 := AK8.next hv6; have z0 := K6.c 0 rfl; have z1 := K6.c 1 rfl; have z2 := K6.c 2 rfl; have z3 := K6.c 3 rfl; have z4 := K6.c 4 rfl; have z5 := K6.c 5 rfl; have z6 := K6.c 6 rfl; have z7 := K6.c 7 rfl; have z8 := K6.c 8 rfl; have y0 := K6.f 0 rfl; have y1 := K6.f 1 rfl; have y2 := K6.f 2 rfl; have y3 := K6.f 3 rfl; have y4 := K6.f 4 rfl; have y5 := K6.f 5 rfl; have y6 := K6.f 6 rfl; have y7 := K6.f 7 rfl; have y8 := K6.f 8 rfl; have k6 := K6.lt; have U6 := A7.but B6 hU5 hUK; have u1 := U6.c 1 rfl; have u3 := U6.c 3 rfl))
                  go_roundw
                  case rel => exact ⟨k + 1, { c with se := true }, by omega, by go_num, (K6.set 5 _), (B6.setCell _ (Or.inl rfl) _), hcd, fun h => absurd h (Nat.succ_ne_zero _), fun _ => HF.out⟩
                  case measure => simp [intOf]; omega
                · rw [e, attr_hid] at hf
                  have HF := Lib.hid hf
                  clear hf e
                  go_wp2_with (first
                    | (go_at_call 46; with_reducible refine (CTr1.out _).mono ?_; rintro x v ⟨rfl, rfl⟩)
                    | (go_at_call 47; with_reducible refine (CFi.out _).mono ?_; rintro x v ⟨rfl, rfl⟩)
                    | (go_at_call 46; with_reducible refine (CTr2.out _).mono ?_; rintro x v ⟨rfl, rfl⟩)
                    | (go_at_call 48; with_reducible refine (CL1.out _).mono ?_; rintro x v6 ⟨rfl, hv6⟩; have B6 := hbw.below hv6 hW5; have K6 := AK8.next hv6; have z0 := K6.c 0 rfl; have z1 := K6.c 1 rfl; have z2 := K6.c 2 rfl; have z3 := K6.c 3 rfl; have z4 := K6.c 4 rfl; have z5 := K6.c 5 rfl; have z6 := K6.c 6 rfl; have z7 := K6.c 7 rfl; have z8 := K6.c 8 rfl; have y0 := K6.f 0 rfl; have y1 := K6.f 1 rfl; have y2 := K6.f 2 rfl; have y3 := K6.f 3 rfl; have y4 := K6.f 4 rfl; have y5 := K6.f 5 rfl; have y6 := K6.f 6 rfl; have y7 := K6.f 7 rfl; have y8 := K6.f 8 rfl; have k6 := K6.lt; have U6 := A7.but B6 hU5 hUK; have u1 := U6.c 1 rfl; have u3 := U6.c 3 rfl))
                  go_roundw
                  case rel => exact ⟨k + 1, { c with hi := true }, by omega, by go_num, (K6.set 6 _), (B6.setCell _ (Or.inl rfl) _), hcd, fun h => absurd h (Nat.succ_ne_zero _), fun _ => HF.out⟩
                  case measure => simp [intOf]; omega
                · rw [attr_no _ _ _ _ _ _ n1 n2 n3 n4 n5] at hf
                  have HF := Lib.hid hf
                  clear hf n1 n2 n3 n4 n5
                  go_wp2_with (first
                    | (go_at_call 46; with_reducible refine (CTr1.out _).mono ?_; rintro x v ⟨rfl, rfl⟩)
                    | (go_at_call 47; with_reducible refine (CFi.out _).mono ?_; rintro x v ⟨rfl, rfl⟩)
                    | (go_at_call 46; with_reducible refine (CTr2.out _).mono ?_; rintro x v ⟨rfl, rfl⟩)
                    | (go_at_call 48; with_reducible refine (CL1.out _).mono ?_; rintro x v6 ⟨rfl, hv6⟩; have B6 := hbw.below hv6 hW5; have K6 := AK8.next hv6; have z0 := K6.c 0 rfl; have z1 := K6.c 1 rfl; have z2 := K6.c 2 rfl; have z3 := K6.c 3 rfl; have z4 := K6.c 4 rfl; have z5 := K6.c 5 rfl; have z6 := K6.c 6 rfl; have z7 := K6.c 7 rfl; have z8 := K6.c 8 rfl; have y0 := K6.f 0 rfl; have y1 := K6.f 1 rfl; have y2 := K6.f 2 rfl; have y3 := K6.f 3 rfl; have y4 := K6.f 4 rfl; have y5 := K6.f 5 rfl; have y6 := K6.f 6 rfl; have y7 := K6.f 7 rfl; have y8 := K6.f 8 rfl; have k6 := K6.lt; have U6 := A7.but B6 hU5 hUK; have u1 := U6.c 1 rfl; have u3 := U6.c 3 rfl))
                  go_roundw
                  case rel => exact ⟨k + 1, c, by omega, by go_num, K6, B6, hcd, fun h => absurd h (Nat.succ_ne_zero _), fun _ => HF.out⟩
                  case measure => simp [intOf]; omega
          · obtain rfl : k = ps.length := by omega
            have hf := hf (by omega)
            rw [List.drop_length] at hf
            have hf : lastC b.data.toList a.data.toList c = R := hf
            have A8 := A7.but hbw hU5 hUK
            clear AK7 HC HR HQ CD hc0
            obtain ⟨cn, cv, cd, cp, cho, cse, chi, cex, ccr⟩ := c
            have hcd : cd.size ≤ 200000 := hcd
            obtain ⟨D, hD⟩ : ∃ D, domL b.data.toList cd.data.toList = D := ⟨_, rfl⟩
            have CDm := Lib.hid (fun w => (rdomq_is b cd D hD w (by have := hz.b; omega) (by omega)).mono fun e w' ⟨h1, h2⟩ => (⟨h1, h2.symm⟩ : _ ∧ w' = w))
            obtain ⟨n, hn⟩ : ∃ n, (pre 46 cd.data.toList).length = n := ⟨_, rfl⟩
            have CFn := Lib.hid (fun w => (findc46 cd n hn w (by omega)).mono fun e w' ⟨h1, h2⟩ => (⟨h1, h2.symm⟩ : _ ∧ w' = w))
            have hnc : (n = cd.size) ↔ cd.data.toList.contains 46 = false := by rw [← hn, ← size_len]; exact pre_full 46 _
            have hnl : n ≤ cd.size := by rw [← hn, ← size_len]; exact pre_len' 46 _
            unfold lastC at hf
            rw [hD] at hf
            have z0 := AK8.c 0 rfl; have z1 := AK8.c 1 rfl; have z2 := AK8.c 2 rfl; have z3 := AK8.c 3 rfl; have z4 := AK8.c 4 rfl; have z5 := AK8.c 5 rfl; have z6 := AK8.c 6 rfl; have z7 := AK8.c 7 rfl; have z8 := AK8.c 8 rfl
            have t0 := Z8.c 0 rfl; have t1 := Z8.c 1 rfl; have t2 := Z8.c 2 rfl; have t3 := Z8.c 3 rfl; have t4 := Z8.c 4 rfl; have t5 := Z8.c 5 rfl; have t6 := Z8.c 6 rfl; have t7 := Z8.c 7 rfl; have t8 := Z8.c 8 rfl
            have r0 := R8.c 0 rfl; have r1 := R8.c 1 rfl; have r2 := R8.c 2 rfl; have r3 := R8.c 3 rfl; have r4 := R8.c 4 rfl; have r5 := R8.c 5 rfl; have r6 := R8.c 6 rfl; have r7 := R8.c 7 rfl; have r8 := R8.c 8 rfl; have q0 := R8.f 0 rfl; have q1 := R8.f 1 rfl; have q2 := R8.f 2 rfl; have q3 := R8.f 3 rfl; have q4 := R8.f 4 rfl; have q5 := R8.f 5 rfl; have q6 := R8.f 6 rfl; have q7 := R8.f 7 rfl; have q8 := R8.f 8 rfl
            have kr := R8.lt
            have kz := Z8.lt
            have kk := AK8.lt
            have u0 := A8.c 0 rfl
            have u1 := A8.c 1 rfl
            clear hn
            cases D
            · have HV : Hid (R = (ck0, 15)) := by rw [← hf, if_pos (Or.inl rfl)]; exact rfl
              clear hf hD hnc
              go_wp2_with fail
              go_quiet ((go_at_call 15; exact Calls.quiet_of_same (CDm.out _)))
              go_wp2_with fail
              exact bodyPost_ret (ret9_run Tryz.results13 Tryz.sizeOf29 Tryz.isAgg29 _ _ _ _ _ _ _ _ _ _ _ _ _ rfl rfl ((R8.drewN _).set9 rfl _ _ _ _ _ _ _ _ _)) rfl ⟨by rw [HV.out]; exact rfl, below_set9 (below_drewN HBX _) (Nat.le_succ _) _ _ _ _ _ _ _ _ _⟩
            · by_cases hm : cd.data.toList = b.data.toList
              · obtain rfl : cd = b := ba_ext' hm
                rw [if_neg (by rintro (h | h); cases h; exact h.1 hm)] at hf
                have HL := Lib.hid hf
                clear hf hm hD hnc
                cases cse
                · have HV : Hid (R = (⟨cn, cv, cd, cp, cho, false, chi, cex, ccr⟩, 0)) := by rw [← HL.out, if_neg (by simp)]; exact rfl
                  clear HL
                  go_wp2_with fail
                  go_quiet ((go_at_call 15; exact Calls.quiet_of_same (CDm.out _)))
                  go_wp2_with fail
                  exact bodyPost_ret (ret9_run Tryz.results13 Tryz.sizeOf29 Tryz.isAgg29 _ _ _ _ _ _ _ _ _ _ _ _ _ rfl rfl ((R8.drewN _).set9 rfl _ _ _ _ _ _ _ _ _)) rfl ⟨by rw [HV.out]; exact rfl, below_set9 (below_drewN HBX _) (Nat.le_succ _) _ _ _ _ _ _ _ _ _⟩
                · by_cases hsc : a.data.toList = httpsL
                  · have HV : Hid (R = (⟨cn, cv, cd, cp, cho, true, chi, cex, ccr⟩, 0)) := by rw [← HL.out, if_neg (by simp [hsc])]; exact rfl
                    have hs2 : a.toList = [104, 116, 116, 112, 115] := by rw [ByteArray.toList_eq]; exact hsc
                    clear HL hsc
                    go_wp2_with fail
                    go_quiet ((go_at_call 15; exact Calls.quiet_of_same (CDm.out _)))
                    go_wp2_with fail
                    exact bodyPost_ret (ret9_run Tryz.results13 Tryz.sizeOf29 Tryz.isAgg29 _ _ _ _ _ _ _ _ _ _ _ _ _ rfl rfl ((R8.drewN _).set9 rfl _ _ _ _ _ _ _ _ _)) rfl ⟨by rw [HV.out]; exact rfl, below_set9 (below_drewN HBX _) (Nat.le_succ _) _ _ _ _ _ _ _ _ _⟩
                  · have HV : Hid (R = (ck0, 7)) := by rw [← HL.out, if_pos ⟨rfl, hsc⟩]; exact rfl
                    have hs2 : ¬ a.toList = [104, 116, 116, 112, 115] := by rw [ByteArray.toList_eq]; exact hsc
                    have hs3 : (a.toList == [104, 116, 116, 112, 115]) = false := beq_eq_false_iff_ne.2 hs2
                    clear HL hsc
                    go_wp2_with fail
                    go_quiet ((go_at_call 15; exact Calls.quiet_of_same (CDm.out _)))
                    go_wp2_with fail
                    exact bodyPost_ret (ret9_run Tryz.results13 Tryz.sizeOf29 Tryz.isAgg29 _ _ _ _ _ _ _ _ _ _ _ _ _ rfl rfl ((R8.drewN _).set9 rfl _ _ _ _ _ _ _ _ _)) rfl ⟨by rw [HV.out]; exact rfl, below_set9 (below_drewN HBX _) (Nat.le_succ _) _ _ _ _ _ _ _ _ _⟩
              · have hm1 : ¬ cd.toList = b.toList := by rw [ByteArray.toList_eq, ByteArray.toList_eq]; exact hm
                have hm2 : (cd.toList == b.toList) = false := beq_eq_false_iff_ne.2 hm1
                by_cases hKn : n = cd.size
                · have HV : Hid (R = (ck0, 15)) := by rw [← hf, if_pos (Or.inr ⟨hm, hnc.1 hKn⟩)]; exact rfl
                  have hKi : ((n : Int) == (cd.size : Int)) = true := beq_iff_eq.2 (by omega)
                  clear hf hm hD hnc
                  go_wp2_with fail
                  go_quiet (first | (go_at_call 15; exact Calls.quiet_of_same (CDm.out _)) | (go_at_call 47; exact Calls.quiet_of_same (CFn.out _)))
                  go_wp2_with fail
                  exact bodyPost_ret (ret9_run Tryz.results13 Tryz.sizeOf29 Tryz.isAgg29 _ _ _ _ _ _ _ _ _ _ _ _ _ rfl rfl ((R8.drewN _).set9 rfl _ _ _ _ _ _ _ _ _)) rfl ⟨by rw [HV.out]; exact rfl, below_set9 (below_drewN HBX _) (Nat.le_succ _) _ _ _ _ _ _ _ _ _⟩
                · rw [if_neg (by rintro (h | h); cases h; exact hKn (hnc.2 h.2))] at hf
                  have hKi : ((n : Int) == (cd.size : Int)) = false := beq_eq_false_iff_ne.2 (by omega)
                  have HL := Lib.hid hf
                  clear hf hm hD hnc
                  cases cse
                  · have HV : Hid (R = (⟨cn, cv, cd, cp, cho, false, chi, cex, ccr⟩, 0)) := by rw [← HL.out, if_neg (by simp)]; exact rfl
                    clear HL
                    go_wp2_with fail
                    go_quiet (first | (go_at_call 15; exact Calls.quiet_of_same (CDm.out _)) | (go_at_call 47; exact Calls.quiet_of_same (CFn.out _)))
                    go_wp2_with fail
                    exact bodyPost_ret (ret9_run Tryz.results13 Tryz.sizeOf29 Tryz.isAgg29 _ _ _ _ _ _ _ _ _ _ _ _ _ rfl rfl ((R8.drewN _).set9 rfl _ _ _ _ _ _ _ _ _)) rfl ⟨by rw [HV.out]; exact rfl, below_set9 (below_drewN HBX _) (Nat.le_succ _) _ _ _ _ _ _ _ _ _⟩
                  · by_cases hsc : a.data.toList = httpsL
                    · have HV : Hid (R = (⟨cn, cv, cd, cp, cho, true, chi, cex, ccr⟩, 0)) := by rw [← HL.out, if_neg (by simp [hsc])]; exact rfl
                      have hs2 : a.toList = [104, 116, 116, 112, 115] := by rw [ByteArray.toList_eq]; exact hsc
                      clear HL hsc
                      go_wp2_with fail
                      go_quiet (first | (go_at_call 15; exact Calls.quiet_of_same (CDm.out _)) | (go_at_call 47; exact Calls.quiet_of_same (CFn.out _)))
                      go_wp2_with fail
                      exact bodyPost_ret (ret9_run Tryz.results13 Tryz.sizeOf29 Tryz.isAgg29 _ _ _ _ _ _ _ _ _ _ _ _ _ rfl rfl ((R8.drewN _).set9 rfl _ _ _ _ _ _ _ _ _)) rfl ⟨by rw [HV.out]; exact rfl, below_set9 (below_drewN HBX _) (Nat.le_succ _) _ _ _ _ _ _ _ _ _⟩
                    · have HV : Hid (R = (ck0, 7)) := by rw [← HL.out, if_pos ⟨rfl, hsc⟩]; exact rfl
                      have hs2 : ¬ a.toList = [104, 116, 116, 112, 115] := by rw [ByteArray.toList_eq]; exact hsc
                      have hs3 : (a.toList == [104, 116, 116, 112, 115]) = false := beq_eq_false_iff_ne.2 hs2
                      clear HL hsc
                      go_wp2_with fail
                      go_quiet (first | (go_at_call 15; exact Calls.quiet_of_same (CDm.out _)) | (go_at_call 47; exact Calls.quiet_of_same (CFn.out _)))
                      go_wp2_with fail
                      exact bodyPost_ret (ret9_run Tryz.results13 Tryz.sizeOf29 Tryz.isAgg29 _ _ _ _ _ _ _ _ _ _ _ _ _ rfl rfl ((R8.drewN _).set9 rfl _ _ _ _ _ _ _ _ _)) rfl ⟨by rw [HV.out]; exact rfl, below_set9 (below_drewN HBX _) (Nat.le_succ _) _ _ _ _ _ _ _ _ _⟩
/-- the reference's Parse -/
theorem rparse_is (s a b c d e f : ByteArray) (now : Int) (T : Bool) (hT : takesB (u6 a b c d e f) = T) (R : Ck × Int) (hR : parseC s.data.toList T a b d now = R) (w : World) (hs : s.size ≤ 100000) (hz : USize 40000 a b c d e f) (hM : MaxAt w) :
    Calls Tryz.prog 13 #[.string s, urlA a b c d e f, .int .i64 now] w fun x w' => x = .returned (resC R) ∧ Below w.heap.size w w' := by
  subst hR
  cases T with
  | false => rw [parseC_no]; exact rparse_no s a b c d e f now w hz hM hT
  | true =>
    cases hS : segs 59 s.data.toList with
    | nil => exact absurd hS (segs_ne 59 _)
    | cons p0 pr =>
      rw [parseC_yes _ _ _ _ _ p0 pr hS]
      cases hc : ctlL s.data.toList with
      | true => rw [if_pos (.inr (.inr rfl))]; exact rparse_ctl s a b c d e f now w hs hz hM hT hc
      | false =>
        refine rparse_main s a b c d e f now w hs hz hM hT hc _ ⟨p0, pr, hS, ?_⟩
        by_cases hb : p0.contains 61 = false ∨ trimC (pre 61 p0) = []
        · rw [if_pos hb, if_pos (by rcases hb with h | h; exact .inl h; exact .inr (.inl h))]
        · rw [if_neg hb, if_neg (by rintro (h | h | h); exact hb (.inl h); exact hb (.inr h); cases h)]
end Go.Proofs.YtgjooigolgdocaaGreatDoor
