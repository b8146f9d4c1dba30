/- Cookies: the walk of cookie.Parse, whole. -/
import Derived.Test.YtgjooigolgdocaaGreatDoorCH
namespace Go.Proofs.YtgjooigolgdocaaGreatDoor
set_option linter.unusedVariables false
set_option linter.unusedSimpArgs false
open Go.RowKit

set_option maxRecDepth 20000 in
set_option maxHeartbeats 4000000 in
theorem cparse_one (s a b c d e f : ByteArray) (now : Int) (w : World) (hs : s.size ≤ 100000) (hz : USize 40000 a b c d e f) (hM : MaxAt w) (hT : takesB (u6 a b c d e f) = true)
    (q0 : ByteArray) (qs : List ByteArray) (hq : lists (q0 :: qs) = segs 59 s.data.toList) (hne : qs = [])
    (CSp : Hid (∀ w, MaxAt w → Calls Tryz.prog 35 #[.string s, .string ⟨#[59]⟩] w fun e w' => e = .returned (.slice (some ⟨w.heap.size, 0, none⟩) (q0 :: qs).length (q0 :: qs).length) ∧ Below w.heap.size w w' ∧ w.heap.size < w'.heap.size ∧ w'.cell? ⟨w.heap.size, 0, none⟩ = some (.string q0) ∧ ∀ j (h : j < qs.length), w'.cell? ⟨w.heap.size, 1 + j, none⟩ = some (.string qs[j])))
    (hg1 : q0.data.toList.contains 61 = true) (hg2 : trimC (pre 61 q0.data.toList) ≠ []) (hg3 : ctlL s.data.toList = false)
    (R : Ck × Int) (hR : lastC b.data.toList a.data.toList ((lists qs).foldl (stepC b (bs (defpL d.data.toList)) now) (firstC b (bs (defpL d.data.toList)) q0.data.toList)) = R) :
    Calls Tryz.prog 12 #[.string s, urlA a b c d e f, .int .i64 now] w fun x w' => x = .returned (resC R) ∧ Below w.heap.size w w' := by
  subst hne
  have CT := Lib.hid (fun w hM => takes_is a b c d e f true hT w hz hM)
  have hsz := segs_sizes hq
  have hq0 := hsz.2 q0 (by simp)
  obtain ⟨N, hN⟩ : ∃ N : ByteArray, N = bs (trimC (pre 61 q0.data.toList)) := ⟨bs _, rfl⟩
  obtain ⟨V, hV⟩ : ∃ V : ByteArray, V = bs (trimC (post 61 q0.data.toList)) := ⟨bs _, rfl⟩
  have CP := Lib.hid (fun w hM => pair_is q0 N V true w (by omega) hM (by rw [hN]; rfl) (by rw [hV]; rfl) hg1)
  have CK := Lib.hid (fun w => control_is s false hg3 w)
  have hNE : N.toList.isEmpty = false := by
    rw [hN, trimC_nil_bs]; exact decide_eq_false hg2
  obtain ⟨dp, hdp⟩ : ∃ dp, bs (defpL d.data.toList) = dp := ⟨_, rfl⟩
  have cD := fun w => defp_is d w (by have := hz.d; omega)
  rw [hdp] at cD hR
  have CD := Lib.hid cD
  have hF : firstC b dp q0.data.toList = ⟨N, V, b, dp, true, false, false, -1, 0⟩ := by rw [hN, hV]; rfl
  rw [hF] at hR
  have HR := Lib.hid hR
  have A0 := AtL.new w (urlL a b c d e f) 23
  have A1 := A0.alloc (.cells #[.string ⟨#[]⟩, .string ⟨#[]⟩, .string ⟨#[]⟩, .string ⟨#[]⟩, .bool false, .bool false, .bool false, .int .i64 0, .int .i64 0] 29)
  have R1 := AtL.new (w.alloc (.cells #[.string a, .string b, .string c, .string d, .string e, .string f] 23)) ck0V 29
  have hB1 : Below w.heap.size w ((w.alloc (.cells #[.string a, .string b, .string c, .string d, .string e, .string f] 23)).alloc (.cells #[.string ⟨#[]⟩, .string ⟨#[]⟩, .string ⟨#[]⟩, .string ⟨#[]⟩, .bool false, .bool false, .bool false, .int .i64 0, .int .i64 0] 29)) := ((Below.refl _ w).alloc (Nat.le_refl _) _).alloc (by simp) _
  have hM1 := hM.below hB1 (Nat.le_refl _)
  have hk1 : w.heap.size < ((w.alloc (.cells #[.string a, .string b, .string c, .string d, .string e, .string f] 23)).alloc (.cells #[.string ⟨#[]⟩, .string ⟨#[]⟩, .string ⟨#[]⟩, .string ⟨#[]⟩, .bool false, .bool false, .bool false, .int .i64 0, .int .i64 0] 29)).heap.size := (by simp; omega)
  rw [show (w.alloc (.cells #[.string a, .string b, .string c, .string d, .string e, .string f] 23)).heap.size = w.heap.size + 1 by simp] at R1
  clear hT hM hN hV hg1 hg2 hg3 hq hq0 hdp hF hR hsz cD
  go_enter Tryz.func12, Tryz.ntmps12
  go_upto_region 7 with (first
    | (go_at_call 34; with_reducible refine (CT.out _ hM1).mono ?_; rintro x w1 ⟨rfl, hb1⟩; have hB2 := hB1.trans (hb1.mono hB1.size); have R2 := R1.next hb1; have A2 := A1.next hb1; have hM2 := hM1.below hb1 (Nat.le_refl _))
    | (go_at_call 35; with_reducible refine (CSp.out _ hM2).mono ?_; rintro x w2 ⟨rfl, hb2, hg2, hp0, hps⟩; have hB3 := hB2.trans (hb2.mono hB2.size); have R3 := R2.next hb2; have A3 := A2.next hb2; have hM3 := hM2.below hb2 (Nat.le_refl _); have HPS := Lib.hid hps; clear hps)
    | (go_at_call 36; with_reducible refine (CP.out _ hM3).mono ?_; rintro x w3 ⟨rfl, hb3⟩; have hB4 := hB3.trans (hb3.mono hB3.size); have R4 := R3.next hb3; have A4 := A3.next hb3; have hM4 := hM3.below hb3 (Nat.le_refl _))
    | (go_at_call 37; with_reducible refine (CK.out _).mono ?_; rintro x w4 ⟨rfl, hb4⟩; have hB5 := hB4.trans (hb4.mono hB4.size); have R5 := R4.next hb4; have A5 := A4.next hb4; have hM5 := hM4.below hb4 (Nat.le_refl _); have u1 := A5.c 1 rfl; have u3 := A5.c 3 rfl))
  have hz4 : w4.heap.size = w4.heap.size := rfl
  go_cut [12] (fun p12 wx => ∃ K, p12 = .pointer (some ⟨K, 0, none⟩) ∧ w4.heap.size ≤ K ∧ AtL wx K (ckL ⟨N, V, b, dp, true, false, false, -1, 0⟩) ∧ Below w4.heap.size w4 wx)
  case first =>
    clear HPS A0 A1 A2 A3 A4 R1 R2 R3 R4
    go_region_held3 (fun w' => w'.cell? ⟨w.heap.size, 1, none⟩ = some (.string b) ∧ w'.cell? ⟨w.heap.size, 3, none⟩ = some (.string d)) (go_keep) (first | (go_at_call 18; with_reducible refine (CD.out _).mono ?_; rintro x w5 ⟨rfl, rfl⟩))
    all_goals
      go_wp2_with fail
      go_meet
      exact ⟨w4.heap.size, rfl, Nat.le_refl _, (AtL.new w4 (ckL ⟨N, V, b, dp, true, false, false, -1, 0⟩) 29).drew, ((Below.refl _ w4).alloc (Nat.le_refl _) _).drew⟩
  case rest =>
    obtain ⟨K, rfl, hK, AK, hBK⟩ := hcut
    have A6 := A5.below hBK A5.lt
    have R6 := R5.below hBK R5.lt
    have hM6 := hM5.below hBK (Nat.le_refl _)
    have hB6 := hB5.trans (hBK.mono hB5.size)
    have hUK : w.heap.size < K := Nat.lt_of_lt_of_le A5.lt hK
    have hRK : w.heap.size + 1 < K := Nat.lt_of_lt_of_le R5.lt hK
    clear A0 A1 A2 A3 A4 A5 R1 R2 R3 R4 R5 hM1 hM2 hM3 hM4 hb1 hb2 hb3 hb4 HPS CT CSp CP CK u1 u3 hp0 hB1 hB2 hB3 hB4 hz4
    have hf : lastC b.data.toList a.data.toList ⟨N, V, b, dp, true, false, false, -1, 0⟩ = R := HR.out
    obtain ⟨c, hc⟩ : ∃ c : Ck, c = ⟨N, V, b, dp, true, false, false, -1, 0⟩ := ⟨_, rfl⟩
    rw [← hc] at AK hf
    have hcd : c.d.size ≤ 200000 := by rw [hc]; have := hz.b; show b.size ≤ _; omega
    have AK7 := AK
    have A7 := A6
    have R7 := R6
    have hB7 := hB6
    clear hc HR AK A6 R6 hB6 CD
    go_wp2_with fail
    refine wp_loop_rounds 1 ?_
    rw [rounds_succ]
    obtain ⟨cn, cv, cd, cp, cho, cse, chi, cex, ccr⟩ := c
    have hcd : cd.size ≤ 200000 := hcd
    obtain ⟨D, hD⟩ : ∃ D, domL b.data.toList cd.data.toList = D := ⟨_, rfl⟩
    have CDm := Lib.hid (fun w => domi_is b cd D hD w (by have := hz.b; omega) (by omega))
    obtain ⟨Kn, hKn⟩ : ∃ Kn, cd.data.toList.contains 46 = Kn := ⟨_, rfl⟩
    have CKn := Lib.hid (fun w => contains_is cd 46 Kn hKn w)
    unfold lastC at hf
    rw [hD, hKn] at hf
    have z0 := AK7.c 0 rfl; have z1 := AK7.c 1 rfl; have z2 := AK7.c 2 rfl; have z3 := AK7.c 3 rfl; have z4 := AK7.c 4 rfl; have z5 := AK7.c 5 rfl; have z6 := AK7.c 6 rfl; have z7 := AK7.c 7 rfl; have z8 := AK7.c 8 rfl
    have u0 := A7.c 0 rfl
    have u1 := A7.c 1 rfl
    cases D
    · have HV : Hid (R = (ck0, 15)) := by rw [← hf, if_pos (Or.inl rfl)]; exact rfl
      clear hf hD hKn
      go_wp2_with (first
        | (go_at_call 14; with_reducible refine (CDm.out _).mono ?_; rintro x w8 ⟨rfl, hb8⟩; have hB8 := hB7.trans (hb8.mono hB7.size); have R8 := R7.next hb8; have r0 := R8.c 0 rfl; have r1 := R8.c 1 rfl; have r2 := R8.c 2 rfl; have r3 := R8.c 3 rfl; have r4 := R8.c 4 rfl; have r5 := R8.c 5 rfl; have r6 := R8.c 6 rfl; have r7 := R8.c 7 rfl; have r8 := R8.c 8 rfl; have q0 := R8.f 0 rfl; have q1 := R8.f 1 rfl; have q2 := R8.f 2 rfl; have q3 := R8.f 3 rfl; have q4 := R8.f 4 rfl; have q5 := R8.f 5 rfl; have q6 := R8.f 6 rfl; have q7 := R8.f 7 rfl; have q8 := R8.f 8 rfl; have hk8 := R8.lt; have K8 := AK7.next hb8; have z0 := K8.c 0 rfl; have z1 := K8.c 1 rfl; have z2 := K8.c 2 rfl; have z3 := K8.c 3 rfl; have z4 := K8.c 4 rfl; have z5 := K8.c 5 rfl; have z6 := K8.c 6 rfl; have z7 := K8.c 7 rfl; have z8 := K8.c 8 rfl; have hk9 := K8.lt; have A8 := A7.next hb8; have v0 := A8.c 0 rfl; have v1 := A8.c 1 rfl)
        | (go_at_call 43; with_reducible refine (CKn.out _).mono ?_; rintro x w9 ⟨rfl, rfl⟩))
      exact bodyPost_ret (ret9_run Tryz.results12 Tryz.sizeOf29 Tryz.isAgg29 _ _ _ _ _ _ _ _ _ _ _ _ _ rfl rfl (R8.set9 rfl _ _ _ _ _ _ _ _ _)) rfl ⟨by rw [HV.out]; exact rfl, below_set9 hB8 (Nat.le_succ _) _ _ _ _ _ _ _ _ _⟩
    · by_cases hm : cd.data.toList = b.data.toList
      · obtain rfl : cd = b := ba_ext' hm
        rw [if_neg (by rintro (h | h); cases h; exact h.1 hm)] at hf
        have HL := Lib.hid hf
        clear hf hm hD hKn
        cases cse
        · have HV : Hid (R = (⟨cn, cv, cd, cp, cho, false, chi, cex, ccr⟩, 0)) := by rw [← HL.out, if_neg (by simp)]; exact rfl
          clear HL
          go_wp2_with (first
            | (go_at_call 14; with_reducible refine (CDm.out _).mono ?_; rintro x w8 ⟨rfl, hb8⟩; have hB8 := hB7.trans (hb8.mono hB7.size); have R8 := R7.next hb8; have r0 := R8.c 0 rfl; have r1 := R8.c 1 rfl; have r2 := R8.c 2 rfl; have r3 := R8.c 3 rfl; have r4 := R8.c 4 rfl; have r5 := R8.c 5 rfl; have r6 := R8.c 6 rfl; have r7 := R8.c 7 rfl; have r8 := R8.c 8 rfl; have q0 := R8.f 0 rfl; have q1 := R8.f 1 rfl; have q2 := R8.f 2 rfl; have q3 := R8.f 3 rfl; have q4 := R8.f 4 rfl; have q5 := R8.f 5 rfl; have q6 := R8.f 6 rfl; have q7 := R8.f 7 rfl; have q8 := R8.f 8 rfl; have hk8 := R8.lt; have K8 := AK7.next hb8; have z0 := K8.c 0 rfl; have z1 := K8.c 1 rfl; have z2 := K8.c 2 rfl; have z3 := K8.c 3 rfl; have z4 := K8.c 4 rfl; have z5 := K8.c 5 rfl; have z6 := K8.c 6 rfl; have z7 := K8.c 7 rfl; have z8 := K8.c 8 rfl; have hk9 := K8.lt; have A8 := A7.next hb8; have v0 := A8.c 0 rfl; have v1 := A8.c 1 rfl)
            | (go_at_call 43; with_reducible refine (CKn.out _).mono ?_; rintro x w9 ⟨rfl, rfl⟩))
          exact bodyPost_ret (ret9_run Tryz.results12 Tryz.sizeOf29 Tryz.isAgg29 _ _ _ _ _ _ _ _ _ _ _ _ _ rfl rfl (R8.set9 rfl _ _ _ _ _ _ _ _ _)) rfl ⟨by rw [HV.out]; exact rfl, below_set9 hB8 (Nat.le_succ _) _ _ _ _ _ _ _ _ _⟩
        · by_cases hsc : a.data.toList = httpsL
          · have HV : Hid (R = (⟨cn, cv, cd, cp, cho, true, chi, cex, ccr⟩, 0)) := by rw [← HL.out, if_neg (by simp [hsc])]; exact rfl
            have hs2 : a.toList = [104, 116, 116, 112, 115] := by rw [ByteArray.toList_eq]; exact hsc
            clear HL hsc
            go_wp2_with (first
              | (go_at_call 14; with_reducible refine (CDm.out _).mono ?_; rintro x w8 ⟨rfl, hb8⟩; have hB8 := hB7.trans (hb8.mono hB7.size); have R8 := R7.next hb8; have r0 := R8.c 0 rfl; have r1 := R8.c 1 rfl; have r2 := R8.c 2 rfl; have r3 := R8.c 3 rfl; have r4 := R8.c 4 rfl; have r5 := R8.c 5 rfl; have r6 := R8.c 6 rfl; have r7 := R8.c 7 rfl; have r8 := R8.c 8 rfl; have q0 := R8.f 0 rfl; have q1 := R8.f 1 rfl; have q2 := R8.f 2 rfl; have q3 := R8.f 3 rfl; have q4 := R8.f 4 rfl; have q5 := R8.f 5 rfl; have q6 := R8.f 6 rfl; have q7 := R8.f 7 rfl; have q8 := R8.f 8 rfl; have hk8 := R8.lt; have K8 := AK7.next hb8; have z0 := K8.c 0 rfl; have z1 := K8.c 1 rfl; have z2 := K8.c 2 rfl; have z3 := K8.c 3 rfl; have z4 := K8.c 4 rfl; have z5 := K8.c 5 rfl; have z6 := K8.c 6 rfl; have z7 := K8.c 7 rfl; have z8 := K8.c 8 rfl; have hk9 := K8.lt; have A8 := A7.next hb8; have v0 := A8.c 0 rfl; have v1 := A8.c 1 rfl)
              | (go_at_call 43; with_reducible refine (CKn.out _).mono ?_; rintro x w9 ⟨rfl, rfl⟩))
            exact bodyPost_ret (ret9_run Tryz.results12 Tryz.sizeOf29 Tryz.isAgg29 _ _ _ _ _ _ _ _ _ _ _ _ _ rfl rfl (R8.set9 rfl _ _ _ _ _ _ _ _ _)) rfl ⟨by rw [HV.out]; exact rfl, below_set9 hB8 (Nat.le_succ _) _ _ _ _ _ _ _ _ _⟩
          · have HV : Hid (R = (ck0, 7)) := by rw [← HL.out, if_pos ⟨rfl, hsc⟩]; exact rfl
            have hs2 : ¬ a.toList = [104, 116, 116, 112, 115] := by rw [ByteArray.toList_eq]; exact hsc
            have hs3 : (a.toList == [104, 116, 116, 112, 115]) = false := beq_eq_false_iff_ne.2 hs2
            clear HL hsc
            go_wp2_with (first
              | (go_at_call 14; with_reducible refine (CDm.out _).mono ?_; rintro x w8 ⟨rfl, hb8⟩; have hB8 := hB7.trans (hb8.mono hB7.size); have R8 := R7.next hb8; have r0 := R8.c 0 rfl; have r1 := R8.c 1 rfl; have r2 := R8.c 2 rfl; have r3 := R8.c 3 rfl; have r4 := R8.c 4 rfl; have r5 := R8.c 5 rfl; have r6 := R8.c 6 rfl; have r7 := R8.c 7 rfl; have r8 := R8.c 8 rfl; have q0 := R8.f 0 rfl; have q1 := R8.f 1 rfl; have q2 := R8.f 2 rfl; have q3 := R8.f 3 rfl; have q4 := R8.f 4 rfl; have q5 := R8.f 5 rfl; have q6 := R8.f 6 rfl; have q7 := R8.f 7 rfl; have q8 := R8.f 8 rfl; have hk8 := R8.lt; have K8 := AK7.next hb8; have z0 := K8.c 0 rfl; have z1 := K8.c 1 rfl; have z2 := K8.c 2 rfl; have z3 := K8.c 3 rfl; have z4 := K8.c 4 rfl; have z5 := K8.c 5 rfl; have z6 := K8.c 6 rfl; have z7 := K8.c 7 rfl; have z8 := K8.c 8 rfl; have hk9 := K8.lt; have A8 := A7.next hb8; have v0 := A8.c 0 rfl; have v1 := A8.c 1 rfl)
              | (go_at_call 43; with_reducible refine (CKn.out _).mono ?_; rintro x w9 ⟨rfl, rfl⟩))
            exact bodyPost_ret (ret9_run Tryz.results12 Tryz.sizeOf29 Tryz.isAgg29 _ _ _ _ _ _ _ _ _ _ _ _ _ rfl rfl (R8.set9 rfl _ _ _ _ _ _ _ _ _)) rfl ⟨by rw [HV.out]; exact rfl, below_set9 hB8 (Nat.le_succ _) _ _ _ _ _ _ _ _ _⟩
      · have hm1 : ¬ cd.toList = b.toList := by rw [ByteArray.toList_eq, ByteArray.toList_eq]; exact hm
        have hm2 : (cd.toList == b.toList) = false := beq_eq_false_iff_ne.2 hm1
        cases Kn
        · have HV : Hid (R = (ck0, 15)) := by rw [← hf, if_pos (Or.inr ⟨hm, rfl⟩)]; exact rfl
          clear hf hm hD hKn
          go_wp2_with (first
            | (go_at_call 14; with_reducible refine (CDm.out _).mono ?_; rintro x w8 ⟨rfl, hb8⟩; have hB8 := hB7.trans (hb8.mono hB7.size); have R8 := R7.next hb8; have r0 := R8.c 0 rfl; have r1 := R8.c 1 rfl; have r2 := R8.c 2 rfl; have r3 := R8.c 3 rfl; have r4 := R8.c 4 rfl; have r5 := R8.c 5 rfl; have r6 := R8.c 6 rfl; have r7 := R8.c 7 rfl; have r8 := R8.c 8 rfl; have q0 := R8.f 0 rfl; have q1 := R8.f 1 rfl; have q2 := R8.f 2 rfl; have q3 := R8.f 3 rfl; have q4 := R8.f 4 rfl; have q5 := R8.f 5 rfl; have q6 := R8.f 6 rfl; have q7 := R8.f 7 rfl; have q8 := R8.f 8 rfl; have hk8 := R8.lt; have K8 := AK7.next hb8; have z0 := K8.c 0 rfl; have z1 := K8.c 1 rfl; have z2 := K8.c 2 rfl; have z3 := K8.c 3 rfl; have z4 := K8.c 4 rfl; have z5 := K8.c 5 rfl; have z6 := K8.c 6 rfl; have z7 := K8.c 7 rfl; have z8 := K8.c 8 rfl; have hk9 := K8.lt; have A8 := A7.next hb8; have v0 := A8.c 0 rfl; have v1 := A8.c 1 rfl)
            | (go_at_call 43; with_reducible refine (CKn.out _).mono ?_; rintro x w9 ⟨rfl, rfl⟩))
          exact bodyPost_ret (ret9_run Tryz.results12 Tryz.sizeOf29 Tryz.isAgg29 _ _ _ _ _ _ _ _ _ _ _ _ _ rfl rfl (R8.set9 rfl _ _ _ _ _ _ _ _ _)) rfl ⟨by rw [HV.out]; exact rfl, below_set9 hB8 (Nat.le_succ _) _ _ _ _ _ _ _ _ _⟩
        · rw [if_neg (by rintro (h | h); cases h; cases h.2)] at hf
          have HL := Lib.hid hf
          clear hf hm hD hKn
          cases cse
          · have HV : Hid (R = (⟨cn, cv, cd, cp, cho, false, chi, cex, ccr⟩, 0)) := by rw [← HL.out, if_neg (by simp)]; exact rfl
            clear HL
            go_wp2_with (first
              | (go_at_call 14; with_reducible refine (CDm.out _).mono ?_; rintro x w8 ⟨rfl, hb8⟩; have hB8 := hB7.trans (hb8.mono hB7.size); have R8 := R7.next hb8; have r0 := R8.c 0 rfl; have r1 := R8.c 1 rfl; have r2 := R8.c 2 rfl; have r3 := R8.c 3 rfl; have r4 := R8.c 4 rfl; have r5 := R8.c 5 rfl; have r6 := R8.c 6 rfl; have r7 := R8.c 7 rfl; have r8 := R8.c 8 rfl; have q0 := R8.f 0 rfl; have q1 := R8.f 1 rfl; have q2 := R8.f 2 rfl; have q3 := R8.f 3 rfl; have q4 := R8.f 4 rfl; have q5 := R8.f 5 rfl; have q6 := R8.f 6 rfl; have q7 := R8.f 7 rfl; have q8 := R8.f 8 rfl; have hk8 := R8.lt; have K8 := AK7.next hb8; have z0 := K8.c 0 rfl; have z1 := K8.c 1 rfl; have z2 := K8.c 2 rfl; have z3 := K8.c 3 rfl; have z4 := K8.c 4 rfl; have z5 := K8.c 5 rfl; have z6 := K8.c 6 rfl; have z7 := K8.c 7 rfl; have z8 := K8.c 8 rfl; have hk9 := K8.lt; have A8 := A7.next hb8; have v0 := A8.c 0 rfl; have v1 := A8.c 1 rfl)
              | (go_at_call 43; with_reducible refine (CKn.out _).mono ?_; rintro x w9 ⟨rfl, rfl⟩))
            exact bodyPost_ret (ret9_run Tryz.results12 Tryz.sizeOf29 Tryz.isAgg29 _ _ _ _ _ _ _ _ _ _ _ _ _ rfl rfl (R8.set9 rfl _ _ _ _ _ _ _ _ _)) rfl ⟨by rw [HV.out]; exact rfl, below_set9 hB8 (Nat.le_succ _) _ _ _ _ _ _ _ _ _⟩
          · by_cases hsc : a.data.toList = httpsL
            · have HV : Hid (R = (⟨cn, cv, cd, cp, cho, true, chi, cex, ccr⟩, 0)) := by rw [← HL.out, if_neg (by simp [hsc])]; exact rfl
              have hs2 : a.toList = [104, 116, 116, 112, 115] := by rw [ByteArray.toList_eq]; exact hsc
              clear HL hsc
              go_wp2_with (first
                | (go_at_call 14; with_reducible refine (CDm.out _).mono ?_; rintro x w8 ⟨rfl, hb8⟩; have hB8 := hB7.trans (hb8.mono hB7.size); have R8 := R7.next hb8; have r0 := R8.c 0 rfl; have r1 := R8.c 1 rfl; have r2 := R8.c 2 rfl; have r3 := R8.c 3 rfl; have r4 := R8.c 4 rfl; have r5 := R8.c 5 rfl; have r6 := R8.c 6 rfl; have r7 := R8.c 7 rfl; have r8 := R8.c 8 rfl; have q0 := R8.f 0 rfl; have q1 := R8.f 1 rfl; have q2 := R8.f 2 rfl; have q3 := R8.f 3 rfl; have q4 := R8.f 4 rfl; have q5 := R8.f 5 rfl; have q6 := R8.f 6 rfl; have q7 := R8.f 7 rfl; have q8 := R8.f 8 rfl; have hk8 := R8.lt; have K8 := AK7.next hb8; have z0 := K8.c 0 rfl; have z1 := K8.c 1 rfl; have z2 := K8.c 2 rfl; have z3 := K8.c 3 rfl; have z4 := K8.c 4 rfl; have z5 := K8.c 5 rfl; have z6 := K8.c 6 rfl; have z7 := K8.c 7 rfl; have z8 := K8.c 8 rfl; have hk9 := K8.lt; have A8 := A7.next hb8; have v0 := A8.c 0 rfl; have v1 := A8.c 1 rfl)
                | (go_at_call 43; with_reducible refine (CKn.out _).mono ?_; rintro x w9 ⟨rfl, rfl⟩))
              exact bodyPost_ret (ret9_run Tryz.results12 Tryz.sizeOf29 Tryz.isAgg29 _ _ _ _ _ _ _ _ _ _ _ _ _ rfl rfl (R8.set9 rfl _ _ _ _ _ _ _ _ _)) rfl ⟨by rw [HV.out]; exact rfl, below_set9 hB8 (Nat.le_succ _) _ _ _ _ _ _ _ _ _⟩
            · have HV : Hid (R = (ck0, 7)) := by rw [← HL.out, if_pos ⟨rfl, hsc⟩]; exact rfl
              have hs2 : ¬ a.toList = [104, 116, 116, 112, 115] := by rw [ByteArray.toList_eq]; exact hsc
              have hs3 : (a.toList == [104, 116, 116, 112, 115]) = false := beq_eq_false_iff_ne.2 hs2
              clear HL hsc
              go_wp2_with (first
                | (go_at_call 14; with_reducible refine (CDm.out _).mono ?_; rintro x w8 ⟨rfl, hb8⟩; have hB8 := hB7.trans (hb8.mono hB7.size); have R8 := R7.next hb8; have r0 := R8.c 0 rfl; have r1 := R8.c 1 rfl; have r2 := R8.c 2 rfl; have r3 := R8.c 3 rfl; have r4 := R8.c 4 rfl; have r5 := R8.c 5 rfl; have r6 := R8.c 6 rfl; have r7 := R8.c 7 rfl; have r8 := R8.c 8 rfl; have q0 := R8.f 0 rfl; have q1 := R8.f 1 rfl; have q2 := R8.f 2 rfl; have q3 := R8.f 3 rfl; have q4 := R8.f 4 rfl; have q5 := R8.f 5 rfl; have q6 := R8.f 6 rfl; have q7 := R8.f 7 rfl; have q8 := R8.f 8 rfl; have hk8 := R8.lt; have K8 := AK7.next hb8; have z0 := K8.c 0 rfl; have z1 := K8.c 1 rfl; have z2 := K8.c 2 rfl; have z3 := K8.c 3 rfl; have z4 := K8.c 4 rfl; have z5 := K8.c 5 rfl; have z6 := K8.c 6 rfl; have z7 := K8.c 7 rfl; have z8 := K8.c 8 rfl; have hk9 := K8.lt; have A8 := A7.next hb8; have v0 := A8.c 0 rfl; have v1 := A8.c 1 rfl)
                | (go_at_call 43; with_reducible refine (CKn.out _).mono ?_; rintro x w9 ⟨rfl, rfl⟩))
              exact bodyPost_ret (ret9_run Tryz.results12 Tryz.sizeOf29 Tryz.isAgg29 _ _ _ _ _ _ _ _ _ _ _ _ _ rfl rfl (R8.set9 rfl _ _ _ _ _ _ _ _ _)) rfl ⟨by rw [HV.out]; exact rfl, below_set9 hB8 (Nat.le_succ _) _ _ _ _ _ _ _ _ _⟩

/-- cookie.Parse -/
theorem cparse_is (s a b c d e f : ByteArray) (now : Int) (T : Bool) (hT : takesB (u6 a b c d e f) = T) (R : Ck × Int) (hR : parseC s.data.toList T a b d now = R) (w : World) (hs : s.size ≤ 100000) (hz : USize 40000 a b c d e f) (hM : MaxAt w) :
    Calls Tryz.prog 12 #[.string s, urlA a b c d e f, .int .i64 now] w fun x w' => x = .returned (resC R) ∧ Below w.heap.size w w' := by
  subst hR
  cases T with
  | false => rw [parseC_no]; exact cparse_no s a b c d e f now w hz hM hT
  | true =>
    obtain ⟨q0, qs, hq, hc⟩ := split_at 59 s (by omega)
    rw [parseC_yes _ _ _ _ _ q0.data.toList (lists qs) hq.symm]
    by_cases hbad : q0.data.toList.contains 61 = false ∨ trimC (pre 61 q0.data.toList) = [] ∨ ctlL s.data.toList = true
    · rw [if_pos hbad]
      exact cparse_syn s a b c d e f now w hs hz hM hT q0 qs hq (Lib.hid hc) hbad
    · rw [if_neg hbad]
      have h1 : q0.data.toList.contains 61 = true := by
        cases e : q0.data.toList.contains 61 with
        | true => rfl
        | false => exact absurd (.inl e) hbad
      have h2 : trimC (pre 61 q0.data.toList) ≠ [] := fun e => hbad (.inr (.inl e))
      have h3 : ctlL s.data.toList = false := by
        cases e : ctlL s.data.toList with
        | false => rfl
        | true => exact absurd (.inr (.inr e)) hbad
      by_cases hne : qs = []
      · exact cparse_one s a b c d e f now w hs hz hM hT q0 qs hq hne (Lib.hid hc) h1 h2 h3 _ rfl
      · exact cparse_main s a b c d e f now w hs hz hM hT q0 qs hq hne (Lib.hid hc) h1 h2 h3 _ rfl
end Go.Proofs.YtgjooigolgdocaaGreatDoor
