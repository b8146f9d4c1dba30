/- Fetch: whether a state is valid. -/
import Derived.Test.YtjdhaacmlpegoaaGreatDoorTA
import Derived.Test.YtjdhaacmlpegoaaGreatDoorB7
namespace Go.Proofs.YtjdhaacmlpegoaaGreatDoor
set_option linter.unusedVariables false
set_option linter.unusedSimpArgs false
open Go.RowKit

def validS (me : ByteArray) (mo ph : Int) (a b c d e f sm : ByteArray) (ho : Int) (sb : ByteArray) : Bool := if ph < 1 then false else if 4 < ph then false else if ho < 0 then false else if 10 < ho then false else if ph = 4 then true else if mo < 1 then false else if 4 < mo then false else knownB me && (knownB sm && ((webB a && validB (a.data.toList, b.data.toList, c.data.toList, d.data.toList, e.data.toList, f.data.toList)) && decide (sb.size ≤ 1048576)))
theorem rknown2_is (m : ByteArray) (w : World) (R : Bool) (hR : knownB m = R) : Calls Tryz.prog 54 #[.string m] w fun e w' => e = .returned (.bool R) ∧ Below w.heap.size w w' := by
  refine (rknown_is m w R hR).mono ?_
  rintro e w' ⟨h, rfl⟩
  exact ⟨h, Below.refl _ _⟩
set_option maxRecDepth 20000 in
set_option maxHeartbeats 2000000 in
theorem fvalid_is (tk : Int) (me ur og : ByteArray) (mo : Int) (va : Option Addr) (vn vc : Nat) (bo : ByteArray) (ck : Bool) (ph : Int) (a b c d e f sm : ByteArray) (ho : Int) (ch hi : Bool) (st : Int) (wh : Value) (sb : ByteArray) (er : Int) (w : World) (hM : MaxAt w) (ha : a.size ≤ 40000) (hb : b.size ≤ 40000) (hc : c.size ≤ 40000) (hdd : d.size ≤ 40000) (he : e.size ≤ 40000) (hf : f.size ≤ 40000) (R : Bool) (hR : validS me mo ph a b c d e f sm ho sb = R) :
    Calls Tryz.prog 21 #[.agg #[.int .i64 tk, .string me, .string ur, .string og, .int .i64 mo, .slice va vn vc, .string bo, .bool ck, .int .i64 ph, .string a, .string b, .string c, .string d, .string e, .string f, .string sm, .int .i64 ho, .bool ch, .bool hi, .int .i64 st, wh, .string sb, .int .i64 er]] w fun x w' => x = .returned (.bool R) ∧ Below w.heap.size w w' := by
  have hb0 := (Below.refl _ w).alloc (Nat.le_refl _) (.cells (fsC tk me ur og mo (.slice va vn vc) bo ck ph a b c d e f sm ho ch hi st wh sb er).toArray 40)
  have S0 := AtL.new w (fsC tk me ur og mo (.slice va vn vc) bo ck ph a b c d e f sm ho ch hi st wh sb er) 40
  have z0 := S0.c 0 rfl; have z1 := S0.c 1 rfl; have z2 := S0.c 2 rfl; have z3 := S0.c 3 rfl; have z4 := S0.c 4 rfl; have z5 := S0.c 5 rfl; have z6 := S0.c 6 rfl; have z7 := S0.c 7 rfl; have z8 := S0.c 8 rfl; have z9 := S0.c 9 rfl; have z10 := S0.c 10 rfl; have z11 := S0.c 11 rfl; have z12 := S0.c 12 rfl; have z13 := S0.c 13 rfl; have z14 := S0.c 14 rfl; have z15 := S0.c 15 rfl; have z16 := S0.c 16 rfl; have z17 := S0.c 17 rfl; have z18 := S0.c 18 rfl; have z19 := S0.c 19 rfl; have z20 := S0.c 20 rfl; have z21 := S0.c 21 rfl; have z22 := S0.c 22 rfl
  have zl := S0.lt
  obtain ⟨k1, hk1⟩ : ∃ k1, knownB me = k1 := ⟨_, rfl⟩
  obtain ⟨k2, hk2⟩ : ∃ k2, knownB sm = k2 := ⟨_, rfl⟩
  obtain ⟨vb, hvb⟩ : ∃ vb, validB (a.data.toList, b.data.toList, c.data.toList, d.data.toList, e.data.toList, f.data.toList) = vb := ⟨_, rfl⟩
  obtain ⟨wb, hwb⟩ : ∃ wb, webB a = wb := ⟨_, rfl⟩
  unfold validS at hR
  rw [hk1, hk2, hvb, hwb] at hR
  have hb1 := hb0.alloc hb0.size (.cells [.int .i64 tk, .string me, .string ur, .string og, .int .i64 mo, .slice va vn vc, .string bo, .bool ck].toArray 30)
  have S1 := S0.alloc (.cells [.int .i64 tk, .string me, .string ur, .string og, .int .i64 mo, .slice va vn vc, .string bo, .bool ck].toArray 30)
  have HM := Lib.hid hM
  clear hM
  by_cases p1 : ph < 1
  · rw [if_pos p1] at hR; subst hR
    clear hk1 hk2 hvb hwb
    go_enter Tryz.func21, Tryz.ntmps21
    go_wp2_with fail
    go_ret
    exact ⟨rfl, hb0⟩
  rw [if_neg p1] at hR
  by_cases p2 : 4 < ph
  · rw [if_pos p2] at hR; subst hR
    clear hk1 hk2 hvb hwb
    go_enter Tryz.func21, Tryz.ntmps21
    go_wp2_with fail
    go_ret
    exact ⟨rfl, hb0⟩
  rw [if_neg p2] at hR
  by_cases p3 : ho < 0
  · rw [if_pos p3] at hR; subst hR
    clear hk1 hk2 hvb hwb
    go_enter Tryz.func21, Tryz.ntmps21
    go_wp2_with fail
    go_ret
    exact ⟨rfl, hb0⟩
  rw [if_neg p3] at hR
  by_cases p4 : 10 < ho
  · rw [if_pos p4] at hR; subst hR
    clear hk1 hk2 hvb hwb
    go_enter Tryz.func21, Tryz.ntmps21
    go_wp2_with fail
    go_ret
    exact ⟨rfl, hb0⟩
  rw [if_neg p4] at hR
  by_cases p5 : ph = 4
  · rw [if_pos p5] at hR; subst hR
    clear hk1 hk2 hvb hwb p1 p2
    subst p5
    go_enter Tryz.func21, Tryz.ntmps21
    go_wp2_with (first
      | (go_at_call 48; (with_reducible refine (CK1.out _).mono ?_); rintro e w2 ⟨rfl, hbb2⟩; have hb2 := hb1.trans (hbb2.mono hb1.size); have S2 := S1.next hbb2; clear z0 z1 z2 z3 z4 z5 z6 z7 z8 z9 z10 z11 z12 z13 z14 z15 z16 z17 z18 z19 z20 z21 z22; have z0 := S2.c 0 rfl; have z1 := S2.c 1 rfl; have z2 := S2.c 2 rfl; have z3 := S2.c 3 rfl; have z4 := S2.c 4 rfl; have z5 := S2.c 5 rfl; have z6 := S2.c 6 rfl; have z7 := S2.c 7 rfl; have z8 := S2.c 8 rfl; have z9 := S2.c 9 rfl; have z10 := S2.c 10 rfl; have z11 := S2.c 11 rfl; have z12 := S2.c 12 rfl; have z13 := S2.c 13 rfl; have z14 := S2.c 14 rfl; have z15 := S2.c 15 rfl; have z16 := S2.c 16 rfl; have z17 := S2.c 17 rfl; have z18 := S2.c 18 rfl; have z19 := S2.c 19 rfl; have z20 := S2.c 20 rfl; have z21 := S2.c 21 rfl; have z22 := S2.c 22 rfl; have zl2 := S2.lt)
      | (go_at_call 48; (with_reducible refine (CK2.out _).mono ?_); rintro e w3 ⟨rfl, hbb3⟩; have hb3 := hb2.trans (hbb3.mono hb2.size); have S3 := S2.next hbb3; clear z0 z1 z2 z3 z4 z5 z6 z7 z8 z9 z10 z11 z12 z13 z14 z15 z16 z17 z18 z19 z20 z21 z22; have z0 := S3.c 0 rfl; have z1 := S3.c 1 rfl; have z2 := S3.c 2 rfl; have z3 := S3.c 3 rfl; have z4 := S3.c 4 rfl; have z5 := S3.c 5 rfl; have z6 := S3.c 6 rfl; have z7 := S3.c 7 rfl; have z8 := S3.c 8 rfl; have z9 := S3.c 9 rfl; have z10 := S3.c 10 rfl; have z11 := S3.c 11 rfl; have z12 := S3.c 12 rfl; have z13 := S3.c 13 rfl; have z14 := S3.c 14 rfl; have z15 := S3.c 15 rfl; have z16 := S3.c 16 rfl; have z17 := S3.c 17 rfl; have z18 := S3.c 18 rfl; have z19 := S3.c 19 rfl; have z20 := S3.c 20 rfl; have z21 := S3.c 21 rfl; have z22 := S3.c 22 rfl; have zl3 := S3.lt)
      | (go_at_call 49; (with_reducible refine (CV.out _ (HM.out.below hb3 (Nat.le_refl _))).mono ?_); rintro e w4 ⟨rfl, hbb4⟩; have hb4 := hb3.trans (hbb4.mono hb3.size); have S4 := S3.next hbb4; clear z0 z1 z2 z3 z4 z5 z6 z7 z8 z9 z10 z11 z12 z13 z14 z15 z16 z17 z18 z19 z20 z21 z22; have z0 := S4.c 0 rfl; have z1 := S4.c 1 rfl; have z2 := S4.c 2 rfl; have z3 := S4.c 3 rfl; have z4 := S4.c 4 rfl; have z5 := S4.c 5 rfl; have z6 := S4.c 6 rfl; have z7 := S4.c 7 rfl; have z8 := S4.c 8 rfl; have z9 := S4.c 9 rfl; have z10 := S4.c 10 rfl; have z11 := S4.c 11 rfl; have z12 := S4.c 12 rfl; have z13 := S4.c 13 rfl; have z14 := S4.c 14 rfl; have z15 := S4.c 15 rfl; have z16 := S4.c 16 rfl; have z17 := S4.c 17 rfl; have z18 := S4.c 18 rfl; have z19 := S4.c 19 rfl; have z20 := S4.c 20 rfl; have z21 := S4.c 21 rfl; have z22 := S4.c 22 rfl; have zl4 := S4.lt)
      | (go_at_call 50; (with_reducible refine (CW.out _).mono ?_); rintro e w5 ⟨rfl, hbb5⟩; have hb5 := hb4.trans (hbb5.mono hb4.size); have S5 := S4.next hbb5; clear z0 z1 z2 z3 z4 z5 z6 z7 z8 z9 z10 z11 z12 z13 z14 z15 z16 z17 z18 z19 z20 z21 z22; have z0 := S5.c 0 rfl; have z1 := S5.c 1 rfl; have z2 := S5.c 2 rfl; have z3 := S5.c 3 rfl; have z4 := S5.c 4 rfl; have z5 := S5.c 5 rfl; have z6 := S5.c 6 rfl; have z7 := S5.c 7 rfl; have z8 := S5.c 8 rfl; have z9 := S5.c 9 rfl; have z10 := S5.c 10 rfl; have z11 := S5.c 11 rfl; have z12 := S5.c 12 rfl; have z13 := S5.c 13 rfl; have z14 := S5.c 14 rfl; have z15 := S5.c 15 rfl; have z16 := S5.c 16 rfl; have z17 := S5.c 17 rfl; have z18 := S5.c 18 rfl; have z19 := S5.c 19 rfl; have z20 := S5.c 20 rfl; have z21 := S5.c 21 rfl; have z22 := S5.c 22 rfl; have zl5 := S5.lt)
      | fail)
    go_ret
    exact ⟨rfl, hb1⟩
  rw [if_neg p5] at hR
  have p5' : (ph == 4) = false := beq_eq_false_iff_ne.2 p5
  clear p5
  by_cases p6 : mo < 1
  · rw [if_pos p6] at hR; subst hR
    have p6' : ¬ (1 : Int) ≤ mo := by omega
    have p6'' : decide ((1 : Int) ≤ mo) = false := decide_eq_false p6'
    clear hk1 hk2 hvb hwb
    go_enter Tryz.func21, Tryz.ntmps21
    go_wp2_with (first
      | (go_at_call 48; (with_reducible refine (CK1.out _).mono ?_); rintro e w2 ⟨rfl, hbb2⟩; have hb2 := hb1.trans (hbb2.mono hb1.size); have S2 := S1.next hbb2; clear z0 z1 z2 z3 z4 z5 z6 z7 z8 z9 z10 z11 z12 z13 z14 z15 z16 z17 z18 z19 z20 z21 z22; have z0 := S2.c 0 rfl; have z1 := S2.c 1 rfl; have z2 := S2.c 2 rfl; have z3 := S2.c 3 rfl; have z4 := S2.c 4 rfl; have z5 := S2.c 5 rfl; have z6 := S2.c 6 rfl; have z7 := S2.c 7 rfl; have z8 := S2.c 8 rfl; have z9 := S2.c 9 rfl; have z10 := S2.c 10 rfl; have z11 := S2.c 11 rfl; have z12 := S2.c 12 rfl; have z13 := S2.c 13 rfl; have z14 := S2.c 14 rfl; have z15 := S2.c 15 rfl; have z16 := S2.c 16 rfl; have z17 := S2.c 17 rfl; have z18 := S2.c 18 rfl; have z19 := S2.c 19 rfl; have z20 := S2.c 20 rfl; have z21 := S2.c 21 rfl; have z22 := S2.c 22 rfl; have zl2 := S2.lt)
      | (go_at_call 48; (with_reducible refine (CK2.out _).mono ?_); rintro e w3 ⟨rfl, hbb3⟩; have hb3 := hb2.trans (hbb3.mono hb2.size); have S3 := S2.next hbb3; clear z0 z1 z2 z3 z4 z5 z6 z7 z8 z9 z10 z11 z12 z13 z14 z15 z16 z17 z18 z19 z20 z21 z22; have z0 := S3.c 0 rfl; have z1 := S3.c 1 rfl; have z2 := S3.c 2 rfl; have z3 := S3.c 3 rfl; have z4 := S3.c 4 rfl; have z5 := S3.c 5 rfl; have z6 := S3.c 6 rfl; have z7 := S3.c 7 rfl; have z8 := S3.c 8 rfl; have z9 := S3.c 9 rfl; have z10 := S3.c 10 rfl; have z11 := S3.c 11 rfl; have z12 := S3.c 12 rfl; have z13 := S3.c 13 rfl; have z14 := S3.c 14 rfl; have z15 := S3.c 15 rfl; have z16 := S3.c 16 rfl; have z17 := S3.c 17 rfl; have z18 := S3.c 18 rfl; have z19 := S3.c 19 rfl; have z20 := S3.c 20 rfl; have z21 := S3.c 21 rfl; have z22 := S3.c 22 rfl; have zl3 := S3.lt)
      | (go_at_call 49; (with_reducible refine (CV.out _ (HM.out.below hb3 (Nat.le_refl _))).mono ?_); rintro e w4 ⟨rfl, hbb4⟩; have hb4 := hb3.trans (hbb4.mono hb3.size); have S4 := S3.next hbb4; clear z0 z1 z2 z3 z4 z5 z6 z7 z8 z9 z10 z11 z12 z13 z14 z15 z16 z17 z18 z19 z20 z21 z22; have z0 := S4.c 0 rfl; have z1 := S4.c 1 rfl; have z2 := S4.c 2 rfl; have z3 := S4.c 3 rfl; have z4 := S4.c 4 rfl; have z5 := S4.c 5 rfl; have z6 := S4.c 6 rfl; have z7 := S4.c 7 rfl; have z8 := S4.c 8 rfl; have z9 := S4.c 9 rfl; have z10 := S4.c 10 rfl; have z11 := S4.c 11 rfl; have z12 := S4.c 12 rfl; have z13 := S4.c 13 rfl; have z14 := S4.c 14 rfl; have z15 := S4.c 15 rfl; have z16 := S4.c 16 rfl; have z17 := S4.c 17 rfl; have z18 := S4.c 18 rfl; have z19 := S4.c 19 rfl; have z20 := S4.c 20 rfl; have z21 := S4.c 21 rfl; have z22 := S4.c 22 rfl; have zl4 := S4.lt)
      | (go_at_call 50; (with_reducible refine (CW.out _).mono ?_); rintro e w5 ⟨rfl, hbb5⟩; have hb5 := hb4.trans (hbb5.mono hb4.size); have S5 := S4.next hbb5; clear z0 z1 z2 z3 z4 z5 z6 z7 z8 z9 z10 z11 z12 z13 z14 z15 z16 z17 z18 z19 z20 z21 z22; have z0 := S5.c 0 rfl; have z1 := S5.c 1 rfl; have z2 := S5.c 2 rfl; have z3 := S5.c 3 rfl; have z4 := S5.c 4 rfl; have z5 := S5.c 5 rfl; have z6 := S5.c 6 rfl; have z7 := S5.c 7 rfl; have z8 := S5.c 8 rfl; have z9 := S5.c 9 rfl; have z10 := S5.c 10 rfl; have z11 := S5.c 11 rfl; have z12 := S5.c 12 rfl; have z13 := S5.c 13 rfl; have z14 := S5.c 14 rfl; have z15 := S5.c 15 rfl; have z16 := S5.c 16 rfl; have z17 := S5.c 17 rfl; have z18 := S5.c 18 rfl; have z19 := S5.c 19 rfl; have z20 := S5.c 20 rfl; have z21 := S5.c 21 rfl; have z22 := S5.c 22 rfl; have zl5 := S5.lt)
      | fail)
    go_ret
    exact ⟨rfl, hb1⟩
  rw [if_neg p6] at hR
  have p6' : (1 : Int) ≤ mo := by omega
  by_cases p7 : 4 < mo
  · rw [if_pos p7] at hR; subst hR
    have p7' : ¬ mo ≤ 4 := by omega
    have p7'' : decide (mo ≤ 4) = false := decide_eq_false p7'
    clear hk1 hk2 hvb hwb
    go_enter Tryz.func21, Tryz.ntmps21
    go_wp2_with (first
      | (go_at_call 48; (with_reducible refine (CK1.out _).mono ?_); rintro e w2 ⟨rfl, hbb2⟩; have hb2 := hb1.trans (hbb2.mono hb1.size); have S2 := S1.next hbb2; clear z0 z1 z2 z3 z4 z5 z6 z7 z8 z9 z10 z11 z12 z13 z14 z15 z16 z17 z18 z19 z20 z21 z22; have z0 := S2.c 0 rfl; have z1 := S2.c 1 rfl; have z2 := S2.c 2 rfl; have z3 := S2.c 3 rfl; have z4 := S2.c 4 rfl; have z5 := S2.c 5 rfl; have z6 := S2.c 6 rfl; have z7 := S2.c 7 rfl; have z8 := S2.c 8 rfl; have z9 := S2.c 9 rfl; have z10 := S2.c 10 rfl; have z11 := S2.c 11 rfl; have z12 := S2.c 12 rfl; have z13 := S2.c 13 rfl; have z14 := S2.c 14 rfl; have z15 := S2.c 15 rfl; have z16 := S2.c 16 rfl; have z17 := S2.c 17 rfl; have z18 := S2.c 18 rfl; have z19 := S2.c 19 rfl; have z20 := S2.c 20 rfl; have z21 := S2.c 21 rfl; have z22 := S2.c 22 rfl; have zl2 := S2.lt)
      | (go_at_call 48; (with_reducible refine (CK2.out _).mono ?_); rintro e w3 ⟨rfl, hbb3⟩; have hb3 := hb2.trans (hbb3.mono hb2.size); have S3 := S2.next hbb3; clear z0 z1 z2 z3 z4 z5 z6 z7 z8 z9 z10 z11 z12 z13 z14 z15 z16 z17 z18 z19 z20 z21 z22; have z0 := S3.c 0 rfl; have z1 := S3.c 1 rfl; have z2 := S3.c 2 rfl; have z3 := S3.c 3 rfl; have z4 := S3.c 4 rfl; have z5 := S3.c 5 rfl; have z6 := S3.c 6 rfl; have z7 := S3.c 7 rfl; have z8 := S3.c 8 rfl; have z9 := S3.c 9 rfl; have z10 := S3.c 10 rfl; have z11 := S3.c 11 rfl; have z12 := S3.c 12 rfl; have z13 := S3.c 13 rfl; have z14 := S3.c 14 rfl; have z15 := S3.c 15 rfl; have z16 := S3.c 16 rfl; have z17 := S3.c 17 rfl; have z18 := S3.c 18 rfl; have z19 := S3.c 19 rfl; have z20 := S3.c 20 rfl; have z21 := S3.c 21 rfl; have z22 := S3.c 22 rfl; have zl3 := S3.lt)
      | (go_at_call 49; (with_reducible refine (CV.out _ (HM.out.below hb3 (Nat.le_refl _))).mono ?_); rintro e w4 ⟨rfl, hbb4⟩; have hb4 := hb3.trans (hbb4.mono hb3.size); have S4 := S3.next hbb4; clear z0 z1 z2 z3 z4 z5 z6 z7 z8 z9 z10 z11 z12 z13 z14 z15 z16 z17 z18 z19 z20 z21 z22; have z0 := S4.c 0 rfl; have z1 := S4.c 1 rfl; have z2 := S4.c 2 rfl; have z3 := S4.c 3 rfl; have z4 := S4.c 4 rfl; have z5 := S4.c 5 rfl; have z6 := S4.c 6 rfl; have z7 := S4.c 7 rfl; have z8 := S4.c 8 rfl; have z9 := S4.c 9 rfl; have z10 := S4.c 10 rfl; have z11 := S4.c 11 rfl; have z12 := S4.c 12 rfl; have z13 := S4.c 13 rfl; have z14 := S4.c 14 rfl; have z15 := S4.c 15 rfl; have z16 := S4.c 16 rfl; have z17 := S4.c 17 rfl; have z18 := S4.c 18 rfl; have z19 := S4.c 19 rfl; have z20 := S4.c 20 rfl; have z21 := S4.c 21 rfl; have z22 := S4.c 22 rfl; have zl4 := S4.lt)
      | (go_at_call 50; (with_reducible refine (CW.out _).mono ?_); rintro e w5 ⟨rfl, hbb5⟩; have hb5 := hb4.trans (hbb5.mono hb4.size); have S5 := S4.next hbb5; clear z0 z1 z2 z3 z4 z5 z6 z7 z8 z9 z10 z11 z12 z13 z14 z15 z16 z17 z18 z19 z20 z21 z22; have z0 := S5.c 0 rfl; have z1 := S5.c 1 rfl; have z2 := S5.c 2 rfl; have z3 := S5.c 3 rfl; have z4 := S5.c 4 rfl; have z5 := S5.c 5 rfl; have z6 := S5.c 6 rfl; have z7 := S5.c 7 rfl; have z8 := S5.c 8 rfl; have z9 := S5.c 9 rfl; have z10 := S5.c 10 rfl; have z11 := S5.c 11 rfl; have z12 := S5.c 12 rfl; have z13 := S5.c 13 rfl; have z14 := S5.c 14 rfl; have z15 := S5.c 15 rfl; have z16 := S5.c 16 rfl; have z17 := S5.c 17 rfl; have z18 := S5.c 18 rfl; have z19 := S5.c 19 rfl; have z20 := S5.c 20 rfl; have z21 := S5.c 21 rfl; have z22 := S5.c 22 rfl; have zl5 := S5.lt)
      | fail)
    go_ret
    exact ⟨rfl, hb1⟩
  rw [if_neg p7] at hR
  have p7' : mo ≤ 4 := by omega
  cases k1 with
  | false =>
    have hR : false = R := by rw [← hR]; simp
    subst hR
    have CK1 := Lib.hid (fun w => known_is me w false hk1)
    clear hk1 hk2 hvb hwb
    go_enter Tryz.func21, Tryz.ntmps21
    go_wp2_with (first
      | (go_at_call 48; (with_reducible refine (CK1.out _).mono ?_); rintro e w2 ⟨rfl, hbb2⟩; have hb2 := hb1.trans (hbb2.mono hb1.size); have S2 := S1.next hbb2; clear z0 z1 z2 z3 z4 z5 z6 z7 z8 z9 z10 z11 z12 z13 z14 z15 z16 z17 z18 z19 z20 z21 z22; have z0 := S2.c 0 rfl; have z1 := S2.c 1 rfl; have z2 := S2.c 2 rfl; have z3 := S2.c 3 rfl; have z4 := S2.c 4 rfl; have z5 := S2.c 5 rfl; have z6 := S2.c 6 rfl; have z7 := S2.c 7 rfl; have z8 := S2.c 8 rfl; have z9 := S2.c 9 rfl; have z10 := S2.c 10 rfl; have z11 := S2.c 11 rfl; have z12 := S2.c 12 rfl; have z13 := S2.c 13 rfl; have z14 := S2.c 14 rfl; have z15 := S2.c 15 rfl; have z16 := S2.c 16 rfl; have z17 := S2.c 17 rfl; have z18 := S2.c 18 rfl; have z19 := S2.c 19 rfl; have z20 := S2.c 20 rfl; have z21 := S2.c 21 rfl; have z22 := S2.c 22 rfl; have zl2 := S2.lt)
      | (go_at_call 48; (with_reducible refine (CK2.out _).mono ?_); rintro e w3 ⟨rfl, hbb3⟩; have hb3 := hb2.trans (hbb3.mono hb2.size); have S3 := S2.next hbb3; clear z0 z1 z2 z3 z4 z5 z6 z7 z8 z9 z10 z11 z12 z13 z14 z15 z16 z17 z18 z19 z20 z21 z22; have z0 := S3.c 0 rfl; have z1 := S3.c 1 rfl; have z2 := S3.c 2 rfl; have z3 := S3.c 3 rfl; have z4 := S3.c 4 rfl; have z5 := S3.c 5 rfl; have z6 := S3.c 6 rfl; have z7 := S3.c 7 rfl; have z8 := S3.c 8 rfl; have z9 := S3.c 9 rfl; have z10 := S3.c 10 rfl; have z11 := S3.c 11 rfl; have z12 := S3.c 12 rfl; have z13 := S3.c 13 rfl; have z14 := S3.c 14 rfl; have z15 := S3.c 15 rfl; have z16 := S3.c 16 rfl; have z17 := S3.c 17 rfl; have z18 := S3.c 18 rfl; have z19 := S3.c 19 rfl; have z20 := S3.c 20 rfl; have z21 := S3.c 21 rfl; have z22 := S3.c 22 rfl; have zl3 := S3.lt)
      | (go_at_call 49; (with_reducible refine (CV.out _ (HM.out.below hb3 (Nat.le_refl _))).mono ?_); rintro e w4 ⟨rfl, hbb4⟩; have hb4 := hb3.trans (hbb4.mono hb3.size); have S4 := S3.next hbb4; clear z0 z1 z2 z3 z4 z5 z6 z7 z8 z9 z10 z11 z12 z13 z14 z15 z16 z17 z18 z19 z20 z21 z22; have z0 := S4.c 0 rfl; have z1 := S4.c 1 rfl; have z2 := S4.c 2 rfl; have z3 := S4.c 3 rfl; have z4 := S4.c 4 rfl; have z5 := S4.c 5 rfl; have z6 := S4.c 6 rfl; have z7 := S4.c 7 rfl; have z8 := S4.c 8 rfl; have z9 := S4.c 9 rfl; have z10 := S4.c 10 rfl; have z11 := S4.c 11 rfl; have z12 := S4.c 12 rfl; have z13 := S4.c 13 rfl; have z14 := S4.c 14 rfl; have z15 := S4.c 15 rfl; have z16 := S4.c 16 rfl; have z17 := S4.c 17 rfl; have z18 := S4.c 18 rfl; have z19 := S4.c 19 rfl; have z20 := S4.c 20 rfl; have z21 := S4.c 21 rfl; have z22 := S4.c 22 rfl; have zl4 := S4.lt)
      | (go_at_call 50; (with_reducible refine (CW.out _).mono ?_); rintro e w5 ⟨rfl, hbb5⟩; have hb5 := hb4.trans (hbb5.mono hb4.size); have S5 := S4.next hbb5; clear z0 z1 z2 z3 z4 z5 z6 z7 z8 z9 z10 z11 z12 z13 z14 z15 z16 z17 z18 z19 z20 z21 z22; have z0 := S5.c 0 rfl; have z1 := S5.c 1 rfl; have z2 := S5.c 2 rfl; have z3 := S5.c 3 rfl; have z4 := S5.c 4 rfl; have z5 := S5.c 5 rfl; have z6 := S5.c 6 rfl; have z7 := S5.c 7 rfl; have z8 := S5.c 8 rfl; have z9 := S5.c 9 rfl; have z10 := S5.c 10 rfl; have z11 := S5.c 11 rfl; have z12 := S5.c 12 rfl; have z13 := S5.c 13 rfl; have z14 := S5.c 14 rfl; have z15 := S5.c 15 rfl; have z16 := S5.c 16 rfl; have z17 := S5.c 17 rfl; have z18 := S5.c 18 rfl; have z19 := S5.c 19 rfl; have z20 := S5.c 20 rfl; have z21 := S5.c 21 rfl; have z22 := S5.c 22 rfl; have zl5 := S5.lt)
      | fail)
    go_ret
    exact ⟨rfl, hb2⟩
  | true =>
    have CK1 := Lib.hid (fun w => known_is me w true hk1)
    cases k2 with
    | false =>
      have hR : false = R := by rw [← hR]; simp
      subst hR
      have CK2 := Lib.hid (fun w => known_is sm w false hk2)
      clear hk1 hk2 hvb hwb
      go_enter Tryz.func21, Tryz.ntmps21
      go_wp2_with (first
        | (go_at_call 48; (with_reducible refine (CK1.out _).mono ?_); rintro e w2 ⟨rfl, hbb2⟩; have hb2 := hb1.trans (hbb2.mono hb1.size); have S2 := S1.next hbb2; clear z0 z1 z2 z3 z4 z5 z6 z7 z8 z9 z10 z11 z12 z13 z14 z15 z16 z17 z18 z19 z20 z21 z22; have z0 := S2.c 0 rfl; have z1 := S2.c 1 rfl; have z2 := S2.c 2 rfl; have z3 := S2.c 3 rfl; have z4 := S2.c 4 rfl; have z5 := S2.c 5 rfl; have z6 := S2.c 6 rfl; have z7 := S2.c 7 rfl; have z8 := S2.c 8 rfl; have z9 := S2.c 9 rfl; have z10 := S2.c 10 rfl; have z11 := S2.c 11 rfl; have z12 := S2.c 12 rfl; have z13 := S2.c 13 rfl; have z14 := S2.c 14 rfl; have z15 := S2.c 15 rfl; have z16 := S2.c 16 rfl; have z17 := S2.c 17 rfl; have z18 := S2.c 18 rfl; have z19 := S2.c 19 rfl; have z20 := S2.c 20 rfl; have z21 := S2.c 21 rfl; have z22 := S2.c 22 rfl; have zl2 := S2.lt)
        | (go_at_call 48; (with_reducible refine (CK2.out _).mono ?_); rintro e w3 ⟨rfl, hbb3⟩; have hb3 := hb2.trans (hbb3.mono hb2.size); have S3 := S2.next hbb3; clear z0 z1 z2 z3 z4 z5 z6 z7 z8 z9 z10 z11 z12 z13 z14 z15 z16 z17 z18 z19 z20 z21 z22; have z0 := S3.c 0 rfl; have z1 := S3.c 1 rfl; have z2 := S3.c 2 rfl; have z3 := S3.c 3 rfl; have z4 := S3.c 4 rfl; have z5 := S3.c 5 rfl; have z6 := S3.c 6 rfl; have z7 := S3.c 7 rfl; have z8 := S3.c 8 rfl; have z9 := S3.c 9 rfl; have z10 := S3.c 10 rfl; have z11 := S3.c 11 rfl; have z12 := S3.c 12 rfl; have z13 := S3.c 13 rfl; have z14 := S3.c 14 rfl; have z15 := S3.c 15 rfl; have z16 := S3.c 16 rfl; have z17 := S3.c 17 rfl; have z18 := S3.c 18 rfl; have z19 := S3.c 19 rfl; have z20 := S3.c 20 rfl; have z21 := S3.c 21 rfl; have z22 := S3.c 22 rfl; have zl3 := S3.lt)
        | (go_at_call 49; (with_reducible refine (CV.out _ (HM.out.below hb3 (Nat.le_refl _))).mono ?_); rintro e w4 ⟨rfl, hbb4⟩; have hb4 := hb3.trans (hbb4.mono hb3.size); have S4 := S3.next hbb4; clear z0 z1 z2 z3 z4 z5 z6 z7 z8 z9 z10 z11 z12 z13 z14 z15 z16 z17 z18 z19 z20 z21 z22; have z0 := S4.c 0 rfl; have z1 := S4.c 1 rfl; have z2 := S4.c 2 rfl; have z3 := S4.c 3 rfl; have z4 := S4.c 4 rfl; have z5 := S4.c 5 rfl; have z6 := S4.c 6 rfl; have z7 := S4.c 7 rfl; have z8 := S4.c 8 rfl; have z9 := S4.c 9 rfl; have z10 := S4.c 10 rfl; have z11 := S4.c 11 rfl; have z12 := S4.c 12 rfl; have z13 := S4.c 13 rfl; have z14 := S4.c 14 rfl; have z15 := S4.c 15 rfl; have z16 := S4.c 16 rfl; have z17 := S4.c 17 rfl; have z18 := S4.c 18 rfl; have z19 := S4.c 19 rfl; have z20 := S4.c 20 rfl; have z21 := S4.c 21 rfl; have z22 := S4.c 22 rfl; have zl4 := S4.lt)
        | (go_at_call 50; (with_reducible refine (CW.out _).mono ?_); rintro e w5 ⟨rfl, hbb5⟩; have hb5 := hb4.trans (hbb5.mono hb4.size); have S5 := S4.next hbb5; clear z0 z1 z2 z3 z4 z5 z6 z7 z8 z9 z10 z11 z12 z13 z14 z15 z16 z17 z18 z19 z20 z21 z22; have z0 := S5.c 0 rfl; have z1 := S5.c 1 rfl; have z2 := S5.c 2 rfl; have z3 := S5.c 3 rfl; have z4 := S5.c 4 rfl; have z5 := S5.c 5 rfl; have z6 := S5.c 6 rfl; have z7 := S5.c 7 rfl; have z8 := S5.c 8 rfl; have z9 := S5.c 9 rfl; have z10 := S5.c 10 rfl; have z11 := S5.c 11 rfl; have z12 := S5.c 12 rfl; have z13 := S5.c 13 rfl; have z14 := S5.c 14 rfl; have z15 := S5.c 15 rfl; have z16 := S5.c 16 rfl; have z17 := S5.c 17 rfl; have z18 := S5.c 18 rfl; have z19 := S5.c 19 rfl; have z20 := S5.c 20 rfl; have z21 := S5.c 21 rfl; have z22 := S5.c 22 rfl; have zl5 := S5.lt)
        | fail)
      go_ret
      exact ⟨rfl, hb3⟩
    | true =>
      have CK2 := Lib.hid (fun w => known_is sm w true hk2)
      clear hk1 hk2
      cases vb with
      | false =>
        have hR : false = R := by rw [← hR]; cases wb <;> simp
        subst hR
        have CV := Lib.hid (fun (w' : World) (hM : MaxAt w') => valid_is4 a b c d e f w' ha hb hc hdd he hf hM _ hvb)
        have CW := Lib.hid (fun (w' : World) => web_is a b c d e f w' _ hwb)
        clear hvb hwb
        go_enter Tryz.func21, Tryz.ntmps21
        go_wp2_with (first
          | (go_at_call 48; (with_reducible refine (CK1.out _).mono ?_); rintro e w2 ⟨rfl, hbb2⟩; have hb2 := hb1.trans (hbb2.mono hb1.size); have S2 := S1.next hbb2; clear z0 z1 z2 z3 z4 z5 z6 z7 z8 z9 z10 z11 z12 z13 z14 z15 z16 z17 z18 z19 z20 z21 z22; have z0 := S2.c 0 rfl; have z1 := S2.c 1 rfl; have z2 := S2.c 2 rfl; have z3 := S2.c 3 rfl; have z4 := S2.c 4 rfl; have z5 := S2.c 5 rfl; have z6 := S2.c 6 rfl; have z7 := S2.c 7 rfl; have z8 := S2.c 8 rfl; have z9 := S2.c 9 rfl; have z10 := S2.c 10 rfl; have z11 := S2.c 11 rfl; have z12 := S2.c 12 rfl; have z13 := S2.c 13 rfl; have z14 := S2.c 14 rfl; have z15 := S2.c 15 rfl; have z16 := S2.c 16 rfl; have z17 := S2.c 17 rfl; have z18 := S2.c 18 rfl; have z19 := S2.c 19 rfl; have z20 := S2.c 20 rfl; have z21 := S2.c 21 rfl; have z22 := S2.c 22 rfl; have zl2 := S2.lt)
          | (go_at_call 48; (with_reducible refine (CK2.out _).mono ?_); rintro e w3 ⟨rfl, hbb3⟩; have hb3 := hb2.trans (hbb3.mono hb2.size); have S3 := S2.next hbb3; clear z0 z1 z2 z3 z4 z5 z6 z7 z8 z9 z10 z11 z12 z13 z14 z15 z16 z17 z18 z19 z20 z21 z22; have z0 := S3.c 0 rfl; have z1 := S3.c 1 rfl; have z2 := S3.c 2 rfl; have z3 := S3.c 3 rfl; have z4 := S3.c 4 rfl; have z5 := S3.c 5 rfl; have z6 := S3.c 6 rfl; have z7 := S3.c 7 rfl; have z8 := S3.c 8 rfl; have z9 := S3.c 9 rfl; have z10 := S3.c 10 rfl; have z11 := S3.c 11 rfl; have z12 := S3.c 12 rfl; have z13 := S3.c 13 rfl; have z14 := S3.c 14 rfl; have z15 := S3.c 15 rfl; have z16 := S3.c 16 rfl; have z17 := S3.c 17 rfl; have z18 := S3.c 18 rfl; have z19 := S3.c 19 rfl; have z20 := S3.c 20 rfl; have z21 := S3.c 21 rfl; have z22 := S3.c 22 rfl; have zl3 := S3.lt)
          | (go_at_call 49; (with_reducible refine (CV.out _ (HM.out.below hb3 (Nat.le_refl _))).mono ?_); rintro e w4 ⟨rfl, hbb4⟩; have hb4 := hb3.trans (hbb4.mono hb3.size); have S4 := S3.next hbb4; clear z0 z1 z2 z3 z4 z5 z6 z7 z8 z9 z10 z11 z12 z13 z14 z15 z16 z17 z18 z19 z20 z21 z22; have z0 := S4.c 0 rfl; have z1 := S4.c 1 rfl; have z2 := S4.c 2 rfl; have z3 := S4.c 3 rfl; have z4 := S4.c 4 rfl; have z5 := S4.c 5 rfl; have z6 := S4.c 6 rfl; have z7 := S4.c 7 rfl; have z8 := S4.c 8 rfl; have z9 := S4.c 9 rfl; have z10 := S4.c 10 rfl; have z11 := S4.c 11 rfl; have z12 := S4.c 12 rfl; have z13 := S4.c 13 rfl; have z14 := S4.c 14 rfl; have z15 := S4.c 15 rfl; have z16 := S4.c 16 rfl; have z17 := S4.c 17 rfl; have z18 := S4.c 18 rfl; have z19 := S4.c 19 rfl; have z20 := S4.c 20 rfl; have z21 := S4.c 21 rfl; have z22 := S4.c 22 rfl; have zl4 := S4.lt)
          | (go_at_call 50; (with_reducible refine (CW.out _).mono ?_); rintro e w5 ⟨rfl, hbb5⟩; have hb5 := hb4.trans (hbb5.mono hb4.size); have S5 := S4.next hbb5; clear z0 z1 z2 z3 z4 z5 z6 z7 z8 z9 z10 z11 z12 z13 z14 z15 z16 z17 z18 z19 z20 z21 z22; have z0 := S5.c 0 rfl; have z1 := S5.c 1 rfl; have z2 := S5.c 2 rfl; have z3 := S5.c 3 rfl; have z4 := S5.c 4 rfl; have z5 := S5.c 5 rfl; have z6 := S5.c 6 rfl; have z7 := S5.c 7 rfl; have z8 := S5.c 8 rfl; have z9 := S5.c 9 rfl; have z10 := S5.c 10 rfl; have z11 := S5.c 11 rfl; have z12 := S5.c 12 rfl; have z13 := S5.c 13 rfl; have z14 := S5.c 14 rfl; have z15 := S5.c 15 rfl; have z16 := S5.c 16 rfl; have z17 := S5.c 17 rfl; have z18 := S5.c 18 rfl; have z19 := S5.c 19 rfl; have z20 := S5.c 20 rfl; have z21 := S5.c 21 rfl; have z22 := S5.c 22 rfl; have zl5 := S5.lt)
          | fail)
        go_ret
        exact ⟨rfl, hb4⟩
      | true =>
        cases wb with
        | false =>
          have hR : false = R := by rw [← hR]; simp
          subst hR
          have CV := Lib.hid (fun (w' : World) (hM : MaxAt w') => valid_is4 a b c d e f w' ha hb hc hdd he hf hM _ hvb)
          have CW := Lib.hid (fun (w' : World) => web_is a b c d e f w' _ hwb)
          clear hvb hwb
          go_enter Tryz.func21, Tryz.ntmps21
          go_wp2_with (first
            | (go_at_call 48; (with_reducible refine (CK1.out _).mono ?_); rintro e w2 ⟨rfl, hbb2⟩; have hb2 := hb1.trans (hbb2.mono hb1.size); have S2 := S1.next hbb2; clear z0 z1 z2 z3 z4 z5 z6 z7 z8 z9 z10 z11 z12 z13 z14 z15 z16 z17 z18 z19 z20 z21 z22; have z0 := S2.c 0 rfl; have z1 := S2.c 1 rfl; have z2 := S2.c 2 rfl; have z3 := S2.c 3 rfl; have z4 := S2.c 4 rfl; have z5 := S2.c 5 rfl; have z6 := S2.c 6 rfl; have z7 := S2.c 7 rfl; have z8 := S2.c 8 rfl; have z9 := S2.c 9 rfl; have z10 := S2.c 10 rfl; have z11 := S2.c 11 rfl; have z12 := S2.c 12 rfl; have z13 := S2.c 13 rfl; have z14 := S2.c 14 rfl; have z15 := S2.c 15 rfl; have z16 := S2.c 16 rfl; have z17 := S2.c 17 rfl; have z18 := S2.c 18 rfl; have z19 := S2.c 19 rfl; have z20 := S2.c 20 rfl; have z21 := S2.c 21 rfl; have z22 := S2.c 22 rfl; have zl2 := S2.lt)
            | (go_at_call 48; (with_reducible refine (CK2.out _).mono ?_); rintro e w3 ⟨rfl, hbb3⟩; have hb3 := hb2.trans (hbb3.mono hb2.size); have S3 := S2.next hbb3; clear z0 z1 z2 z3 z4 z5 z6 z7 z8 z9 z10 z11 z12 z13 z14 z15 z16 z17 z18 z19 z20 z21 z22; have z0 := S3.c 0 rfl; have z1 := S3.c 1 rfl; have z2 := S3.c 2 rfl; have z3 := S3.c 3 rfl; have z4 := S3.c 4 rfl; have z5 := S3.c 5 rfl; have z6 := S3.c 6 rfl; have z7 := S3.c 7 rfl; have z8 := S3.c 8 rfl; have z9 := S3.c 9 rfl; have z10 := S3.c 10 rfl; have z11 := S3.c 11 rfl; have z12 := S3.c 12 rfl; have z13 := S3.c 13 rfl; have z14 := S3.c 14 rfl; have z15 := S3.c 15 rfl; have z16 := S3.c 16 rfl; have z17 := S3.c 17 rfl; have z18 := S3.c 18 rfl; have z19 := S3.c 19 rfl; have z20 := S3.c 20 rfl; have z21 := S3.c 21 rfl; have z22 := S3.c 22 rfl; have zl3 := S3.lt)
            | (go_at_call 49; (with_reducible refine (CV.out _ (HM.out.below hb3 (Nat.le_refl _))).mono ?_); rintro e w4 ⟨rfl, hbb4⟩; have hb4 := hb3.trans (hbb4.mono hb3.size); have S4 := S3.next hbb4; clear z0 z1 z2 z3 z4 z5 z6 z7 z8 z9 z10 z11 z12 z13 z14 z15 z16 z17 z18 z19 z20 z21 z22; have z0 := S4.c 0 rfl; have z1 := S4.c 1 rfl; have z2 := S4.c 2 rfl; have z3 := S4.c 3 rfl; have z4 := S4.c 4 rfl; have z5 := S4.c 5 rfl; have z6 := S4.c 6 rfl; have z7 := S4.c 7 rfl; have z8 := S4.c 8 rfl; have z9 := S4.c 9 rfl; have z10 := S4.c 10 rfl; have z11 := S4.c 11 rfl; have z12 := S4.c 12 rfl; have z13 := S4.c 13 rfl; have z14 := S4.c 14 rfl; have z15 := S4.c 15 rfl; have z16 := S4.c 16 rfl; have z17 := S4.c 17 rfl; have z18 := S4.c 18 rfl; have z19 := S4.c 19 rfl; have z20 := S4.c 20 rfl; have z21 := S4.c 21 rfl; have z22 := S4.c 22 rfl; have zl4 := S4.lt)
            | (go_at_call 50; (with_reducible refine (CW.out _).mono ?_); rintro e w5 ⟨rfl, hbb5⟩; have hb5 := hb4.trans (hbb5.mono hb4.size); have S5 := S4.next hbb5; clear z0 z1 z2 z3 z4 z5 z6 z7 z8 z9 z10 z11 z12 z13 z14 z15 z16 z17 z18 z19 z20 z21 z22; have z0 := S5.c 0 rfl; have z1 := S5.c 1 rfl; have z2 := S5.c 2 rfl; have z3 := S5.c 3 rfl; have z4 := S5.c 4 rfl; have z5 := S5.c 5 rfl; have z6 := S5.c 6 rfl; have z7 := S5.c 7 rfl; have z8 := S5.c 8 rfl; have z9 := S5.c 9 rfl; have z10 := S5.c 10 rfl; have z11 := S5.c 11 rfl; have z12 := S5.c 12 rfl; have z13 := S5.c 13 rfl; have z14 := S5.c 14 rfl; have z15 := S5.c 15 rfl; have z16 := S5.c 16 rfl; have z17 := S5.c 17 rfl; have z18 := S5.c 18 rfl; have z19 := S5.c 19 rfl; have z20 := S5.c 20 rfl; have z21 := S5.c 21 rfl; have z22 := S5.c 22 rfl; have zl5 := S5.lt)
            | fail)
          go_ret
          exact ⟨rfl, hb5⟩
        | true =>
          have CV := Lib.hid (fun (w' : World) (hM : MaxAt w') => valid_is4 a b c d e f w' ha hb hc hdd he hf hM _ hvb)
          have CW := Lib.hid (fun (w' : World) => web_is a b c d e f w' _ hwb)
          clear hvb hwb
          by_cases p8 : sb.size ≤ 1048576
          · have hR : true = R := by rw [← hR, decide_eq_true p8]; rfl
            subst hR
            have p8' : (sb.size : Int) ≤ 1048576 := by omega
            go_enter Tryz.func21, Tryz.ntmps21
            go_wp2_with (first
              | (go_at_call 48; (with_reducible refine (CK1.out _).mono ?_); rintro e w2 ⟨rfl, hbb2⟩; have hb2 := hb1.trans (hbb2.mono hb1.size); have S2 := S1.next hbb2; clear z0 z1 z2 z3 z4 z5 z6 z7 z8 z9 z10 z11 z12 z13 z14 z15 z16 z17 z18 z19 z20 z21 z22; have z0 := S2.c 0 rfl; have z1 := S2.c 1 rfl; have z2 := S2.c 2 rfl; have z3 := S2.c 3 rfl; have z4 := S2.c 4 rfl; have z5 := S2.c 5 rfl; have z6 := S2.c 6 rfl; have z7 := S2.c 7 rfl; have z8 := S2.c 8 rfl; have z9 := S2.c 9 rfl; have z10 := S2.c 10 rfl; have z11 := S2.c 11 rfl; have z12 := S2.c 12 rfl; have z13 := S2.c 13 rfl; have z14 := S2.c 14 rfl; have z15 := S2.c 15 rfl; have z16 := S2.c 16 rfl; have z17 := S2.c 17 rfl; have z18 := S2.c 18 rfl; have z19 := S2.c 19 rfl; have z20 := S2.c 20 rfl; have z21 := S2.c 21 rfl; have z22 := S2.c 22 rfl; have zl2 := S2.lt)
              | (go_at_call 48; (with_reducible refine (CK2.out _).mono ?_); rintro e w3 ⟨rfl, hbb3⟩; have hb3 := hb2.trans (hbb3.mono hb2.size); have S3 := S2.next hbb3; clear z0 z1 z2 z3 z4 z5 z6 z7 z8 z9 z10 z11 z12 z13 z14 z15 z16 z17 z18 z19 z20 z21 z22; have z0 := S3.c 0 rfl; have z1 := S3.c 1 rfl; have z2 := S3.c 2 rfl; have z3 := S3.c 3 rfl; have z4 := S3.c 4 rfl; have z5 := S3.c 5 rfl; have z6 := S3.c 6 rfl; have z7 := S3.c 7 rfl; have z8 := S3.c 8 rfl; have z9 := S3.c 9 rfl; have z10 := S3.c 10 rfl; have z11 := S3.c 11 rfl; have z12 := S3.c 12 rfl; have z13 := S3.c 13 rfl; have z14 := S3.c 14 rfl; have z15 := S3.c 15 rfl; have z16 := S3.c 16 rfl; have z17 := S3.c 17 rfl; have z18 := S3.c 18 rfl; have z19 := S3.c 19 rfl; have z20 := S3.c 20 rfl; have z21 := S3.c 21 rfl; have z22 := S3.c 22 rfl; have zl3 := S3.lt)
              | (go_at_call 49; (with_reducible refine (CV.out _ (HM.out.below hb3 (Nat.le_refl _))).mono ?_); rintro e w4 ⟨rfl, hbb4⟩; have hb4 := hb3.trans (hbb4.mono hb3.size); have S4 := S3.next hbb4; clear z0 z1 z2 z3 z4 z5 z6 z7 z8 z9 z10 z11 z12 z13 z14 z15 z16 z17 z18 z19 z20 z21 z22; have z0 := S4.c 0 rfl; have z1 := S4.c 1 rfl; have z2 := S4.c 2 rfl; have z3 := S4.c 3 rfl; have z4 := S4.c 4 rfl; have z5 := S4.c 5 rfl; have z6 := S4.c 6 rfl; have z7 := S4.c 7 rfl; have z8 := S4.c 8 rfl; have z9 := S4.c 9 rfl; have z10 := S4.c 10 rfl; have z11 := S4.c 11 rfl; have z12 := S4.c 12 rfl; have z13 := S4.c 13 rfl; have z14 := S4.c 14 rfl; have z15 := S4.c 15 rfl; have z16 := S4.c 16 rfl; have z17 := S4.c 17 rfl; have z18 := S4.c 18 rfl; have z19 := S4.c 19 rfl; have z20 := S4.c 20 rfl; have z21 := S4.c 21 rfl; have z22 := S4.c 22 rfl; have zl4 := S4.lt)
              | (go_at_call 50; (with_reducible refine (CW.out _).mono ?_); rintro e w5 ⟨rfl, hbb5⟩; have hb5 := hb4.trans (hbb5.mono hb4.size); have S5 := S4.next hbb5; clear z0 z1 z2 z3 z4 z5 z6 z7 z8 z9 z10 z11 z12 z13 z14 z15 z16 z17 z18 z19 z20 z21 z22; have z0 := S5.c 0 rfl; have z1 := S5.c 1 rfl; have z2 := S5.c 2 rfl; have z3 := S5.c 3 rfl; have z4 := S5.c 4 rfl; have z5 := S5.c 5 rfl; have z6 := S5.c 6 rfl; have z7 := S5.c 7 rfl; have z8 := S5.c 8 rfl; have z9 := S5.c 9 rfl; have z10 := S5.c 10 rfl; have z11 := S5.c 11 rfl; have z12 := S5.c 12 rfl; have z13 := S5.c 13 rfl; have z14 := S5.c 14 rfl; have z15 := S5.c 15 rfl; have z16 := S5.c 16 rfl; have z17 := S5.c 17 rfl; have z18 := S5.c 18 rfl; have z19 := S5.c 19 rfl; have z20 := S5.c 20 rfl; have z21 := S5.c 21 rfl; have z22 := S5.c 22 rfl; have zl5 := S5.lt)
              | fail)
            go_ret
            exact ⟨rfl, hb5⟩
          · have hR : false = R := by rw [← hR, decide_eq_false p8]; rfl
            subst hR
            have p8' : ¬ (sb.size : Int) ≤ 1048576 := by omega
            have p8'' : decide ((sb.size : Int) ≤ 1048576) = false := decide_eq_false p8'
            go_enter Tryz.func21, Tryz.ntmps21
            go_wp2_with (first
              | (go_at_call 48; (with_reducible refine (CK1.out _).mono ?_); rintro e w2 ⟨rfl, hbb2⟩; have hb2 := hb1.trans (hbb2.mono hb1.size); have S2 := S1.next hbb2; clear z0 z1 z2 z3 z4 z5 z6 z7 z8 z9 z10 z11 z12 z13 z14 z15 z16 z17 z18 z19 z20 z21 z22; have z0 := S2.c 0 rfl; have z1 := S2.c 1 rfl; have z2 := S2.c 2 rfl; have z3 := S2.c 3 rfl; have z4 := S2.c 4 rfl; have z5 := S2.c 5 rfl; have z6 := S2.c 6 rfl; have z7 := S2.c 7 rfl; have z8 := S2.c 8 rfl; have z9 := S2.c 9 rfl; have z10 := S2.c 10 rfl; have z11 := S2.c 11 rfl; have z12 := S2.c 12 rfl; have z13 := S2.c 13 rfl; have z14 := S2.c 14 rfl; have z15 := S2.c 15 rfl; have z16 := S2.c 16 rfl; have z17 := S2.c 17 rfl; have z18 := S2.c 18 rfl; have z19 := S2.c 19 rfl; have z20 := S2.c 20 rfl; have z21 := S2.c 21 rfl; have z22 := S2.c 22 rfl; have zl2 := S2.lt)
              | (go_at_call 48; (with_reducible refine (CK2.out _).mono ?_); rintro e w3 ⟨rfl, hbb3⟩; have hb3 := hb2.trans (hbb3.mono hb2.size); have S3 := S2.next hbb3; clear z0 z1 z2 z3 z4 z5 z6 z7 z8 z9 z10 z11 z12 z13 z14 z15 z16 z17 z18 z19 z20 z21 z22; have z0 := S3.c 0 rfl; have z1 := S3.c 1 rfl; have z2 := S3.c 2 rfl; have z3 := S3.c 3 rfl; have z4 := S3.c 4 rfl; have z5 := S3.c 5 rfl; have z6 := S3.c 6 rfl; have z7 := S3.c 7 rfl; have z8 := S3.c 8 rfl; have z9 := S3.c 9 rfl; have z10 := S3.c 10 rfl; have z11 := S3.c 11 rfl; have z12 := S3.c 12 rfl; have z13 := S3.c 13 rfl; have z14 := S3.c 14 rfl; have z15 := S3.c 15 rfl; have z16 := S3.c 16 rfl; have z17 := S3.c 17 rfl; have z18 := S3.c 18 rfl; have z19 := S3.c 19 rfl; have z20 := S3.c 20 rfl; have z21 := S3.c 21 rfl; have z22 := S3.c 22 rfl; have zl3 := S3.lt)
              | (go_at_call 49; (with_reducible refine (CV.out _ (HM.out.below hb3 (Nat.le_refl _))).mono ?_); rintro e w4 ⟨rfl, hbb4⟩; have hb4 := hb3.trans (hbb4.mono hb3.size); have S4 := S3.next hbb4; clear z0 z1 z2 z3 z4 z5 z6 z7 z8 z9 z10 z11 z12 z13 z14 z15 z16 z17 z18 z19 z20 z21 z22; have z0 := S4.c 0 rfl; have z1 := S4.c 1 rfl; have z2 := S4.c 2 rfl; have z3 := S4.c 3 rfl; have z4 := S4.c 4 rfl; have z5 := S4.c 5 rfl; have z6 := S4.c 6 rfl; have z7 := S4.c 7 rfl; have z8 := S4.c 8 rfl; have z9 := S4.c 9 rfl; have z10 := S4.c 10 rfl; have z11 := S4.c 11 rfl; have z12 := S4.c 12 rfl; have z13 := S4.c 13 rfl; have z14 := S4.c 14 rfl; have z15 := S4.c 15 rfl; have z16 := S4.c 16 rfl; have z17 := S4.c 17 rfl; have z18 := S4.c 18 rfl; have z19 := S4.c 19 rfl; have z20 := S4.c 20 rfl; have z21 := S4.c 21 rfl; have z22 := S4.c 22 rfl; have zl4 := S4.lt)
              | (go_at_call 50; (with_reducible refine (CW.out _).mono ?_); rintro e w5 ⟨rfl, hbb5⟩; have hb5 := hb4.trans (hbb5.mono hb4.size); have S5 := S4.next hbb5; clear z0 z1 z2 z3 z4 z5 z6 z7 z8 z9 z10 z11 z12 z13 z14 z15 z16 z17 z18 z19 z20 z21 z22; have z0 := S5.c 0 rfl; have z1 := S5.c 1 rfl; have z2 := S5.c 2 rfl; have z3 := S5.c 3 rfl; have z4 := S5.c 4 rfl; have z5 := S5.c 5 rfl; have z6 := S5.c 6 rfl; have z7 := S5.c 7 rfl; have z8 := S5.c 8 rfl; have z9 := S5.c 9 rfl; have z10 := S5.c 10 rfl; have z11 := S5.c 11 rfl; have z12 := S5.c 12 rfl; have z13 := S5.c 13 rfl; have z14 := S5.c 14 rfl; have z15 := S5.c 15 rfl; have z16 := S5.c 16 rfl; have z17 := S5.c 17 rfl; have z18 := S5.c 18 rfl; have z19 := S5.c 19 rfl; have z20 := S5.c 20 rfl; have z21 := S5.c 21 rfl; have z22 := S5.c 22 rfl; have zl5 := S5.lt)
              | fail)
            go_ret
            exact ⟨rfl, hb5⟩
end Go.Proofs.YtjdhaacmlpegoaaGreatDoor
