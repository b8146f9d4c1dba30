/- Fetch: whether an answer may be read, in the reference. -/
import Derived.Test.YtjdhaacmlpegoaaGreatDoorTB
namespace Go.Proofs.YtjdhaacmlpegoaaGreatDoor
set_option linter.unusedVariables false
set_option linter.unusedSimpArgs false
open Go.RowKit

set_option maxRecDepth 20000 in
set_option maxHeartbeats 4000000 in
theorem rreadable_is (og : ByteArray) (mo : Int) (ck : Bool) (a b c d e f : ByteArray) (vh : Value) (hd : List Hd) (w : World) (hM : MaxAt w) (hv : SlK hdC 2 w vh hd) (hz : HdSz hd) (ha : a.size ≤ 40000) (hb : b.size ≤ 40000) (hc : c.size ≤ 40000) (hdd : d.size ≤ 40000) (he : e.size ≤ 40000) (hf : f.size ≤ 40000) (O : ByteArray) (hO : O.data.toList = orgL (a.data.toList, b.data.toList, c.data.toList, d.data.toList, e.data.toList, f.data.toList)) (R : Bool) (hR : readB og mo ck O hd = R) :
    Calls Tryz.prog 25 #[.string og, .int .i64 mo, .bool ck, .agg #[.string a, .string b, .string c, .string d, .string e, .string f], vh] w fun x w' => x = .returned (.bool R) ∧ Below w.heap.size w w' := by
  have hb0 := (Below.refl _ w).alloc (Nat.le_refl _) (.cells [.string a, .string b, .string c, .string d, .string e, .string f].toArray 37)
  have A0 := AtL.new w [.string a, .string b, .string c, .string d, .string e, .string f] 37
  have HV := Lib.hid hv
  obtain ⟨va, vc, rfl, _⟩ := hv.shape
  obtain ⟨B, hB⟩ : ∃ B, (hdrL hd acoL).isSome = B := ⟨_, rfl⟩
  obtain ⟨V, hV⟩ : ∃ V, valL hd acoL = V := ⟨_, rfl⟩
  obtain ⟨V2, hV2⟩ : ∃ V2, valL hd accL = V2 := ⟨_, rfl⟩
  obtain ⟨b1, h1⟩ : ∃ b1, (O.toList == og.toList) = b1 := ⟨_, rfl⟩
  obtain ⟨b2, h2⟩ : ∃ b2, (V2.toList == [116, 114, 117, 101]) = b2 := ⟨_, rfl⟩
  obtain ⟨b3, h3⟩ : ∃ b3, (V.toList == og.toList) = b3 := ⟨_, rfl⟩
  obtain ⟨b4, h4⟩ : ∃ b4, (V.toList == [42]) = b4 := ⟨_, rfl⟩
  have h2n : (V2.toList != [116, 114, 117, 101]) = !b2 := by simp only [bne]; rw [h2]
  unfold readB at hR
  rw [hB, hV, hV2, h1, h2, h3, h4] at hR
  have CO := Lib.hid (rorigin_is a b c d e f O _ ha hb hc hdd he hf (hM.below hb0 (Nat.le_refl _)) hO)
  have CH1 := Lib.hid (fun (w' : World) hv => (show Calls Tryz.prog 52 #[.slice va hd.length vc, .string ⟨#[97, 99, 99, 101, 115, 115, 45, 99, 111, 110, 116, 114, 111, 108, 45, 97, 108, 108, 111, 119, 45, 111, 114, 105, 103, 105, 110]⟩] w' fun x w'' => x = .returned (.tuple #[.string V, .bool B]) ∧ Below w'.heap.size w' w'' from rhdr_at hd (.slice va hd.length vc) acoS w' hv hz (by decide) V B hV hB))
  have CH2 := Lib.hid (fun (w' : World) hv => (show Calls Tryz.prog 53 #[.slice va hd.length vc, .string ⟨#[97, 99, 99, 101, 115, 115, 45, 99, 111, 110, 116, 114, 111, 108, 45, 97, 108, 108, 111, 119, 45, 99, 114, 101, 100, 101, 110, 116, 105, 97, 108, 115]⟩] w' fun x w'' => x = .returned (.string V2) ∧ Below w'.heap.size w' w'' from rvalue_is hd (.slice va hd.length vc) accS w' hv hz (by decide) V2 hV2))
  clear hO
  clear hv hM hB hV hV2
  by_cases m1 : mo = 1
  · have hR : true = R := by rw [← hR, decide_eq_true m1]; simp
    subst hR
    clear h1 h2 h3 h4 h2n
    subst m1
    go_enter Tryz.func25, Tryz.ntmps25
    go_wp2_with (first
      | (go_at_call 27; (with_reducible refine CO.out.mono ?_); rintro e w1 ⟨rfl, hb1⟩; have hB1 := hb0.trans (hb1.mono hb0.size); have hBD := hB1)
      | (go_at_call 52; with_reducible refine (CH1.out _ (HV.out.below hB1 (Nat.le_refl _))).mono ?_; rintro e w2 ⟨rfl, hb2⟩; have hB2 := hB1.trans (hb2.mono hB1.size); have hBE := hB2; have hBG := hB2)
      | (go_at_call 53; with_reducible refine (CH2.out _ (HV.out.below hB2 (Nat.le_refl _))).mono ?_; rintro e w3 ⟨rfl, hb3⟩; have hBF := hB2.trans (hb3.mono hB2.size))
      | fail)
    go_ret
    exact ⟨rfl, hb0⟩
  · have m1' : (mo == 1) = false := beq_eq_false_iff_ne.2 m1
    cases b1 with
    | true =>
      have hR : true = R := by rw [← hR]; simp
      subst hR
      go_enter Tryz.func25, Tryz.ntmps25
      go_wp2_with (first
        | (go_at_call 27; (with_reducible refine CO.out.mono ?_); rintro e w1 ⟨rfl, hb1⟩; have hB1 := hb0.trans (hb1.mono hb0.size); have hBD := hB1)
        | (go_at_call 52; with_reducible refine (CH1.out _ (HV.out.below hB1 (Nat.le_refl _))).mono ?_; rintro e w2 ⟨rfl, hb2⟩; have hB2 := hB1.trans (hb2.mono hB1.size); have hBE := hB2; have hBG := hB2)
        | (go_at_call 53; with_reducible refine (CH2.out _ (HV.out.below hB2 (Nat.le_refl _))).mono ?_; rintro e w3 ⟨rfl, hb3⟩; have hBF := hB2.trans (hb3.mono hB2.size))
        | fail)
      go_ret
      exact ⟨rfl, hB1⟩
    | false =>
      by_cases m3 : mo = 3
      · subst m3
        cases B with
        | false =>
          have hR : false = R := by rw [← hR]; simp
          subst hR
          go_enter Tryz.func25, Tryz.ntmps25
          go_wp2_with (first
            | (go_at_call 27; (with_reducible refine CO.out.mono ?_); rintro e w1 ⟨rfl, hb1⟩; have hB1 := hb0.trans (hb1.mono hb0.size); have hBD := hB1)
            | (go_at_call 52; with_reducible refine (CH1.out _ (HV.out.below hB1 (Nat.le_refl _))).mono ?_; rintro e w2 ⟨rfl, hb2⟩; have hB2 := hB1.trans (hb2.mono hB1.size); have hBE := hB2; have hBG := hB2)
            | (go_at_call 53; with_reducible refine (CH2.out _ (HV.out.below hB2 (Nat.le_refl _))).mono ?_; rintro e w3 ⟨rfl, hb3⟩; have hBF := hB2.trans (hb3.mono hB2.size))
            | fail)
          go_ret
          exact ⟨rfl, hBE⟩
        | true =>
          cases ck with
          | true =>
            cases b3 with
            | true =>
              cases b2 with
              | false =>
                have hR : false = R := by rw [← hR]; simp
                subst hR
                have h2f : (V2.toList != [116, 114, 117, 101]) = true := by rw [h2n]; rfl
                clear h2n
                go_enter Tryz.func25, Tryz.ntmps25
                go_wp2_with (first
                  | (go_at_call 27; (with_reducible refine CO.out.mono ?_); rintro e w1 ⟨rfl, hb1⟩; have hB1 := hb0.trans (hb1.mono hb0.size); have hBD := hB1)
                  | (go_at_call 52; with_reducible refine (CH1.out _ (HV.out.below hB1 (Nat.le_refl _))).mono ?_; rintro e w2 ⟨rfl, hb2⟩; have hB2 := hB1.trans (hb2.mono hB1.size); have hBE := hB2; have hBG := hB2)
                  | (go_at_call 53; with_reducible refine (CH2.out _ (HV.out.below hB2 (Nat.le_refl _))).mono ?_; rintro e w3 ⟨rfl, hb3⟩; have hBF := hB2.trans (hb3.mono hB2.size))
                  | fail)
                go_ret
                exact ⟨rfl, hBF⟩
              | true =>
                have hR : true = R := by rw [← hR]; simp
                subst hR
                have h2f : (V2.toList != [116, 114, 117, 101]) = false := by rw [h2n]; rfl
                clear h2n
                go_enter Tryz.func25, Tryz.ntmps25
                go_wp2_with (first
                  | (go_at_call 27; (with_reducible refine CO.out.mono ?_); rintro e w1 ⟨rfl, hb1⟩; have hB1 := hb0.trans (hb1.mono hb0.size); have hBD := hB1)
                  | (go_at_call 52; with_reducible refine (CH1.out _ (HV.out.below hB1 (Nat.le_refl _))).mono ?_; rintro e w2 ⟨rfl, hb2⟩; have hB2 := hB1.trans (hb2.mono hB1.size); have hBE := hB2; have hBG := hB2)
                  | (go_at_call 53; with_reducible refine (CH2.out _ (HV.out.below hB2 (Nat.le_refl _))).mono ?_; rintro e w3 ⟨rfl, hb3⟩; have hBF := hB2.trans (hb3.mono hB2.size))
                  | fail)
                go_ret
                exact ⟨rfl, hBF⟩
            | false =>
              have hR : false = R := by rw [← hR]; cases b2 <;> cases b4 <;> simp
              subst hR
              cases b2 with
              | false =>
                have h2f : (V2.toList != [116, 114, 117, 101]) = true := by rw [h2n]; rfl
                clear h2n
                go_enter Tryz.func25, Tryz.ntmps25
                go_wp2_with (first
                  | (go_at_call 27; (with_reducible refine CO.out.mono ?_); rintro e w1 ⟨rfl, hb1⟩; have hB1 := hb0.trans (hb1.mono hb0.size); have hBD := hB1)
                  | (go_at_call 52; with_reducible refine (CH1.out _ (HV.out.below hB1 (Nat.le_refl _))).mono ?_; rintro e w2 ⟨rfl, hb2⟩; have hB2 := hB1.trans (hb2.mono hB1.size); have hBE := hB2; have hBG := hB2)
                  | (go_at_call 53; with_reducible refine (CH2.out _ (HV.out.below hB2 (Nat.le_refl _))).mono ?_; rintro e w3 ⟨rfl, hb3⟩; have hBF := hB2.trans (hb3.mono hB2.size))
                  | fail)
                go_ret
                exact ⟨rfl, hBG⟩
              | true =>
                have h2f : (V2.toList != [116, 114, 117, 101]) = false := by rw [h2n]; rfl
                clear h2n
                cases b4 with
                | true =>
                  go_enter Tryz.func25, Tryz.ntmps25
                  go_wp2_with (first
                    | (go_at_call 27; (with_reducible refine CO.out.mono ?_); rintro e w1 ⟨rfl, hb1⟩; have hB1 := hb0.trans (hb1.mono hb0.size); have hBD := hB1)
                    | (go_at_call 52; with_reducible refine (CH1.out _ (HV.out.below hB1 (Nat.le_refl _))).mono ?_; rintro e w2 ⟨rfl, hb2⟩; have hB2 := hB1.trans (hb2.mono hB1.size); have hBE := hB2; have hBG := hB2)
                    | (go_at_call 53; with_reducible refine (CH2.out _ (HV.out.below hB2 (Nat.le_refl _))).mono ?_; rintro e w3 ⟨rfl, hb3⟩; have hBF := hB2.trans (hb3.mono hB2.size))
                    | fail)
                  go_ret
                  exact ⟨rfl, hBG⟩
                | false =>
                  go_enter Tryz.func25, Tryz.ntmps25
                  go_wp2_with (first
                    | (go_at_call 27; (with_reducible refine CO.out.mono ?_); rintro e w1 ⟨rfl, hb1⟩; have hB1 := hb0.trans (hb1.mono hb0.size); have hBD := hB1)
                    | (go_at_call 52; with_reducible refine (CH1.out _ (HV.out.below hB1 (Nat.le_refl _))).mono ?_; rintro e w2 ⟨rfl, hb2⟩; have hB2 := hB1.trans (hb2.mono hB1.size); have hBE := hB2; have hBG := hB2)
                    | (go_at_call 53; with_reducible refine (CH2.out _ (HV.out.below hB2 (Nat.le_refl _))).mono ?_; rintro e w3 ⟨rfl, hb3⟩; have hBF := hB2.trans (hb3.mono hB2.size))
                    | fail)
                  go_ret
                  exact ⟨rfl, hBG⟩
          | false =>
            cases b3 with
            | true =>
              have hR : true = R := by rw [← hR]; cases b4 <;> simp
              subst hR
              go_enter Tryz.func25, Tryz.ntmps25
              go_wp2_with (first
                | (go_at_call 27; (with_reducible refine CO.out.mono ?_); rintro e w1 ⟨rfl, hb1⟩; have hB1 := hb0.trans (hb1.mono hb0.size); have hBD := hB1)
                | (go_at_call 52; with_reducible refine (CH1.out _ (HV.out.below hB1 (Nat.le_refl _))).mono ?_; rintro e w2 ⟨rfl, hb2⟩; have hB2 := hB1.trans (hb2.mono hB1.size); have hBE := hB2; have hBG := hB2)
                | (go_at_call 53; with_reducible refine (CH2.out _ (HV.out.below hB2 (Nat.le_refl _))).mono ?_; rintro e w3 ⟨rfl, hb3⟩; have hBF := hB2.trans (hb3.mono hB2.size))
                | fail)
              go_ret
              exact ⟨rfl, hBG⟩
            | false =>
              have hR : b4 = R := by rw [← hR]; cases b4 <;> simp
              subst hR
              cases b4 with
              | true =>
                go_enter Tryz.func25, Tryz.ntmps25
                go_wp2_with (first
                  | (go_at_call 27; (with_reducible refine CO.out.mono ?_); rintro e w1 ⟨rfl, hb1⟩; have hB1 := hb0.trans (hb1.mono hb0.size); have hBD := hB1)
                  | (go_at_call 52; with_reducible refine (CH1.out _ (HV.out.below hB1 (Nat.le_refl _))).mono ?_; rintro e w2 ⟨rfl, hb2⟩; have hB2 := hB1.trans (hb2.mono hB1.size); have hBE := hB2; have hBG := hB2)
                  | (go_at_call 53; with_reducible refine (CH2.out _ (HV.out.below hB2 (Nat.le_refl _))).mono ?_; rintro e w3 ⟨rfl, hb3⟩; have hBF := hB2.trans (hb3.mono hB2.size))
                  | fail)
                go_ret
                exact ⟨rfl, hBG⟩
              | false =>
                go_enter Tryz.func25, Tryz.ntmps25
                go_wp2_with (first
                  | (go_at_call 27; (with_reducible refine CO.out.mono ?_); rintro e w1 ⟨rfl, hb1⟩; have hB1 := hb0.trans (hb1.mono hb0.size); have hBD := hB1)
                  | (go_at_call 52; with_reducible refine (CH1.out _ (HV.out.below hB1 (Nat.le_refl _))).mono ?_; rintro e w2 ⟨rfl, hb2⟩; have hB2 := hB1.trans (hb2.mono hB1.size); have hBE := hB2; have hBG := hB2)
                  | (go_at_call 53; with_reducible refine (CH2.out _ (HV.out.below hB2 (Nat.le_refl _))).mono ?_; rintro e w3 ⟨rfl, hb3⟩; have hBF := hB2.trans (hb3.mono hB2.size))
                  | fail)
                go_ret
                exact ⟨rfl, hBG⟩
      · have hR : false = R := by rw [← hR, decide_eq_false m1, decide_eq_false m3]; simp
        subst hR
        have m3' : (mo == 3) = false := beq_eq_false_iff_ne.2 m3
        have m3'' : (mo != 3) = true := by simp only [bne]; rw [m3']; rfl
        go_enter Tryz.func25, Tryz.ntmps25
        go_wp2_with (first
          | (go_at_call 27; (with_reducible refine CO.out.mono ?_); rintro e w1 ⟨rfl, hb1⟩; have hB1 := hb0.trans (hb1.mono hb0.size); have hBD := hB1)
          | (go_at_call 52; with_reducible refine (CH1.out _ (HV.out.below hB1 (Nat.le_refl _))).mono ?_; rintro e w2 ⟨rfl, hb2⟩; have hB2 := hB1.trans (hb2.mono hB1.size); have hBE := hB2; have hBG := hB2)
          | (go_at_call 53; with_reducible refine (CH2.out _ (HV.out.below hB2 (Nat.le_refl _))).mono ?_; rintro e w3 ⟨rfl, hb3⟩; have hBF := hB2.trans (hb3.mono hB2.size))
          | fail)
        go_ret
        exact ⟨rfl, hBD⟩
end Go.Proofs.YtjdhaacmlpegoaaGreatDoor
