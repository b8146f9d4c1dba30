/- CacheVary: the law. -/
import Derived.Test.YtkobhknggamejaaDoorJU
import Derived.Test.YtkobhknggamejaaDoorB6
namespace Go.Proofs.YtkobhknggamejaaDoor
set_option linter.unusedVariables false
set_option linter.unusedSimpArgs false
open Go.RowKit

set_option maxRecDepth 20000 in
set_option maxHeartbeats 4000000 in
theorem cachevary_law (url : ByteArray) (vr : Value) (now : Int) (rq : List Hd) (value body : ByteArray) (w : World) (hM : MaxAt w) (hq : SlK hdC 2 w vr rq) (hzq : WtH rq) :
    Calls Tryd.prog 3 #[.agg #[.string url, vr, .int .i64 now], .string value, .string body] w fun e w' => e = .returned (.bool true) ∧ Below w.heap.size w w' := by
  have hb0 : Below w.heap.size w (w.alloc (.cells [.string url, vr, .int .i64 now].toArray 24)) := (Below.refl _ w).alloc (Nat.le_refl _) _
  have Q0 := AtL.new w [.string url, vr, .int .i64 now] 24
  have CF := Lib.hid (fit_is43 _ (hM.below hb0 (Nat.le_refl _)))
  obtain ⟨A, hA⟩ : ∃ A, attrB rq = A := ⟨_, rfl⟩
  have CH := Lib.hid (fun (w' : World) (hb : Below w.heap.size w w') => attrs_is rq vr w' (hq.below hb (Nat.le_refl _)) hzq A hA)
  have HQ := Lib.hid hq
  have HMM := Lib.hid hM
  obtain ⟨sb, sd, rfl, _⟩ := hq.shape
  clear hq hM hzq
  have q0 := Q0.c 0 rfl; have q1 := Q0.c 1 rfl; have q2 := Q0.c 2 rfl
  have ql := Q0.lt
  cases A with
  | false =>
    clear hA
    go_enter Tryd.func3, Tryd.ntmps3
    go_wp2_with (first
      | (go_at_call 4; (with_reducible refine CF.out.mono ?_); rintro e w1 ⟨rfl, hb1⟩; have Q1 := Q0.next hb1; have hB1 := hb0.trans (hb1.mono hb0.size); clear q0 q1 q2; have q0 := Q1.c 0 rfl; have q1 := Q1.c 1 rfl; have q2 := Q1.c 2 rfl; have m1 := Q1.lt)
      | (go_at_call 5; (with_reducible refine (CH.out _ hB1).mono ?_); rintro e w2 ⟨rfl, hb2⟩; have Q2 := Q1.next hb2; have hB2 := hB1.trans (hb2.mono hB1.size); clear q0 q1 q2; have q0 := Q2.c 0 rfl; have q1 := Q2.c 1 rfl; have q2 := Q2.c 2 rfl; have m2 := Q2.lt)
      )
    go_ret
    exact ⟨rfl, hB2⟩
  | true =>
    have hzq' : HdSz rq := (attrB_sz hA).1
    have hrl : rq.length ≤ 10 := (attrB_sz hA).2.1
    clear hA
    by_cases hv : (200 : Int) < (value.size : Int)
    · go_enter Tryd.func3, Tryd.ntmps3
      go_wp2_with (first
        | (go_at_call 4; (with_reducible refine CF.out.mono ?_); rintro e w1 ⟨rfl, hb1⟩; have Q1 := Q0.next hb1; have hB1 := hb0.trans (hb1.mono hb0.size); clear q0 q1 q2; have q0 := Q1.c 0 rfl; have q1 := Q1.c 1 rfl; have q2 := Q1.c 2 rfl; have m1 := Q1.lt)
        | (go_at_call 5; (with_reducible refine (CH.out _ hB1).mono ?_); rintro e w2 ⟨rfl, hb2⟩; have Q2 := Q1.next hb2; have hB2 := hB1.trans (hb2.mono hB1.size); clear q0 q1 q2; have q0 := Q2.c 0 rfl; have q1 := Q2.c 1 rfl; have q2 := Q2.c 2 rfl; have m2 := Q2.lt)
        )
      go_ret
      exact ⟨rfl, hB2⟩
    · obtain ⟨ns, hns⟩ : ∃ ns, (dirL rq).ns = ns := ⟨_, rfl⟩
      have HNS := Lib.hid hns
      clear hns
      cases ns with
      | true =>
        go_enter Tryd.func3, Tryd.ntmps3
        go_upto_region 7 with (first
          | (go_at_call 4; (with_reducible refine CF.out.mono ?_); rintro e w1 ⟨rfl, hb1⟩; have Q1 := Q0.next hb1; have hB1 := hb0.trans (hb1.mono hb0.size); clear q0 q1 q2; have q0 := Q1.c 0 rfl; have q1 := Q1.c 1 rfl; have q2 := Q1.c 2 rfl; have m1 := Q1.lt)
          | (go_at_call 5; (with_reducible refine (CH.out _ hB1).mono ?_); rintro e w2 ⟨rfl, hb2⟩; have Q2 := Q1.next hb2; have hB2 := hB1.trans (hb2.mono hB1.size); clear q0 q1 q2; have q0 := Q2.c 0 rfl; have q1 := Q2.c 1 rfl; have q2 := Q2.c 2 rfl; have m2 := Q2.lt)
          )
        obtain ⟨Q, hQ⟩ : ∃ Q, w.heap.size = Q := ⟨_, rfl⟩
        obtain ⟨C, hC⟩ : ∃ C, w2.heap.size = C := ⟨_, rfl⟩
        obtain ⟨N, hN⟩ : ∃ N, C + 1 = N := ⟨_, rfl⟩
        have hwC : w.heap.size ≤ C := by have := hB2.size; omega
        have hQC : Q < C := by have := Q2.lt; omega
        have hal2 := (Below.refl _ w2).alloc (Nat.le_refl _) (.cells [.slice none 0 0].toArray 29)
        have K2 := AtL.new w2 [.slice none 0 0] 29
        have K3 := K2.alloc (.cells [.string hcS, .string hmS, .string hvS, .string hxS].toArray 31)
        have ow3 := World.ownsRow_lit (base := (w2.alloc (.cells [.slice none 0 0].toArray 29)).heap.size) (e := 31) (size := 2) (w2.alloc (.cells [.slice none 0 0].toArray 29)) [.string hcS, .string hmS, .string hvS, .string hxS].toArray 2 (Nat.le_refl _) (by unfold maxLen; omega) rfl
        have hal3 := hal2.alloc hal2.size (.cells [.string hcS, .string hmS, .string hvS, .string hxS].toArray 31)
        rw [show (w2.alloc (.cells [.slice none 0 0].toArray 29)).heap.size = C + 1 by simp [hC]] at ow3
        have B3 := hB2.trans (hal3.mono hB2.size)
        have Q3 := Q2.next hal3
        obtain ⟨w3, hw3⟩ : ∃ w3 : World, (w2.alloc (.cells [.slice none 0 0].toArray 29)).alloc (.cells [.string hcS, .string hmS, .string hvS, .string hxS].toArray 31) = w3 := ⟨_, rfl⟩
        rw [hw3] at K3 ow3 B3 Q3
        rw [hC] at K3
        rw [hQ] at Q3
        rw [hN] at ow3
        rw [show (w2.alloc (.cells #[.slice none 0 0] 29)).alloc (.cells #[.string ⟨#[67, 97, 99, 104, 101, 45, 67, 111, 110, 116, 114, 111, 108]⟩, .string ⟨#[109, 97, 120, 45, 97, 103, 101, 61, 54, 48]⟩, .string ⟨#[86, 97, 114, 121]⟩, .string ⟨#[88, 44, 32, 65, 99, 99, 101, 112, 116, 32, 44, 32, 97, 99, 99, 101, 112, 116]⟩] 31) = w3 from hw3, hC, hQ, hN]
        have hsl3 : SlK hdC 2 w3 (.slice (some ⟨N, 0, none⟩) 2 2) vyH := SlK.of_own hdC_len ow3
        have J3 : CaIn w3 C C (.slice none 0 0) [] := ⟨K3, World.ownsRow_nil _ _ _ _, by simp [Value.ownBlock], Nat.le_of_lt K3.lt, (fun x hx => by cases hx), (fun x hx => by cases hx)⟩
        have hfq : FarV rq (.slice sb rq.length sd) C (Value.slice none 0 0).ownBlock := slk_new HQ.out hwC
        have hfh : FarV vyH (.slice (some ⟨N, 0, none⟩) 2 2) C (Value.slice none 0 0).ownBlock := fun _ b off n c e => by
          injection e with e _ _
          injection e with e
          injection e with e
          exact ⟨by omega, by simp [Value.ownBlock]⟩
        have HB3 := Lib.hid B3
        have HJ3 := Lib.hid J3
        have HMM3 := Lib.hid (HMM.out.below B3 (Nat.le_refl _))
        have HGC : Hid (0 < C) := Lib.hid (Nat.lt_of_lt_of_le HMM.out.lt hwC)
        have CP := Lib.hid (put_any C C (.slice none 0 0) [] w3 HMM3.out HGC.out (Nat.le_refl _) HJ3.out (fun x hx => by cases hx) (by decide) url rq vyH (.slice sb rq.length sd) (.slice (some ⟨N, 0, none⟩) 2 2) (HQ.out.below HB3.out (Nat.le_refl _)) hsl3 hzq' vyH_sz hfq hfh 200 body now false (by rw [vy_stor, HNS.out]; rfl) [] rfl)
        clear hw3 ow3 hsl3 J3 hfq hfh B3 hal2 hal3 K2 Q0 Q1 Q2 q0 q1 q2 hC hQ hN
        have q0 := Q3.c 0 rfl; have q1 := Q3.c 1 rfl; have q2 := Q3.c 2 rfl
        have k0 := K3.c 0 rfl
        have kl := K3.lt
        have ql3 := Q3.lt
        go_wp2_with (go_at_call 6; (with_reducible refine CP.out.mono ?_); rintro e w4 hq4; obtain ⟨rfl, hto4⟩ := putq_none hq4; clear hq4 k0; have hlow4 := hto4.lowB HJ3.out (Nat.le_refl _); obtain ⟨a4, c4, J4, -, -⟩ := hto4.out; have j0 := J4.at_.c 0 rfl; have jl := J4.at_.lt)
        go_ret
        exact ⟨rfl, HB3.out.trans (hlow4.mono hwC)⟩
      | false =>
        have hvs : value.size ≤ 200 := by omega
        obtain ⟨V, hV⟩ : ∃ V, valL rq [97, 99, 99, 101, 112, 116] = V := ⟨_, rfl⟩
        obtain ⟨hb, hhb⟩ : ∃ hb, (hdrL rq [97, 99, 99, 101, 112, 116]).isSome = hb := ⟨_, rfl⟩
        have hzo : HdSz ((hAS, value) :: rq) := ⟨by have := hzq'.1; simp; omega, fun h hh => by
          rcases List.mem_cons.1 hh with rfl | hh
          · exact ⟨by show hAS.size ≤ 100000; decide, by show value.size ≤ 100000; omega⟩
          · exact hzq'.2 h hh⟩
        have HZO := Lib.hid hzo
        have CHd := Lib.hid (fun (w' : World) hq => hdr_at rq (.slice sb rq.length sd) haS w' hq hzq' (by decide) V hb hV hhb)
        obtain ⟨D, hD⟩ : ∃ D, dirL rq = D := ⟨_, rfl⟩
        have CD := Lib.hid (fun (w' : World) hM hq => dir_is rq (.slice sb rq.length sd) w' hM hq hzq' D hD)
        have HVV := Lib.hid hV
        have HDD := Lib.hid hD
        have HCL := Lib.hid (cellsK_len hdC_len rq)
        have HONE := Lib.hid (one2s rq)
        clear hV hhb hzo hD
        go_enter Tryd.func3, Tryd.ntmps3
        go_upto_region 7 with (first
          | (go_at_call 4; (with_reducible refine CF.out.mono ?_); rintro e w1 ⟨rfl, hb1⟩; have Q1 := Q0.next hb1; have hB1 := hb0.trans (hb1.mono hb0.size); clear q0 q1 q2; have q0 := Q1.c 0 rfl; have q1 := Q1.c 1 rfl; have q2 := Q1.c 2 rfl; have m1 := Q1.lt)
          | (go_at_call 5; (with_reducible refine (CH.out _ hB1).mono ?_); rintro e w2 ⟨rfl, hb2⟩; have Q2 := Q1.next hb2; have hB2 := hB1.trans (hb2.mono hB1.size); clear q0 q1 q2; have q0 := Q2.c 0 rfl; have q1 := Q2.c 1 rfl; have q2 := Q2.c 2 rfl; have m2 := Q2.lt)
          )
        obtain ⟨Q, hQ⟩ : ∃ Q, w.heap.size = Q := ⟨_, rfl⟩
        obtain ⟨C, hC⟩ : ∃ C, w2.heap.size = C := ⟨_, rfl⟩
        obtain ⟨N, hN⟩ : ∃ N, C + 1 = N := ⟨_, rfl⟩
        have hwC : w.heap.size ≤ C := by have := hB2.size; omega
        have hQC : Q < C := by have := Q2.lt; omega
        have hal2 := (Below.refl _ w2).alloc (Nat.le_refl _) (.cells [.slice none 0 0].toArray 29)
        have K2 := AtL.new w2 [.slice none 0 0] 29
        have K3 := K2.alloc (.cells [.string hcS, .string hmS, .string hvS, .string hxS].toArray 31)
        have ow3 := World.ownsRow_lit (base := (w2.alloc (.cells [.slice none 0 0].toArray 29)).heap.size) (e := 31) (size := 2) (w2.alloc (.cells [.slice none 0 0].toArray 29)) [.string hcS, .string hmS, .string hvS, .string hxS].toArray 2 (Nat.le_refl _) (by unfold maxLen; omega) rfl
        have hal3 := hal2.alloc hal2.size (.cells [.string hcS, .string hmS, .string hvS, .string hxS].toArray 31)
        rw [show (w2.alloc (.cells [.slice none 0 0].toArray 29)).heap.size = C + 1 by simp [hC]] at ow3
        have B3 := hB2.trans (hal3.mono hB2.size)
        have Q3 := Q2.next hal3
        obtain ⟨w3, hw3⟩ : ∃ w3 : World, (w2.alloc (.cells [.slice none 0 0].toArray 29)).alloc (.cells [.string hcS, .string hmS, .string hvS, .string hxS].toArray 31) = w3 := ⟨_, rfl⟩
        rw [hw3] at K3 ow3 B3 Q3
        rw [hC] at K3
        rw [hQ] at Q3
        rw [hN] at ow3
        rw [show (w2.alloc (.cells #[.slice none 0 0] 29)).alloc (.cells #[.string ⟨#[67, 97, 99, 104, 101, 45, 67, 111, 110, 116, 114, 111, 108]⟩, .string ⟨#[109, 97, 120, 45, 97, 103, 101, 61, 54, 48]⟩, .string ⟨#[86, 97, 114, 121]⟩, .string ⟨#[88, 44, 32, 65, 99, 99, 101, 112, 116, 32, 44, 32, 97, 99, 99, 101, 112, 116]⟩] 31) = w3 from hw3, hC, hQ, hN]
        have hsl3 : SlK hdC 2 w3 (.slice (some ⟨N, 0, none⟩) 2 2) vyH := SlK.of_own hdC_len ow3
        have J3 : CaIn w3 C C (.slice none 0 0) [] := ⟨K3, World.ownsRow_nil _ _ _ _, by simp [Value.ownBlock], Nat.le_of_lt K3.lt, (fun x hx => by cases hx), (fun x hx => by cases hx)⟩
        have hfq : FarV rq (.slice sb rq.length sd) C (Value.slice none 0 0).ownBlock := slk_new HQ.out hwC
        have hfh : FarV vyH (.slice (some ⟨N, 0, none⟩) 2 2) C (Value.slice none 0 0).ownBlock := fun _ b off n c e => by
          injection e with e _ _
          injection e with e
          injection e with e
          exact ⟨by omega, by simp [Value.ownBlock]⟩
        have HB3 := Lib.hid B3
        have HJ3 := Lib.hid J3
        have HMM3 := Lib.hid (HMM.out.below B3 (Nat.le_refl _))
        have HGC : Hid (0 < C) := Lib.hid (Nat.lt_of_lt_of_le HMM.out.lt hwC)
        have CP := Lib.hid (put_any C C (.slice none 0 0) [] w3 HMM3.out HGC.out (Nat.le_refl _) HJ3.out (fun x hx => by cases hx) (by decide) url rq vyH (.slice sb rq.length sd) (.slice (some ⟨N, 0, none⟩) 2 2) (HQ.out.below HB3.out (Nat.le_refl _)) hsl3 hzq' vyH_sz hfq hfh 200 body now true (by rw [vy_stor, HNS.out]; rfl) [vyE url rq body now] rfl)
        clear hw3 ow3 hsl3 J3 hfq hfh B3 hal2 hal3 K2 Q0 Q1 Q2 q0 q1 q2 hC hQ hN
        have q0 := Q3.c 0 rfl; have q1 := Q3.c 1 rfl; have q2 := Q3.c 2 rfl
        have k0 := K3.c 0 rfl
        have kl := K3.lt
        have ql3 := Q3.lt
        go_upto_region 10 with (go_at_call 6; (with_reducible refine CP.out.mono ?_); rintro e w4 hq4; obtain ⟨y, rfl, hy, hto4⟩ := putq_open hq4; clear hq4 k0 kl q0 q1 q2 ql3; have hlow4 := hto4.lowB HJ3.out (Nat.le_refl _))
        obtain ⟨a4, c4, J4, -, -⟩ := hto4.out
        have B4 := HB3.out.trans (hlow4.mono hwC)
        have Q4 := Q3.below hlow4 hQC
        have hzy : HdSz y.2.va ∧ HdSz y.2.hd := by
          rw [hy]
          exact ⟨HdSz.vary hzq' vyH_sz, vyH_sz⟩
        obtain ⟨k, en, hs, hk1, hk2, hk3, hAsk⟩ := vy_ask y url rq body now value hy hzy HZO.out HNS.out
        rw [HVV.out, HDD.out] at hk2 hk3
        rw [HVV.out] at hk1
        have HASK := Lib.hid hAsk
        have HJ4 := Lib.hid J4
        have HY := Lib.hid hy
        have HB4 := Lib.hid B4
        have hC4 : C < w4.heap.size := J4.at_.lt
        have ow5 := World.ownsRow_lit (base := w4.heap.size) (e := 31) (size := 2) w4 [.string hAS, .string value].toArray 1 (Nat.le_refl _) (by unfold maxLen; omega) rfl
        have hal5 := (Below.refl _ w4).alloc (Nat.le_refl _) (.cells [.string hAS, .string value].toArray 31)
        have HSR := Lib.hid (hd_src ((HQ.out.below B4 (Nat.le_refl _)).below hal5 (Nat.le_refl _)))
        have HOW5 := Lib.hid ow5
        clear hAsk J4 hy B4 hto4 hzy ow5 Q3 K3 CP
        have q0 := Q4.c 0 rfl; have q1 := Q4.c 1 rfl; have q2 := Q4.c 2 rfl
        have ql4 := Q4.lt
        go_upto_region 11 with (refine app_src slH _ (by rfl) (.tmp 46) (.tmp 48) (by rfl) w4.heap.size _ 1 _ (by rfl) HOW5.out (cellsK hdC rq) sb rq.length sd (by rfl) HCL.out HSR.out HONE.out (by omega) (by omega) (by simp) ?_; intro v5 w5 o5 g5; obtain ⟨oa, oc, rfl, _, _, _⟩ := own_reads o5; have b45 := below_own hal5 HOW5.out g5 (by simp) (Nat.le_refl _))
        have hsl5 : SlK hdC 2 w5 (.slice oa (1 + rq.length) oc) ((hAS, value) :: rq) := SlK.of_own hdC_len (own_eq o5 (by simp; omega) rfl)
        have J5 := HJ4.out.below b45 (Nat.le_refl _)
        have Q5 := Q4.next b45
        have B5 := HB4.out.trans (b45.mono HB4.out.size)
        have HS5 := Lib.hid hsl5
        have HJ5 := Lib.hid J5
        have HB5 := Lib.hid B5
        clear hsl5 J5 B5 o5 g5 q0 q1 q2 ql4 Q4 hal5
        have q0 := Q5.c 0 rfl; have q1 := Q5.c 1 rfl; have q2 := Q5.c 2 rfl
        have ql5 := Q5.lt
        go_upto_region 12 with (go_at_call 7; refine (CHd.out _ (HQ.out.below HB5.out (Nat.le_refl _))).mono ?_; rintro e w6 ⟨rfl, hb6⟩)
        have Q6 := Q5.next hb6
        have HJ6 := Lib.hid (HJ5.out.below hb6 (Nat.le_refl _))
        have HS6 := Lib.hid (HS5.out.below hb6 (Nat.le_refl _))
        have HB6 := Lib.hid (HB5.out.trans (hb6.mono HB5.out.size))
        clear q0 q1 q2 ql5 Q5
        have q0 := Q6.c 0 rfl; have q1 := Q6.c 1 rfl; have q2 := Q6.c 2 rfl
        have ql6 := Q6.lt
        go_upto_region 13 with (go_at_call 8; (with_reducible refine (HASK.out _ _ _ _ _ (HMM.out.below HB6.out (Nat.le_refl _)) HJ6.out HS6.out).mono ?_); rintro e w7 hq7; obtain ⟨pu, pa1, pn1, pk1, pst, pa2, pn2, pk2, pbo, pti, pua, pun, puc, rfl, hto7⟩ := askq_open2 hq7; clear hq7)
        have hlow7 := hto7.lowB HJ6.out (Nat.le_refl _)
        obtain ⟨a7, c7, J7, -, -⟩ := hto7.out
        have B7 := HB6.out.trans (hlow7.mono hwC)
        have Q7 := Q6.below hlow7 hQC
        have hal8 := (Below.refl _ w7).alloc (Nat.le_refl _) (.cells [.int .i64 k, .string pu, .slice pa1 pn1 pk1, .int .i64 pst, .slice pa2 pn2 pk2, .string pbo, .int .i64 pti, .slice pua pun puc].toArray 38)
        have P8 := AtL.new w7 [.int .i64 k, .string pu, .slice pa1 pn1 pk1, .int .i64 pst, .slice pa2 pn2 pk2, .string pbo, .int .i64 pti, .slice pua pun puc] 38
        have J8 := J7.below hal8 (Nat.le_refl _)
        have Q8 := Q7.next hal8
        have B8 := B7.trans (hal8.mono B7.size)
        obtain ⟨w8, hw8⟩ : ∃ w8 : World, w7.alloc (.cells [.int .i64 k, .string pu, .slice pa1 pn1 pk1, .int .i64 pst, .slice pa2 pn2 pk2, .string pbo, .int .i64 pti, .slice pua pun puc].toArray 38) = w8 := ⟨_, rfl⟩
        obtain ⟨P, hP⟩ : ∃ P, w7.heap.size = P := ⟨_, rfl⟩
        rw [hw8] at P8 J8 Q8 B8
        rw [hP] at P8
        rw [show w7.alloc (.cells #[.int .i64 k, .string pu, .slice pa1 pn1 pk1, .int .i64 pst, .slice pa2 pn2 pk2, .string pbo, .int .i64 pti, .slice pua pun puc] 38) = w8 from hw8, hP]
        have hva : y.2.va = varyE rq vyH := by rw [HY.out]; rfl
        obtain ⟨g, b, off, kc, rfl, j0, g1, u2, u3⟩ := vy_cells J8 hva (vy_varyE rq)
        have v2 : w8.cell? ⟨b, off + 2, none⟩ = some (.string ⟨#[97, 99, 99, 101, 112, 116]⟩) := u2
        have v3 : w8.cell? ⟨b, off + 2 + 1, none⟩ = some (.string V) := by have h : w8.cell? ⟨b, off + 2 + 1, none⟩ = some (.string (valL rq [97, 99, 99, 101, 112, 116])) := u3; rw [HVV.out] at h; exact h
        have HB8 := Lib.hid B8
        have jl8 := J8.at_.lt
        have gl8 : g < w8.heap.size := cell_lt g1
        have bl8 : b < w8.heap.size := cell_lt v2
        clear u2 u3
        have pl8 := P8.lt
        have ql8 := Q8.lt
        clear hw8 hP hal8 J8 B8 J7 B7 hto7 hlow7 Q7 Q6 q0 q1 q2 ql6 hva
        have p0 := P8.c 0 rfl; have p1 := P8.c 1 rfl; have p2 := P8.c 2 rfl; have p3 := P8.c 3 rfl; have p4 := P8.c 4 rfl; have p5 := P8.c 5 rfl; have p6 := P8.c 6 rfl; have p7 := P8.c 7 rfl
        have q0 := Q8.c 0 rfl; have q1 := Q8.c 1 rfl; have q2 := Q8.c 2 rfl
        go_upto_region 15 with fail
        obtain ⟨d1, d2, d3, d4⟩ := D
        have hd1 : d1 = false := by have := HNS.out; rw [HDD.out] at this; exact this
        subst hd1
        cases hc : (value.toList == V.toList) with
        | false =>
          obtain rfl := hk1 hc
          have hc2 : (value.toList != V.toList) = true := by simp only [bne]; rw [hc]; rfl
          clear hk1 hk2 hk3
          go_wp2_with fail
          go_ret
          exact ⟨rfl, HB8.out⟩
        | true =>
          have hc2 : (value.toList != V.toList) = false := by simp only [bne]; rw [hc]; rfl
          cases d2 with
          | false =>
            obtain rfl := hk2 hc rfl
            have CD2 := Lib.hid (fun (w' : World) hM hq => (CD.out w' hM hq).mono fun e w'' (h : e = Ending.returned (dirA ⟨false, false, d3, d4⟩) ∧ Below w'.heap.size w' w'') => (show e = Ending.returned (.agg #[.bool false, .bool false, .bool d3, .int .i64 d4]) ∧ Below w'.heap.size w' w'' from h))
            clear hk1 hk2 hk3 CD
            go_wp2_with (go_at_call 9; (with_reducible refine (CD2.out _ (HMM.out.below HB8.out (Nat.le_refl _)) (HQ.out.below HB8.out (Nat.le_refl _))).mono ?_); rintro e w9 ⟨rfl, hb9⟩; have P9 := (P8.next hb9).alloc (.cells #[.bool false, .bool false, .bool d3, .int .i64 d4] 41); have D9 := AtL.new w9 [.bool false, .bool false, .bool d3, .int .i64 d4] 41; have hb10 := hb9.alloc hb9.size (.cells #[.bool false, .bool false, .bool d3, .int .i64 d4] 41); clear p0 p1 p2 p3 p4 p5 p6 p7 q0 q1 q2 j0 g1 v2 v3; have p0 := P9.c 0 rfl; have pl9 := P9.lt; have y0 := D9.c 0 rfl; have y1 := D9.c 1 rfl; have y2 := D9.c 2 rfl; have y3 := D9.c 3 rfl; have dl9 := D9.lt)
            go_ret
            exact ⟨rfl, HB8.out.trans (hb10.mono HB8.out.size)⟩
          | true =>
            obtain rfl := hk3 hc rfl
            have CD2 := Lib.hid (fun (w' : World) hM hq => (CD.out w' hM hq).mono fun e w'' (h : e = Ending.returned (dirA ⟨false, true, d3, d4⟩) ∧ Below w'.heap.size w' w'') => (show e = Ending.returned (.agg #[.bool false, .bool true, .bool d3, .int .i64 d4]) ∧ Below w'.heap.size w' w'' from h))
            clear hk1 hk2 hk3 CD
            go_wp2_with (go_at_call 9; (with_reducible refine (CD2.out _ (HMM.out.below HB8.out (Nat.le_refl _)) (HQ.out.below HB8.out (Nat.le_refl _))).mono ?_); rintro e w9 ⟨rfl, hb9⟩; have P9 := (P8.next hb9).alloc (.cells #[.bool false, .bool true, .bool d3, .int .i64 d4] 41); have D9 := AtL.new w9 [.bool false, .bool true, .bool d3, .int .i64 d4] 41; have hb10 := hb9.alloc hb9.size (.cells #[.bool false, .bool true, .bool d3, .int .i64 d4] 41); clear p0 p1 p2 p3 p4 p5 p6 p7 q0 q1 q2 j0 g1 v2 v3; have p0 := P9.c 0 rfl; have pl9 := P9.lt; have y0 := D9.c 0 rfl; have y1 := D9.c 1 rfl; have y2 := D9.c 2 rfl; have y3 := D9.c 3 rfl; have dl9 := D9.lt)
            go_ret
            exact ⟨rfl, HB8.out.trans (hb10.mono HB8.out.size)⟩
end Go.Proofs.YtkobhknggamejaaDoor
