/- Fetch: a request that is begun (the laws' example). -/
import Derived.Test.YtjdhaacmlpegoaaGreatDoorTG
namespace Go.Proofs.YtjdhaacmlpegoaaGreatDoor
set_option linter.unusedVariables false
set_option linter.unusedSimpArgs false
open Go.RowKit

theorem ru_mk {W w' : World} {R U : Nat} {r0 r1 r2 r3 r4 r5 r6 r7 a b c d e f : Value} (h : AtL W R [r0, r1, r2, r3, r4, r5, r6, r7]) (h2 : AtL W U [a, b, c, d, e, f]) (hb : Below W.heap.size W w') : w'.cell? ⟨R, 4, none⟩ = some r4 ∧ w'.cell? ⟨R, 3, none⟩ = some r3 ∧ w'.cell? ⟨U, 0, none⟩ = some a ∧ w'.cell? ⟨U, 1, none⟩ = some b ∧ w'.cell? ⟨U, 2, none⟩ = some c ∧ w'.cell? ⟨U, 3, none⟩ = some d ∧ w'.cell? ⟨U, 4, none⟩ = some e ∧ w'.cell? ⟨U, 5, none⟩ = some f :=
  have h' := h.next hb
  have k' := h2.next hb
  ⟨h'.c 4 rfl, h'.c 3 rfl, k'.c 0 rfl, k'.c 1 rfl, k'.c 2 rfl, k'.c 3 rfl, k'.c 4 rfl, k'.c 5 rfl⟩
set_option maxRecDepth 20000 in
set_option maxHeartbeats 2000000 in
theorem begin_fit (s0 jb cb B : Nat) (tk : Int) (ur og : ByteArray) (x : Option Addr) (kk : Nat) (bo : ByteArray) (a b c d e f : ByteArray) (now : Int) (w : World) (hM : MaxAt w) (hG : 0 < B) (hBs : B ≤ s0) (hBc : B ≤ cb) (hsc : s0 ≠ cb) (S0 : AtL w s0 (fsC tk ⟨#[71, 69, 84]⟩ ur og 2 (.slice x 0 kk) bo false 0 ⟨#[]⟩ ⟨#[]⟩ ⟨#[]⟩ ⟨#[]⟩ ⟨#[]⟩ ⟨#[]⟩ ⟨#[]⟩ 0 false false 0 (.slice none 0 0) ⟨#[]⟩ 0)) (hJ : CaIn w cb B (.slice none 0 0) []) (ha : a.size ≤ 40000) (hb : b.size ≤ 40000) (hc : c.size ≤ 40000) (hdd : d.size ≤ 40000) (he : e.size ≤ 40000) (hf : f.size ≤ 40000) (hO : og.data.toList = orgL (a.data.toList, b.data.toList, c.data.toList, d.data.toList, e.data.toList, f.data.toList)) (T : ByteArray) (hT : T.data.toList = formatL (a.data.toList, b.data.toList, c.data.toList, d.data.toList, e.data.toList, [])) (hus : ur.size ≤ 300000) (hP : parseL ur.data.toList = some (a.data.toList, b.data.toList, c.data.toList, d.data.toList, e.data.toList, f.data.toList)) (hW : webB a = true) :
    Calls Tryz.prog 70 #[.pointer (some ⟨s0, 0, none⟩), .agg #[.pointer (some ⟨jb, 0, none⟩), .pointer (some ⟨cb, 0, none⟩), .int .i64 now]] w (SendQ w cb s0 (fsC tk ⟨#[71, 69, 84]⟩ ur og 2 (.slice x 0 kk) bo false 1 a b c d e f ⟨#[71, 69, 84]⟩ 0 false false 0 (.slice none 0 0) ⟨#[]⟩ 0) T bo) := by
  have hsw := S0.lt
  have hcw := hJ.at_.lt
  have hBw : B ≤ w.heap.size := by omega
  have hal := (Below.refl _ w).alloc (Nat.le_refl _) (.cells [.pointer (some ⟨jb, 0, none⟩), .pointer (some ⟨cb, 0, none⟩), .int .i64 now].toArray 83)
  have hal2 := hal.alloc (by simp) (.cells [.int .i64 tk, .string ⟨#[71, 69, 84]⟩, .string ur, .string og, .int .i64 2, .slice x 0 kk, .string bo, .bool false].toArray 30)
  have V2 := (AtL.new w [.pointer (some ⟨jb, 0, none⟩), .pointer (some ⟨cb, 0, none⟩), .int .i64 now] 83).alloc (.cells [.int .i64 tk, .string ⟨#[71, 69, 84]⟩, .string ur, .string og, .int .i64 2, .slice x 0 kk, .string bo, .bool false].toArray 30)
  have R2 := AtL.new (w.alloc (.cells [.pointer (some ⟨jb, 0, none⟩), .pointer (some ⟨cb, 0, none⟩), .int .i64 now].toArray 83)) [.int .i64 tk, .string ⟨#[71, 69, 84]⟩, .string ur, .string og, .int .i64 2, .slice x 0 kk, .string bo, .bool false] 30
  rw [show (w.alloc (.cells [.pointer (some ⟨jb, 0, none⟩), .pointer (some ⟨cb, 0, none⟩), .int .i64 now].toArray 83)).heap.size = w.heap.size + 1 by simp] at R2
  have S2 := S0.next hal2
  have z0 := S0.c 0 rfl; have z1 := S0.c 1 rfl; have z2 := S0.c 2 rfl; have z3 := S0.c 3 rfl; have z4 := S0.c 4 rfl; have z5 := S0.c 5 rfl; have z6 := S0.c 6 rfl; have z7 := S0.c 7 rfl; have z8 := S0.c 8 rfl; have z9 := S0.c 9 rfl; have z10 := S0.c 10 rfl; have z11 := S0.c 11 rfl; have z12 := S0.c 12 rfl; have z13 := S0.c 13 rfl; have z14 := S0.c 14 rfl; have z15 := S0.c 15 rfl; have z16 := S0.c 16 rfl; have z17 := S0.c 17 rfl; have z18 := S0.c 18 rfl; have z19 := S0.c 19 rfl; have z20 := S0.c 20 rfl; have z21 := S0.c 21 rfl; have z22 := S0.c 22 rfl
  have CK := Lib.hid (fun (w' : World) => known_is ⟨#[71, 69, 84]⟩ w' true (by decide +kernel))
  have CP := Lib.hid (fun (w' : World) (hb' : Below w.heap.size w w') => parse_some4 ur w' hus (hM.below hb' (Nat.le_refl _)) a b c d e f hP)
  have CW := Lib.hid (fun (w' : World) => web_is a b c d e f w' true hW)
  have CO := Lib.hid (fun (w' : World) (hb' : Below w.heap.size w w') => origin_is a b c d e f og w' ha hb hc hdd he hf (hM.below hb' (Nat.le_refl _)) hO)
  have CS := Lib.hid (fun (w' : World) (hb' : Below B w w') (S' : AtL w' s0 (fsC tk ⟨#[71, 69, 84]⟩ ur og 2 (.slice x 0 kk) bo false 0 a b c d e f ⟨#[71, 69, 84]⟩ 0 false false 0 (.slice none 0 0) ⟨#[]⟩ 0)) (J' : CaIn w' cb B (.slice none 0 0) []) => send_fit s0 jb cb B tk ur og 2 x kk bo 0 a b c d e f 0 false false 0 (.slice none 0 0) ⟨#[]⟩ 0 now w' (maxat_low hM hb' hG) hG hBs hBc hsc S' J' ha hb hc hdd he hf hO T hT)
  have HJ := Lib.hid hJ
  clear hO hT hP hW hus hJ
  go_enter Tryz.func70, Tryz.ntmps70
  go_upto_region 7 with (first
    | (go_at_call 48; (with_reducible refine (CK.out _).mono ?_); rintro e3 w3 ⟨rfl, hb3⟩; have hB3 := hal2.trans (hb3.mono hal2.size); have R3 := R2.next hb3; have V3 := V2.next hb3; have S3 := S2.next hb3; have r0 := R3.c 0 rfl; have r1 := R3.c 1 rfl; have r2 := R3.c 2 rfl; have r3 := R3.c 3 rfl; have r4 := R3.c 4 rfl; have r5 := R3.c 5 rfl; have r6 := R3.c 6 rfl; have r7 := R3.c 7 rfl; have rl3 := R3.lt)
    | (go_at_call 28; (with_reducible refine (CP.out _ hB3).mono ?_); rintro e4 w4 ⟨rfl, hb4⟩; have hB4 := hB3.trans (hb4.mono hB3.size); have R4 := R3.next hb4; have V4 := V3.next hb4; have S4 := S3.next hb4; have hal5 := (Below.refl _ w4).alloc (Nat.le_refl _) (.cells [.string a, .string b, .string c, .string d, .string e, .string f].toArray 37); have U5 := AtL.new w4 [.string a, .string b, .string c, .string d, .string e, .string f] 37; have R5 := R4.next hal5; have V5 := V4.next hal5; have S5 := S4.next hal5; have hB5 := hB4.trans (hal5.mono hB4.size); have u0 := U5.c 0 rfl; have u1 := U5.c 1 rfl; have u2 := U5.c 2 rfl; have u3 := U5.c 3 rfl; have u4 := U5.c 4 rfl; have u5 := U5.c 5 rfl; have ul5 := U5.lt)
    | (go_at_call 50; (with_reducible refine (CW.out _).mono ?_); rintro e6 w6 ⟨rfl, hb6⟩; have U6 := U5.next hb6; have R6 := R5.next hb6; have V6 := V5.next hb6; have S6 := S5.next hb6; have hB6 := hB5.trans (hb6.mono hB5.size))
    | fail)
  obtain ⟨V, hV⟩ : ∃ V, w.heap.size = V := ⟨_, rfl⟩
  obtain ⟨R, hR⟩ : ∃ R, w.heap.size + 1 = R := ⟨_, rfl⟩
  obtain ⟨U, hU⟩ : ∃ U, w4.heap.size = U := ⟨_, rfl⟩
  have hsV : s0 ≠ V := by omega
  have hsR : s0 ≠ R := by omega
  have hsU : s0 ≠ U := by have := hB4.size; omega
  have hVB : w.heap.size = V := hV
  rw [hV] at V6
  rw [hR] at R6
  rw [hU] at U6
  rw [hR, hV, hU]
  have HB6 := Lib.hid hB6
  clear hV hR hU hal hal2 V2 R2 S2 hb3 hB3 R3 V3 S3 hb4 hB4 R4 V4 S4 hal5 U5 R5 V5 S5 hB5 hb6 hB6 S0 z0 z1 z2 z3 z4 z5 z6 z7 z8 z9 z10 z11 z12 z13 z14 z15 z16 z17 z18 z19 z20 z21 z22 r0 r1 r2 r3 r4 r5 r6 r7 u0 u1 u2 u3 u4 u5 rl3 ul5
  have r0 := R6.c 0 rfl; have r1 := R6.c 1 rfl; have r2 := R6.c 2 rfl; have r3 := R6.c 3 rfl; have r4 := R6.c 4 rfl; have r5 := R6.c 5 rfl; have r6 := R6.c 6 rfl; have r7 := R6.c 7 rfl
  have u0 := U6.c 0 rfl; have u1 := U6.c 1 rfl; have u2 := U6.c 2 rfl; have u3 := U6.c 3 rfl; have u4 := U6.c 4 rfl; have u5 := U6.c 5 rfl
  have rl6 := R6.lt
  have ul6 := U6.lt
  go_region_held3 (fun w' => w'.cell? ⟨R, 4, none⟩ = some (.int .i64 2) ∧ w'.cell? ⟨R, 3, none⟩ = some (.string og) ∧ w'.cell? ⟨U, 0, none⟩ = some (.string a) ∧ w'.cell? ⟨U, 1, none⟩ = some (.string b) ∧ w'.cell? ⟨U, 2, none⟩ = some (.string c) ∧ w'.cell? ⟨U, 3, none⟩ = some (.string d) ∧ w'.cell? ⟨U, 4, none⟩ = some (.string e) ∧ w'.cell? ⟨U, 5, none⟩ = some (.string f))
    (first | exact ru_mk R6 U6 (Below.refl _ w6).drew | exact ru_mk R6 U6 hb7 | go_keep)
    (first | (go_at_call 29; (with_reducible refine (CO.out _ HB6.out.drew).mono ?_); rintro e7 w7 ⟨rfl, hbb7⟩; have hb7 : Below w6.heap.size w6 w7 := (Below.refl w6.heap.size w6).drew.trans hbb7) | fail)
  have R7 := R6.next hb7
  have U7 := U6.next hb7
  have V7 := V6.next hb7
  have S7 := S6.next hb7
  have HB7 := Lib.hid (HB6.out.trans (hb7.mono HB6.out.size))
  clear r0 r1 r2 r3 r4 r5 r6 r7 u0 u1 u2 u3 u4 u5 rl6 ul6 R6 U6 V6 S6
  have r0 := R7.c 0 rfl; have r1 := R7.c 1 rfl; have r2 := R7.c 2 rfl; have r3 := R7.c 3 rfl; have r4 := R7.c 4 rfl; have r5 := R7.c 5 rfl; have r6 := R7.c 6 rfl; have r7 := R7.c 7 rfl
  have u0 := U7.c 0 rfl; have u1 := U7.c 1 rfl; have u2 := U7.c 2 rfl; have u3 := U7.c 3 rfl; have u4 := U7.c 4 rfl; have u5 := U7.c 5 rfl
  have z0 := S7.c 0 rfl; have z1 := S7.c 1 rfl; have z2 := S7.c 2 rfl; have z3 := S7.c 3 rfl; have z4 := S7.c 4 rfl; have z5 := S7.c 5 rfl; have z6 := S7.c 6 rfl; have z7 := S7.c 7 rfl; have z8 := S7.c 8 rfl; have z9 := S7.c 9 rfl; have z10 := S7.c 10 rfl; have z11 := S7.c 11 rfl; have z12 := S7.c 12 rfl; have z13 := S7.c 13 rfl; have z14 := S7.c 14 rfl; have z15 := S7.c 15 rfl; have z16 := S7.c 16 rfl; have z17 := S7.c 17 rfl; have z18 := S7.c 18 rfl; have z19 := S7.c 19 rfl; have z20 := S7.c 20 rfl; have z21 := S7.c 21 rfl; have z22 := S7.c 22 rfl; have y0 := S7.f 0 rfl; have y1 := S7.f 1 rfl; have y2 := S7.f 2 rfl; have y3 := S7.f 3 rfl; have y4 := S7.f 4 rfl; have y5 := S7.f 5 rfl; have y6 := S7.f 6 rfl; have y7 := S7.f 7 rfl; have y8 := S7.f 8 rfl; have y9 := S7.f 9 rfl; have y10 := S7.f 10 rfl; have y11 := S7.f 11 rfl; have y12 := S7.f 12 rfl; have y13 := S7.f 13 rfl; have y14 := S7.f 14 rfl; have y15 := S7.f 15 rfl; have y16 := S7.f 16 rfl; have y17 := S7.f 17 rfl; have y18 := S7.f 18 rfl; have y19 := S7.f 19 rfl; have y20 := S7.f 20 rfl; have y21 := S7.f 21 rfl; have y22 := S7.f 22 rfl
  have rl7 := R7.lt
  have ul7 := U7.lt
  have sl7 := S7.lt
  go_upto_region 9 with fail
  have X7 := (But2.refl w.heap.size s0 cb w).below HB7.out (Nat.le_refl _)
  have J7 := HJ.out.below HB7.out (Nat.le_refl _)
  have HXJ : Hid (CaIn w7 cb B (.slice none 0 0) [] ∧ But2 w.heap.size s0 cb w w7 ∧ AtL w7 V [.pointer (some ⟨jb, 0, none⟩), .pointer (some ⟨cb, 0, none⟩), .int .i64 now]) := Lib.hid ⟨J7, X7, V7⟩
  clear X7 J7
  go_region_with fail
  all_goals
    have cc := fun (W : World) (h : CaIn W cb B (.slice none 0 0) [] ∧ But2 w.heap.size s0 cb w W ∧ AtL W V [.pointer (some ⟨jb, 0, none⟩), .pointer (some ⟨cb, 0, none⟩), .int .i64 now]) (o : Nat) (u : Value) => (show CaIn (W.setCell ⟨s0, o, none⟩ u) cb B (.slice none 0 0) [] ∧ But2 w.heap.size s0 cb w (W.setCell ⟨s0, o, none⟩ u) ∧ AtL (W.setCell ⟨s0, o, none⟩ u) V [.pointer (some ⟨jb, 0, none⟩), .pointer (some ⟨cb, 0, none⟩), .int .i64 now] from ⟨ca_set h.1 ⟨s0, o, none⟩ u hsc (by simp [Value.ownBlock]) (fun y hy => by cases hy), h.2.1.setCell ⟨s0, o, none⟩ (Or.inl rfl) u, h.2.2.far ⟨s0, o, none⟩ u hsV⟩)
    have XJ := cc _ (cc _ (cc _ (cc _ (cc _ (cc _ (cc _ HXJ.out 9 (.string a)) 10 (.string b)) 11 (.string c)) 12 (.string d)) 13 (.string e)) 14 (.string f)) 15 (.string ⟨#[71, 69, 84]⟩)
    have S8 : AtL _ s0 (fsC tk ⟨#[71, 69, 84]⟩ ur og 2 (.slice x 0 kk) bo false 0 a b c d e f ⟨#[71, 69, 84]⟩ 0 false false 0 (.slice none 0 0) ⟨#[]⟩ 0) := ((((((S7.set 9 (.string a)).set 10 (.string b)).set 11 (.string c)).set 12 (.string d)).set 13 (.string e)).set 14 (.string f)).set 15 (.string ⟨#[71, 69, 84]⟩)
    obtain ⟨w8, hw8⟩ : ∃ w8 : World, ((((((w7.setCell ⟨s0, 9, none⟩ (.string a)).setCell ⟨s0, 10, none⟩ (.string b)).setCell ⟨s0, 11, none⟩ (.string c)).setCell ⟨s0, 12, none⟩ (.string d)).setCell ⟨s0, 13, none⟩ (.string e)).setCell ⟨s0, 14, none⟩ (.string f)).setCell ⟨s0, 15, none⟩ (.string ⟨#[71, 69, 84]⟩) = w8 := ⟨_, rfl⟩
    rw [hw8] at XJ S8
    rw [hw8]
    obtain ⟨J8, X8, V8⟩ := XJ
    have L8 := (X8.low hBw hBs hBc).drew
    have J8d := J8.below ((Below.refl w8.heap.size w8).drew) (Nat.le_refl _)
    have X8d : But2 w.heap.size s0 cb w w8.drew := X8.below ((Below.refl w8.heap.size w8).drew) X8.size
    have S8d := S8.drew
    clear hw8 HXJ cc r0 r1 r2 r3 r4 r5 r6 r7 u0 u1 u2 u3 u4 u5 rl7 ul7 sl7 z0 z1 z2 z3 z4 z5 z6 z7 z8 z9 z10 z11 z12 z13 z14 z15 z16 z17 z18 z19 z20 z21 z22 y0 y1 y2 y3 y4 y5 y6 y7 y8 y9 y10 y11 y12 y13 y14 y15 y16 y17 y18 y19 y20 y21 y22 S7 V7 R7 U7 HB7 hb7
    have v0 := V8.c 0 rfl; have v1 := V8.c 1 rfl; have v2 := V8.c 2 rfl
    have vl8 := V8.lt
    go_wp2_with (first
      | (go_at_call 116; (with_reducible refine (CS.out w8.drew L8 S8d J8d).mono ?_); rintro e9 w9 ⟨K, rfl, K9, S9, X9⟩)
      | fail)
    go_ret
    exact ⟨K, rfl, K9, S9, X8d.trans X9 X8d.size⟩
end Go.Proofs.YtjdhaacmlpegoaaGreatDoor
