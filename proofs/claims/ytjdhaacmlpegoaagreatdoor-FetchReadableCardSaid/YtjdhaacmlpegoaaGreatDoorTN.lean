/- Fetch: Head (the laws' example). -/
import Derived.Test.YtjdhaacmlpegoaaGreatDoorTJ
namespace Go.Proofs.YtjdhaacmlpegoaaGreatDoor
set_option linter.unusedVariables false
set_option linter.unusedSimpArgs false
open Go.RowKit

/-- what take and Head answer in the example -/
def TakeQ (w : World) (s0 : Nat) (T : ByteArray) (x : Ending) (w' : World) : Prop := ∃ K : Nat, x = .returned (.slice (some ⟨K, 0, none⟩) 1 1) ∧ AtL w' K [.int .i64 2, .string ⟨#[]⟩, .string T, .slice none 0 0, .string ⟨#[]⟩, .int .i64 200, .int .i64 0] ∧ BelowBut w.heap.size s0 w w'
set_option maxRecDepth 20000 in
set_option maxHeartbeats 2000000 in
theorem take_fit (s0 jb cb : Nat) (tk : Int) (ur og : ByteArray) (x : Option Addr) (kk : Nat) (bo a b c d e f : ByteArray) (now : Int) (w : World) (hM : MaxAt w) (B : Nat) (hG : 0 < B) (hBs : B ≤ s0) (S0 : AtL w s0 (fsC tk ⟨#[71, 69, 84]⟩ ur og 2 (.slice x 0 kk) bo false 1 a b c d e f ⟨#[71, 69, 84]⟩ 0 false false 0 (.slice none 0 0) ⟨#[]⟩ 0)) (ha : a.size ≤ 40000) (hb : b.size ≤ 40000) (hc : c.size ≤ 40000) (hdd : d.size ≤ 40000) (he : e.size ≤ 40000) (hf : f.size ≤ 40000) (hO : og.data.toList = orgL (a.data.toList, b.data.toList, c.data.toList, d.data.toList, e.data.toList, f.data.toList)) (T : ByteArray) (hT : T.data.toList = formatL (a.data.toList, b.data.toList, c.data.toList, d.data.toList, e.data.toList, f.data.toList)) :
    Calls Tryz.prog 78 #[.pointer (some ⟨s0, 0, none⟩), .int .i64 200, .slice none 0 0, .agg #[.pointer (some ⟨jb, 0, none⟩), .pointer (some ⟨cb, 0, none⟩), .int .i64 now], .bool true] w (TakeQ w s0 T) := by
  have hsw := S0.lt
  have hal := (Below.refl _ w).alloc (Nat.le_refl _) (.cells [.pointer (some ⟨jb, 0, none⟩), .pointer (some ⟨cb, 0, none⟩), .int .i64 now].toArray 83)
  have S1 := S0.next hal
  have X1 := (BelowBut.refl w.heap.size s0 w).below hal (Nat.le_refl _)
  have CH := Lib.hid (fun (w' : World) => hdr_at [] (.slice none 0 0) ⟨#[76, 111, 99, 97, 116, 105, 111, 110]⟩ w' (slk0 _) ⟨Nat.zero_le _, fun h hh => by cases hh⟩ (by decide) ⟨#[]⟩ false rfl rfl)
  have CR := Lib.hid (fun (w' : World) (hM' : MaxAt w') (st : Int) (wh : Value) (hi : Bool) S' => readable_fit s0 tk ur og x kk bo a b c d e f hi st wh w' hM' S' ha hb hc hdd he hf hO)
  have CCl := Lib.hid (fun (w' : World) => clo_is [] (.slice none 0 0) w' (slk0 _) (Nat.zero_le _))
  have CWo := Lib.hid (fun (w' : World) nv => without_nil none 0 nv w')
  have CFo := Lib.hid (fun (w' : World) => format_is4 a b c d e f T w' (by omega) (by omega) (by omega) (by omega) (by omega) (by omega) hT)
  have hM1 := hM.below hal (Nat.le_refl _)
  have z0 := S0.c 0 rfl; have z1 := S0.c 1 rfl; have z2 := S0.c 2 rfl; have z3 := S0.c 3 rfl; have z4 := S0.c 4 rfl; have z5 := S0.c 5 rfl; have z6 := S0.c 6 rfl; have z7 := S0.c 7 rfl; have z8 := S0.c 8 rfl; have z9 := S0.c 9 rfl; have z10 := S0.c 10 rfl; have z11 := S0.c 11 rfl; have z12 := S0.c 12 rfl; have z13 := S0.c 13 rfl; have z14 := S0.c 14 rfl; have z15 := S0.c 15 rfl; have z16 := S0.c 16 rfl; have z17 := S0.c 17 rfl; have z18 := S0.c 18 rfl; have z19 := S0.c 19 rfl; have z20 := S0.c 20 rfl; have z21 := S0.c 21 rfl; have z22 := S0.c 22 rfl; have y0 := S0.f 0 rfl; have y1 := S0.f 1 rfl; have y2 := S0.f 2 rfl; have y3 := S0.f 3 rfl; have y4 := S0.f 4 rfl; have y5 := S0.f 5 rfl; have y6 := S0.f 6 rfl; have y7 := S0.f 7 rfl; have y8 := S0.f 8 rfl; have y9 := S0.f 9 rfl; have y10 := S0.f 10 rfl; have y11 := S0.f 11 rfl; have y12 := S0.f 12 rfl; have y13 := S0.f 13 rfl; have y14 := S0.f 14 rfl; have y15 := S0.f 15 rfl; have y16 := S0.f 16 rfl; have y17 := S0.f 17 rfl; have y18 := S0.f 18 rfl; have y19 := S0.f 19 rfl; have y20 := S0.f 20 rfl; have y21 := S0.f 21 rfl; have y22 := S0.f 22 rfl
  clear hO hT
  have hBw : B ≤ w.heap.size := by omega
  have hls := hal.size
  go_enter Tryz.func78, Tryz.ntmps78
  go_upto_region 5 with (first
    | (go_at_call 15; refine (CH.out _).mono ?_; rintro e2 w2 ⟨rfl, hb2⟩; have S2 := S1.next hb2; clear z0 z1 z2 z3 z4 z5 z6 z7 z8 z9 z10 z11 z12 z13 z14 z15 z16 z17 z18 z19 z20 z21 z22 y0 y1 y2 y3 y4 y5 y6 y7 y8 y9 y10 y11 y12 y13 y14 y15 y16 y17 y18 y19 y20 y21 y22; have z0 := S2.c 0 rfl; have z1 := S2.c 1 rfl; have z2 := S2.c 2 rfl; have z3 := S2.c 3 rfl; have z4 := S2.c 4 rfl; have z5 := S2.c 5 rfl; have z6 := S2.c 6 rfl; have z7 := S2.c 7 rfl; have z8 := S2.c 8 rfl; have z9 := S2.c 9 rfl; have z10 := S2.c 10 rfl; have z11 := S2.c 11 rfl; have z12 := S2.c 12 rfl; have z13 := S2.c 13 rfl; have z14 := S2.c 14 rfl; have z15 := S2.c 15 rfl; have z16 := S2.c 16 rfl; have z17 := S2.c 17 rfl; have z18 := S2.c 18 rfl; have z19 := S2.c 19 rfl; have z20 := S2.c 20 rfl; have z21 := S2.c 21 rfl; have z22 := S2.c 22 rfl; have y0 := S2.f 0 rfl; have y1 := S2.f 1 rfl; have y2 := S2.f 2 rfl; have y3 := S2.f 3 rfl; have y4 := S2.f 4 rfl; have y5 := S2.f 5 rfl; have y6 := S2.f 6 rfl; have y7 := S2.f 7 rfl; have y8 := S2.f 8 rfl; have y9 := S2.f 9 rfl; have y10 := S2.f 10 rfl; have y11 := S2.f 11 rfl; have y12 := S2.f 12 rfl; have y13 := S2.f 13 rfl; have y14 := S2.f 14 rfl; have y15 := S2.f 15 rfl; have y16 := S2.f 16 rfl; have y17 := S2.f 17 rfl; have y18 := S2.f 18 rfl; have y19 := S2.f 19 rfl; have y20 := S2.f 20 rfl; have y21 := S2.f 21 rfl; have y22 := S2.f 22 rfl; have zl2 := S2.lt)
    | fail)
  have X2 := X1.below hb2 hls
  have S3 : AtL _ s0 (fsC tk ⟨#[71, 69, 84]⟩ ur og 2 (.slice x 0 kk) bo false 1 a b c d e f ⟨#[71, 69, 84]⟩ 0 false false 0 (.slice none 0 0) ⟨#[]⟩ 0) := S2.set 18 (.bool false)
  have X3 := X2.setCell ⟨s0, 18, none⟩ (Or.inl rfl) (.bool false)
  obtain ⟨w3, hw3⟩ : ∃ w3 : World, w2.setCell ⟨s0, 18, none⟩ (.bool false) = w3 := ⟨_, rfl⟩
  rw [hw3] at S3 X3
  rw [hw3]
  have M3 : MaxAt w3 := maxat_low hM (BelowBut.to_below X3 (Below.refl B w) hBw hBs) hG
  have HX3 := Lib.hid X3
  clear hw3 X1 X2 X3 S1 S2 hb2 zl2
  clear z0 z1 z2 z3 z4 z5 z6 z7 z8 z9 z10 z11 z12 z13 z14 z15 z16 z17 z18 z19 z20 z21 z22 y0 y1 y2 y3 y4 y5 y6 y7 y8 y9 y10 y11 y12 y13 y14 y15 y16 y17 y18 y19 y20 y21 y22
  have z0 := S3.c 0 rfl; have z1 := S3.c 1 rfl; have z2 := S3.c 2 rfl; have z3 := S3.c 3 rfl; have z4 := S3.c 4 rfl; have z5 := S3.c 5 rfl; have z6 := S3.c 6 rfl; have z7 := S3.c 7 rfl; have z8 := S3.c 8 rfl; have z9 := S3.c 9 rfl; have z10 := S3.c 10 rfl; have z11 := S3.c 11 rfl; have z12 := S3.c 12 rfl; have z13 := S3.c 13 rfl; have z14 := S3.c 14 rfl; have z15 := S3.c 15 rfl; have z16 := S3.c 16 rfl; have z17 := S3.c 17 rfl; have z18 := S3.c 18 rfl; have z19 := S3.c 19 rfl; have z20 := S3.c 20 rfl; have z21 := S3.c 21 rfl; have z22 := S3.c 22 rfl; have y0 := S3.f 0 rfl; have y1 := S3.f 1 rfl; have y2 := S3.f 2 rfl; have y3 := S3.f 3 rfl; have y4 := S3.f 4 rfl; have y5 := S3.f 5 rfl; have y6 := S3.f 6 rfl; have y7 := S3.f 7 rfl; have y8 := S3.f 8 rfl; have y9 := S3.f 9 rfl; have y10 := S3.f 10 rfl; have y11 := S3.f 11 rfl; have y12 := S3.f 12 rfl; have y13 := S3.f 13 rfl; have y14 := S3.f 14 rfl; have y15 := S3.f 15 rfl; have y16 := S3.f 16 rfl; have y17 := S3.f 17 rfl; have y18 := S3.f 18 rfl; have y19 := S3.f 19 rfl; have y20 := S3.f 20 rfl; have y21 := S3.f 21 rfl; have y22 := S3.f 22 rfl
  have zl3 := S3.lt
  go_upto_region 9 with (first
    | (go_at_call 129; (with_reducible refine (CR.out _ M3 _ _ _ S3).mono ?_); rintro e4 w4 ⟨rfl, hb4⟩; have S4 := S3.next hb4)
    | (go_at_call 69; (with_reducible refine (CCl.out _).mono ?_); rintro e5 w5 hq5; obtain ⟨ca, cc, rfl, hs5, hb5, hn5⟩ := cloq_open hq5; have S5 := S4.next hb5; clear z0 z1 z2 z3 z4 z5 z6 z7 z8 z9 z10 z11 z12 z13 z14 z15 z16 z17 z18 z19 z20 z21 z22 y0 y1 y2 y3 y4 y5 y6 y7 y8 y9 y10 y11 y12 y13 y14 y15 y16 y17 y18 y19 y20 y21 y22; have z0 := S5.c 0 rfl; have z1 := S5.c 1 rfl; have z2 := S5.c 2 rfl; have z3 := S5.c 3 rfl; have z4 := S5.c 4 rfl; have z5 := S5.c 5 rfl; have z6 := S5.c 6 rfl; have z7 := S5.c 7 rfl; have z8 := S5.c 8 rfl; have z9 := S5.c 9 rfl; have z10 := S5.c 10 rfl; have z11 := S5.c 11 rfl; have z12 := S5.c 12 rfl; have z13 := S5.c 13 rfl; have z14 := S5.c 14 rfl; have z15 := S5.c 15 rfl; have z16 := S5.c 16 rfl; have z17 := S5.c 17 rfl; have z18 := S5.c 18 rfl; have z19 := S5.c 19 rfl; have z20 := S5.c 20 rfl; have z21 := S5.c 21 rfl; have z22 := S5.c 22 rfl; have y0 := S5.f 0 rfl; have y1 := S5.f 1 rfl; have y2 := S5.f 2 rfl; have y3 := S5.f 3 rfl; have y4 := S5.f 4 rfl; have y5 := S5.f 5 rfl; have y6 := S5.f 6 rfl; have y7 := S5.f 7 rfl; have y8 := S5.f 8 rfl; have y9 := S5.f 9 rfl; have y10 := S5.f 10 rfl; have y11 := S5.f 11 rfl; have y12 := S5.f 12 rfl; have y13 := S5.f 13 rfl; have y14 := S5.f 14 rfl; have y15 := S5.f 15 rfl; have y16 := S5.f 16 rfl; have y17 := S5.f 17 rfl; have y18 := S5.f 18 rfl; have y19 := S5.f 19 rfl; have y20 := S5.f 20 rfl; have y21 := S5.f 21 rfl; have y22 := S5.f 22 rfl; have zl5 := S5.lt)
    | fail)
  have X5 := (HX3.out.below hb4 HX3.out.size).below hb5 (by have := HX3.out.size; have := hb4.size; omega)
  have S6 : AtL _ s0 (fsC tk ⟨#[71, 69, 84]⟩ ur og 2 (.slice x 0 kk) bo false 2 a b c d e f ⟨#[71, 69, 84]⟩ 0 false false 200 (.slice ca 0 cc) ⟨#[]⟩ 0) := (((S5.set 19 (.int .i64 200)).set 20 (.slice ca 0 cc)).set 21 (.string ⟨#[]⟩)).set 8 (.int .i64 2)
  have X6 := (((X5.setCell ⟨s0, 19, none⟩ (Or.inl rfl) (.int .i64 200)).setCell ⟨s0, 20, none⟩ (Or.inl rfl) (.slice ca 0 cc)).setCell ⟨s0, 21, none⟩ (Or.inl rfl) (.string ⟨#[]⟩)).setCell ⟨s0, 8, none⟩ (Or.inl rfl) (.int .i64 2)
  obtain ⟨w6, hw6⟩ : ∃ w6 : World, (((w5.setCell ⟨s0, 19, none⟩ (.int .i64 200)).setCell ⟨s0, 20, none⟩ (.slice ca 0 cc)).setCell ⟨s0, 21, none⟩ (.string ⟨#[]⟩)).setCell ⟨s0, 8, none⟩ (.int .i64 2) = w6 := ⟨_, rfl⟩
  rw [hw6] at S6 X6
  rw [show (((w5.setCell ⟨s0, 19, none⟩ (.int .i64 200)).setCell ⟨s0, 20, none⟩ (.slice ca 0 cc)).setCell ⟨s0, 21, none⟩ (.string ⟨#[]⟩)).setCell ⟨s0, 8, none⟩ (.int .i64 2) = w6 from hw6]
  have HX6 := Lib.hid X6
  clear hw6 X5 X6 S3 S4 S5 zl3 zl5 hb4 hb5 hs5 hn5
  clear z0 z1 z2 z3 z4 z5 z6 z7 z8 z9 z10 z11 z12 z13 z14 z15 z16 z17 z18 z19 z20 z21 z22 y0 y1 y2 y3 y4 y5 y6 y7 y8 y9 y10 y11 y12 y13 y14 y15 y16 y17 y18 y19 y20 y21 y22
  have z0 := S6.c 0 rfl; have z1 := S6.c 1 rfl; have z2 := S6.c 2 rfl; have z3 := S6.c 3 rfl; have z4 := S6.c 4 rfl; have z5 := S6.c 5 rfl; have z6 := S6.c 6 rfl; have z7 := S6.c 7 rfl; have z8 := S6.c 8 rfl; have z9 := S6.c 9 rfl; have z10 := S6.c 10 rfl; have z11 := S6.c 11 rfl; have z12 := S6.c 12 rfl; have z13 := S6.c 13 rfl; have z14 := S6.c 14 rfl; have z15 := S6.c 15 rfl; have z16 := S6.c 16 rfl; have z17 := S6.c 17 rfl; have z18 := S6.c 18 rfl; have z19 := S6.c 19 rfl; have z20 := S6.c 20 rfl; have z21 := S6.c 21 rfl; have z22 := S6.c 22 rfl
  have zl6 := S6.lt
  go_upto_region 11 with fail
  go_region_held3 (fun w' => w'.cell? ⟨s0, 3, none⟩ = some (.string og) ∧ w'.cell? ⟨s0, 9, none⟩ = some (.string a) ∧ w'.cell? ⟨s0, 10, none⟩ = some (.string b) ∧ w'.cell? ⟨s0, 11, none⟩ = some (.string c) ∧ w'.cell? ⟨s0, 12, none⟩ = some (.string d) ∧ w'.cell? ⟨s0, 13, none⟩ = some (.string e) ∧ w'.cell? ⟨s0, 14, none⟩ = some (.string f))
    (first | exact s7_mk S6 (Below.refl _ w6).drew | exact s7_mk S6 ((Below.refl w6.heap.size w6).alloc (Nat.le_refl _) _).drew | exact s7_mk S6 h68 | exact s7_mk S6 (h68.alloc h68.size _) | go_keep)
    (first
      | (go_at_call 125; refine (CWo.out _ _).mono ?_; rintro e7 w7 ⟨rfl, rfl⟩)
      | (go_at_call 104; refine (CFo.out _).mono ?_; rintro e8 w8 ⟨rfl, hb8⟩; have h68 : Below w6.heap.size w6 w8 := ((Below.refl w6.heap.size w6).alloc (Nat.le_refl _) (.cells #[.string ⟨#[83, 101, 116, 45, 67, 111, 111, 107, 105, 101]⟩] 9)).drew.trans (hb8.mono (by simp)))
      | fail)
  all_goals
    go_wp2_with fail
    go_ret
    exact ⟨w8.heap.size, rfl, AtL.new w8 [.int .i64 2, .string ⟨#[]⟩, .string T, .slice none 0 0, .string ⟨#[]⟩, .int .i64 200, .int .i64 0] 48, HX6.out.below (h68.alloc h68.size _) HX6.out.size⟩
end Go.Proofs.YtjdhaacmlpegoaaGreatDoor
