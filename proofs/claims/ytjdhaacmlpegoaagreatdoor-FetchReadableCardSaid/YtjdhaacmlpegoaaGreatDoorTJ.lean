/- Fetch: the head of an answer (the laws' example). -/
import Derived.Test.YtjdhaacmlpegoaaGreatDoorTI
import Derived.Test.YtjdhaacmlpegoaaGreatDoorTB
namespace Go.Proofs.YtjdhaacmlpegoaaGreatDoor
set_option linter.unusedVariables false
set_option linter.unusedSimpArgs false
open Go.RowKit

theorem rs_mk {W w' : World} {R s : Nat} {r0 r1 r2 r3 r4 r5 r6 r7 : Value} {tk : Int} {me ur og : ByteArray} {mo : Int} {vh : Value} {bo : ByteArray} {ck : Bool} {ph : Int} {a b c d e f sm : ByteArray} {ho : Int} {ch hi : Bool} {st : Int} {wh : Value} {sb : ByteArray} {er : Int} (h : AtL W R [r0, r1, r2, r3, r4, r5, r6, r7]) (h2 : AtL W s (fsC tk me ur og mo vh bo ck ph a b c d e f sm ho ch hi st wh sb er)) (hb : Below W.heap.size W w') : w'.cell? ⟨R, 4, none⟩ = some r4 ∧ w'.cell? ⟨R, 3, none⟩ = some r3 ∧ w'.cell? ⟨R, 7, none⟩ = some r7 ∧ w'.cell? ⟨s, 9, none⟩ = some (.string a) ∧ w'.cell? ⟨s, 10, none⟩ = some (.string b) ∧ w'.cell? ⟨s, 11, none⟩ = some (.string c) ∧ w'.cell? ⟨s, 12, none⟩ = some (.string d) ∧ w'.cell? ⟨s, 13, none⟩ = some (.string e) ∧ w'.cell? ⟨s, 14, none⟩ = some (.string f) :=
  have h' := h.next hb
  have k' := h2.next hb
  ⟨h'.c 4 rfl, h'.c 3 rfl, h'.c 7 rfl, k'.c 9 rfl, k'.c 10 rfl, k'.c 11 rfl, k'.c 12 rfl, k'.c 13 rfl, k'.c 14 rfl⟩
set_option maxRecDepth 20000 in
set_option maxHeartbeats 1000000 in
theorem readable_fit (s0 : Nat) (tk : Int) (ur og : ByteArray) (x : Option Addr) (kk : Nat) (bo : ByteArray) (a b c d e f : ByteArray) (hi : Bool) (st : Int) (wh : Value) (w : World) (hM : MaxAt w) (S0 : AtL w s0 (fsC tk ⟨#[71, 69, 84]⟩ ur og 2 (.slice x 0 kk) bo false 1 a b c d e f ⟨#[71, 69, 84]⟩ 0 false hi st wh ⟨#[]⟩ 0)) (ha : a.size ≤ 40000) (hb : b.size ≤ 40000) (hc : c.size ≤ 40000) (hdd : d.size ≤ 40000) (he : e.size ≤ 40000) (hf : f.size ≤ 40000) (hO : og.data.toList = orgL (a.data.toList, b.data.toList, c.data.toList, d.data.toList, e.data.toList, f.data.toList)) :
    Calls Tryz.prog 129 #[.pointer (some ⟨s0, 0, none⟩), .slice none 0 0] w fun e w' => e = .returned (.bool true) ∧ Below w.heap.size w w' := by
  have hal := (Below.refl _ w).alloc (Nat.le_refl _) (.cells [.int .i64 tk, .string ⟨#[71, 69, 84]⟩, .string ur, .string og, .int .i64 2, .slice x 0 kk, .string bo, .bool false].toArray 30)
  have R1 := AtL.new w [.int .i64 tk, .string ⟨#[71, 69, 84]⟩, .string ur, .string og, .int .i64 2, .slice x 0 kk, .string bo, .bool false] 30
  have S1 := S0.next hal
  have CR := Lib.hid (fun (w' : World) (hb' : Below w.heap.size w w') => readable_is og 2 false a b c d e f (.slice none 0 0) [] w' (hM.below hb' (Nat.le_refl _)) (slk0 _) ⟨Nat.zero_le _, fun h hh => by cases hh⟩ ha hb hc hdd he hf og hO true (by unfold readB; simp))
  have z0 := S0.c 0 rfl; have z1 := S0.c 1 rfl; have z2 := S0.c 2 rfl; have z3 := S0.c 3 rfl; have z4 := S0.c 4 rfl; have z5 := S0.c 5 rfl; have z6 := S0.c 6 rfl; have z7 := S0.c 7 rfl; have z8 := S0.c 8 rfl; have z9 := S0.c 9 rfl; have z10 := S0.c 10 rfl; have z11 := S0.c 11 rfl; have z12 := S0.c 12 rfl; have z13 := S0.c 13 rfl; have z14 := S0.c 14 rfl; have z15 := S0.c 15 rfl; have z16 := S0.c 16 rfl; have z17 := S0.c 17 rfl; have z18 := S0.c 18 rfl; have z19 := S0.c 19 rfl; have z20 := S0.c 20 rfl; have z21 := S0.c 21 rfl; have z22 := S0.c 22 rfl
  have zl := S0.lt
  clear hO hM
  go_enter Tryz.func129, Tryz.ntmps129
  go_upto_region 2 with fail
  obtain ⟨w1, hw1⟩ : ∃ w1 : World, w.alloc (.cells [.int .i64 tk, .string ⟨#[71, 69, 84]⟩, .string ur, .string og, .int .i64 2, .slice x 0 kk, .string bo, .bool false].toArray 30) = w1 := ⟨_, rfl⟩
  obtain ⟨R, hR⟩ : ∃ R, w.heap.size = R := ⟨_, rfl⟩
  rw [hw1] at hal R1 S1
  rw [hR] at R1
  rw [show w.alloc (.cells #[.int .i64 tk, .string ⟨#[71, 69, 84]⟩, .string ur, .string og, .int .i64 2, .slice x 0 kk, .string bo, .bool false] 30) = w1 from hw1, hR]
  have HAL : Hid (Below w.heap.size w w1) := Lib.hid hal
  clear hw1 hR hal
  have r0 := R1.c 0 rfl; have r1 := R1.c 1 rfl; have r2 := R1.c 2 rfl; have r3 := R1.c 3 rfl; have r4 := R1.c 4 rfl; have r5 := R1.c 5 rfl; have r6 := R1.c 6 rfl; have r7 := R1.c 7 rfl
  clear z0 z1 z2 z3 z4 z5 z6 z7 z8 z9 z10 z11 z12 z13 z14 z15 z16 z17 z18 z19 z20 z21 z22
  have z0 := S1.c 0 rfl; have z1 := S1.c 1 rfl; have z2 := S1.c 2 rfl; have z3 := S1.c 3 rfl; have z4 := S1.c 4 rfl; have z5 := S1.c 5 rfl; have z6 := S1.c 6 rfl; have z7 := S1.c 7 rfl; have z8 := S1.c 8 rfl; have z9 := S1.c 9 rfl; have z10 := S1.c 10 rfl; have z11 := S1.c 11 rfl; have z12 := S1.c 12 rfl; have z13 := S1.c 13 rfl; have z14 := S1.c 14 rfl; have z15 := S1.c 15 rfl; have z16 := S1.c 16 rfl; have z17 := S1.c 17 rfl; have z18 := S1.c 18 rfl; have z19 := S1.c 19 rfl; have z20 := S1.c 20 rfl; have z21 := S1.c 21 rfl; have z22 := S1.c 22 rfl
  have rl := R1.lt
  have sl := S1.lt
  go_region_held3 (fun w' => w'.cell? ⟨R, 4, none⟩ = some (.int .i64 2) ∧ w'.cell? ⟨R, 3, none⟩ = some (.string og) ∧ w'.cell? ⟨R, 7, none⟩ = some (.bool false) ∧ w'.cell? ⟨s0, 9, none⟩ = some (.string a) ∧ w'.cell? ⟨s0, 10, none⟩ = some (.string b) ∧ w'.cell? ⟨s0, 11, none⟩ = some (.string c) ∧ w'.cell? ⟨s0, 12, none⟩ = some (.string d) ∧ w'.cell? ⟨s0, 13, none⟩ = some (.string e) ∧ w'.cell? ⟨s0, 14, none⟩ = some (.string f))
    (first | exact rs_mk R1 S1 (Below.refl _ w1).drew | exact rs_mk R1 S1 hb2 | go_keep)
    (first | (go_at_call 24; (with_reducible refine (CR.out _ HAL.out.drew).mono ?_); rintro e2 w2 ⟨rfl, hbb2⟩; have hb2 : Below w1.heap.size w1 w2 := (Below.refl w1.heap.size w1).drew.trans hbb2) | fail)
  go_wp2_with fail
  go_ret
  exact ⟨rfl, HAL.out.trans (hb2.mono HAL.out.size)⟩
end Go.Proofs.YtjdhaacmlpegoaaGreatDoor
