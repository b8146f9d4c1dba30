/- Fetch: the laws' example, whole. -/
import Derived.Test.YtjdhaacmlpegoaaGreatDoorTO
namespace Go.Proofs.YtjdhaacmlpegoaaGreatDoor
set_option linter.unusedVariables false
set_option linter.unusedSimpArgs false
open Go.RowKit

theorem ex_parse : parseL (⟨#[104, 116, 116, 112, 58, 47, 47, 97, 46, 99, 111, 109, 47, 120]⟩ : ByteArray).data.toList = some ((⟨#[104, 116, 116, 112]⟩ : ByteArray).data.toList, (⟨#[97, 46, 99, 111, 109]⟩ : ByteArray).data.toList, (⟨#[]⟩ : ByteArray).data.toList, (⟨#[47, 120]⟩ : ByteArray).data.toList, (⟨#[]⟩ : ByteArray).data.toList, (⟨#[]⟩ : ByteArray).data.toList) := by kernel_rfl
theorem ex_format : (⟨#[104, 116, 116, 112, 58, 47, 47, 97, 46, 99, 111, 109, 47, 120]⟩ : ByteArray).data.toList = formatL ((⟨#[104, 116, 116, 112]⟩ : ByteArray).data.toList, (⟨#[97, 46, 99, 111, 109]⟩ : ByteArray).data.toList, (⟨#[]⟩ : ByteArray).data.toList, (⟨#[47, 120]⟩ : ByteArray).data.toList, (⟨#[]⟩ : ByteArray).data.toList, (⟨#[]⟩ : ByteArray).data.toList) := by decide +kernel
theorem ex_org : (⟨#[104, 116, 116, 112, 58, 47, 47, 97, 46, 99, 111, 109]⟩ : ByteArray).data.toList = orgL ((⟨#[104, 116, 116, 112]⟩ : ByteArray).data.toList, (⟨#[97, 46, 99, 111, 109]⟩ : ByteArray).data.toList, (⟨#[]⟩ : ByteArray).data.toList, (⟨#[47, 120]⟩ : ByteArray).data.toList, (⟨#[]⟩ : ByteArray).data.toList, (⟨#[]⟩ : ByteArray).data.toList) := by decide +kernel
theorem beginq_open {w : World} {cb : Nat} {tk : Int} {ur og bo a b c d e f T : ByteArray} {x : Ending} {w' : World} (h : BeginQ w cb tk ur og bo a b c d e f T x w') : ∃ (K : Nat) (vx : Option Addr) (vk : Nat) (L : List Value), L = [.int .i64 tk, .string ⟨#[71, 69, 84]⟩, .string ur, .string og, .int .i64 2, .slice vx 0 vk, .string bo, .bool false, .int .i64 1, .string a, .string b, .string c, .string d, .string e, .string f, .string ⟨#[71, 69, 84]⟩, .int .i64 0, .bool false, .bool false, .int .i64 0, .slice none 0 0, .string ⟨#[]⟩, .int .i64 0] ∧ x = .returned (.tuple #[.agg L.toArray, .slice (some ⟨K, 0, none⟩) 1 1]) ∧ AtL w' K [.int .i64 1, .string ⟨#[71, 69, 84]⟩, .string T, .slice none 0 0, .string bo, .int .i64 0, .int .i64 0] ∧ But2 w.heap.size cb cb w w' := by
  obtain ⟨K, vx, vk, h1, h2, h3⟩ := h
  exact ⟨K, vx, vk, _, rfl, h1, h2, h3⟩
set_option maxRecDepth 20000 in
set_option maxHeartbeats 2000000 in
theorem fit_is44 (w : World) (hM : MaxAt w) : Calls Tryz.prog 11 #[] w fun e w' => e = .returned (.bool true) ∧ Below w.heap.size w w' := by
  have hal1 := (Below.refl _ w).alloc (Nat.le_refl _) (.cells [.slice none 0 0, .int .i64 0].toArray 24)
  have hal2 := hal1.alloc (by simp) (.cells [.slice none 0 0].toArray 79)
  have hal3 := hal2.alloc (by simp; omega) (.cells [.pointer (some ⟨w.heap.size, 0, none⟩), .pointer (some ⟨w.heap.size + 1, 0, none⟩), .int .i64 0].toArray 83)
  have C3 := (AtL.new (w.alloc (.cells [.slice none 0 0, .int .i64 0].toArray 24)) [.slice none 0 0] 79).alloc (.cells [.pointer (some ⟨w.heap.size, 0, none⟩), .pointer (some ⟨w.heap.size + 1, 0, none⟩), .int .i64 0].toArray 83)
  have E3 := AtL.new ((w.alloc (.cells [.slice none 0 0, .int .i64 0].toArray 24)).alloc (.cells [.slice none 0 0].toArray 79)) [.pointer (some ⟨w.heap.size, 0, none⟩), .pointer (some ⟨w.heap.size + 1, 0, none⟩), .int .i64 0] 83
  rw [show (w.alloc (.cells [.slice none 0 0, .int .i64 0].toArray 24)).heap.size = w.heap.size + 1 by simp] at C3
  rw [show ((w.alloc (.cells [.slice none 0 0, .int .i64 0].toArray 24)).alloc (.cells [.slice none 0 0].toArray 79)).heap.size = w.heap.size + 1 + 1 by simp] at E3
  have J3 : CaIn _ (w.heap.size + 1) w.heap.size (.slice none 0 0) [] := ⟨C3, World.ownsRow_nil _ _ _ _, by simp [Value.ownBlock], hal3.size, (fun x hx => by cases hx), (fun x hx => by cases hx)⟩
  have CB := Lib.hid (Begin_fit w.heap.size (w.heap.size + 1) w.heap.size 0 ⟨#[104, 116, 116, 112, 58, 47, 47, 97, 46, 99, 111, 109, 47, 120]⟩ ⟨#[104, 116, 116, 112, 58, 47, 47, 97, 46, 99, 111, 109]⟩ ⟨#[]⟩ ⟨#[104, 116, 116, 112]⟩ ⟨#[97, 46, 99, 111, 109]⟩ ⟨#[]⟩ ⟨#[47, 120]⟩ ⟨#[]⟩ ⟨#[]⟩ 0 _ (hM.below hal3 (Nat.le_refl _)) hM.lt (Nat.le_succ _) J3 (by decide) (by decide) (by decide) (by decide) (by decide) (by decide) ex_org ⟨#[104, 116, 116, 112, 58, 47, 47, 97, 46, 99, 111, 109, 47, 120]⟩ ex_format (by decide) ex_parse (by decide +kernel))
  have HM := Lib.hid hM
  have HG := Lib.hid hM.lt
  clear hM J3 C3
  have q0 := E3.c 0 rfl; have q1 := E3.c 1 rfl; have q2 := E3.c 2 rfl
  have el3 := E3.lt
  go_enter Tryz.func11, Tryz.ntmps11
  go_upto_region 4 with fail
  go_upto_region 5 with (first
    | (go_at_call 30; refine CB.out.mono ?_; rintro e4 w4 hq4; obtain ⟨K, vx, vk, L, hL, rfl, K4, X4⟩ := beginq_open hq4; have HL : Hid (L.length = 23 ∧ L.all (·.oneCell') = true) := Lib.hid (by subst hL; exact ⟨rfl, rfl⟩); have HE := Lib.hid hL; clear hL; have Z5 := AtL.new w4 (fsC 0 ⟨#[]⟩ ⟨#[]⟩ ⟨#[]⟩ 0 (.slice none 0 0) ⟨#[]⟩ false 0 ⟨#[]⟩ ⟨#[]⟩ ⟨#[]⟩ ⟨#[]⟩ ⟨#[]⟩ ⟨#[]⟩ ⟨#[]⟩ 0 false false 0 (.slice none 0 0) ⟨#[]⟩ 0) 40)
    | (refine wpList_store_at rfl 40 _ _ rfl w4.heap.size L rfl rfl Z5 HL.out.1 (by rw [HL.out.1]; kernel_rfl) HL.out.2 ?_)
    | fail)
  have E4 := E3.but2 X4 E3.lt (by omega) (by omega)
  have hB4 := hal3.trans (X4.low hal3.size (by omega) (by omega))
  have hal5 := Below.sets (k := w4.heap.size) (Nat.le_refl _) (o := 0) L ((Below.refl _ w4).alloc (Nat.le_refl _) (.cells (fsC 0 ⟨#[]⟩ ⟨#[]⟩ ⟨#[]⟩ 0 (.slice none 0 0) ⟨#[]⟩ false 0 ⟨#[]⟩ ⟨#[]⟩ ⟨#[]⟩ ⟨#[]⟩ ⟨#[]⟩ ⟨#[]⟩ ⟨#[]⟩ 0 false false 0 (.slice none 0 0) ⟨#[]⟩ 0).toArray 40))
  have S5 := AtL.sets (vs := L) Z5 HL.out.1
  obtain ⟨w5, hw5⟩ : ∃ w5 : World, (w4.alloc (.cells (fsC 0 ⟨#[]⟩ ⟨#[]⟩ ⟨#[]⟩ 0 (.slice none 0 0) ⟨#[]⟩ false 0 ⟨#[]⟩ ⟨#[]⟩ ⟨#[]⟩ ⟨#[]⟩ ⟨#[]⟩ ⟨#[]⟩ ⟨#[]⟩ 0 false false 0 (.slice none 0 0) ⟨#[]⟩ 0).toArray 40)).setCells w4.heap.size 0 L = w5 := ⟨_, rfl⟩
  rw [hw5] at hal5 S5
  rw [show (w4.alloc (.cells (fsC 0 ⟨#[]⟩ ⟨#[]⟩ ⟨#[]⟩ 0 (.slice none 0 0) ⟨#[]⟩ false 0 ⟨#[]⟩ ⟨#[]⟩ ⟨#[]⟩ ⟨#[]⟩ ⟨#[]⟩ ⟨#[]⟩ ⟨#[]⟩ 0 false false 0 (.slice none 0 0) ⟨#[]⟩ 0).toArray 40)).setCells w4.heap.size 0 L = w5 from hw5]
  rw [HE.out] at S5
  clear hw5 Z5
  have E5 := E4.next hal5
  have K5 := K4.next hal5
  have hKw := K4.lt
  have hB5 := hB4.trans (hal5.mono hB4.size)
  have hw4 := hB4.size
  have CH := Lib.hid (Head_fit w4.heap.size w.heap.size (w.heap.size + 1) 0 ⟨#[104, 116, 116, 112, 58, 47, 47, 97, 46, 99, 111, 109, 47, 120]⟩ ⟨#[104, 116, 116, 112, 58, 47, 47, 97, 46, 99, 111, 109]⟩ vx vk ⟨#[]⟩ ⟨#[104, 116, 116, 112]⟩ ⟨#[97, 46, 99, 111, 109]⟩ ⟨#[]⟩ ⟨#[47, 120]⟩ ⟨#[]⟩ ⟨#[]⟩ 0 _ (HM.out.below hB5 (Nat.le_refl _)) w.heap.size HG.out hw4 S5 (by decide) (by decide) (by decide) (by decide) (by decide) (by decide) ex_org ⟨#[104, 116, 116, 112, 58, 47, 47, 97, 46, 99, 111, 109, 47, 120]⟩ ex_format)
  clear q0 q1 q2 el3
  have q0 := E5.c 0 rfl; have q1 := E5.c 1 rfl; have q2 := E5.c 2 rfl
  have el5 := E5.lt
  go_wp2_with (first
    | (go_at_call 31; refine CH.out.mono ?_; rintro e6 w6 ⟨K2, rfl, K6, X6⟩; have L6 := K5.but X6 K5.lt (Nat.ne_of_lt hKw); have p0 := K6.c 0 rfl; have p1 := K6.c 1 rfl; have p2 := K6.c 2 rfl; have p3 := K6.c 3 rfl; have p4 := K6.c 4 rfl; have p5 := K6.c 5 rfl; have p6 := K6.c 6 rfl; have r0 := L6.c 0 rfl; have r1 := L6.c 1 rfl; have r2 := L6.c 2 rfl; have r3 := L6.c 3 rfl; have r4 := L6.c 4 rfl; have r5 := L6.c 5 rfl; have r6 := L6.c 6 rfl; have kl6 := K6.lt; have ll6 := L6.lt)
    | fail)
  go_ret
  exact ⟨rfl, BelowBut.to_below X6 hB5 hB5.size hw4⟩
end Go.Proofs.YtjdhaacmlpegoaaGreatDoor
