/- Fetch: the laws' example. -/
import Derived.Test.YtjdhaacmlpegoaaGreatDoorTN
namespace Go.Proofs.YtjdhaacmlpegoaaGreatDoor
set_option linter.unusedVariables false
set_option linter.unusedSimpArgs false
open Go.RowKit

theorem bb_trans {n s : Nat} {w w1 w2 : World} (h : Below n w w1) (k : BelowBut w1.heap.size s w1 w2) (hn : n ≤ w1.heap.size) : BelowBut n s w w2 :=
  ⟨k.os.trans h.os, k.tape.trans h.tape, k.output.trans h.output, Nat.le_trans h.size k.size, fun i hi hne => (k.block i (by omega) hne).trans (h.block i hi)⟩
set_option maxRecDepth 20000 in
set_option maxHeartbeats 1000000 in
theorem Head_fit (s0 jb cb : Nat) (tk : Int) (ur og : ByteArray) (x : Option Addr) (kk : Nat) (bo a b c d e f : ByteArray) (now : Int) (w : World) (hM : MaxAt w) (B : Nat) (hG : 0 < B) (hBs : B ≤ s0) (S0 : AtL w s0 (fsC tk ⟨#[71, 69, 84]⟩ ur og 2 (.slice x 0 kk) bo false 1 a b c d e f ⟨#[71, 69, 84]⟩ 0 false false 0 (.slice none 0 0) ⟨#[]⟩ 0)) (ha : a.size ≤ 40000) (hb : b.size ≤ 40000) (hc : c.size ≤ 40000) (hdd : d.size ≤ 40000) (he : e.size ≤ 40000) (hf : f.size ≤ 40000) (hO : og.data.toList = orgL (a.data.toList, b.data.toList, c.data.toList, d.data.toList, e.data.toList, f.data.toList)) (T : ByteArray) (hT : T.data.toList = formatL (a.data.toList, b.data.toList, c.data.toList, d.data.toList, e.data.toList, f.data.toList)) :
    Calls Tryz.prog 31 #[.pointer (some ⟨s0, 0, none⟩), .int .i64 200, .slice none 0 0, .agg #[.pointer (some ⟨jb, 0, none⟩), .pointer (some ⟨cb, 0, none⟩), .int .i64 now]] w (TakeQ w s0 T) := by
  have hsw := S0.lt
  have hal := (Below.refl _ w).alloc (Nat.le_refl _) (.cells [.pointer (some ⟨jb, 0, none⟩), .pointer (some ⟨cb, 0, none⟩), .int .i64 now].toArray 83)
  have S1 := S0.next hal
  have CT := Lib.hid (take_fit s0 jb cb tk ur og x kk bo a b c d e f now _ (hM.below hal (Nat.le_refl _)) B hG hBs S1 ha hb hc hdd he hf hO T hT)
  have z0 := S0.c 0 rfl; have z1 := S0.c 1 rfl; have z2 := S0.c 2 rfl; have z3 := S0.c 3 rfl; have z4 := S0.c 4 rfl; have z5 := S0.c 5 rfl; have z6 := S0.c 6 rfl; have z7 := S0.c 7 rfl; have z8 := S0.c 8 rfl; have z9 := S0.c 9 rfl; have z10 := S0.c 10 rfl; have z11 := S0.c 11 rfl; have z12 := S0.c 12 rfl; have z13 := S0.c 13 rfl; have z14 := S0.c 14 rfl; have z15 := S0.c 15 rfl; have z16 := S0.c 16 rfl; have z17 := S0.c 17 rfl; have z18 := S0.c 18 rfl; have z19 := S0.c 19 rfl; have z20 := S0.c 20 rfl; have z21 := S0.c 21 rfl; have z22 := S0.c 22 rfl
  clear hO hT hM
  go_enter Tryz.func31, Tryz.ntmps31
  go_wp2_with (first
    | (go_at_call 78; refine CT.out.mono ?_; rintro e4 w4 ⟨K, rfl, K4, X4⟩)
    | fail)
  go_ret
  exact ⟨K, rfl, K4, bb_trans hal X4 hal.size⟩
end Go.Proofs.YtjdhaacmlpegoaaGreatDoor
