/- Cookies: the walk of cookie.Parse: the errors, and the loop. -/
import Derived.Test.YtgjooigolgdocaaGreatDoorCF
namespace Go.Proofs.YtgjooigolgdocaaGreatDoor
set_option linter.unusedVariables false
set_option linter.unusedSimpArgs false
open Go.RowKit

abbrev ck0V : List Value := [.string ⟨#[]⟩, .string ⟨#[]⟩, .string ⟨#[]⟩, .string ⟨#[]⟩, .bool false, .bool false, .bool false, .int .i64 0, .int .i64 0]
theorem parseC_no (field : List UInt8) (s h p : ByteArray) (now : Int) : parseC field false s h p now = (ck0, 7) := by unfold parseC; rw [if_pos rfl]
theorem parseC_yes (field : List UInt8) (s h p : ByteArray) (now : Int) (p0 : List UInt8) (ps : List (List UInt8)) (hs : segs 59 field = p0 :: ps) :
    parseC field true s h p now = if p0.contains 61 = false ∨ trimC (pre 61 p0) = [] ∨ ctlL field = true then (ck0, 4)
      else lastC h.data.toList s.data.toList (ps.foldl (stepC h (bs (defpL p.data.toList)) now) (firstC h (bs (defpL p.data.toList)) p0)) := by
  unfold parseC; rw [if_neg (by decide), hs]
set_option maxRecDepth 20000 in
set_option maxHeartbeats 1000000 in
theorem cparse_no (s a b c d e f : ByteArray) (now : Int) (w : World) (hz : USize 40000 a b c d e f) (hM : MaxAt w) (hT : takesB (u6 a b c d e f) = false) :
    Calls Tryz.prog 12 #[.string s, urlA a b c d e f, .int .i64 now] w fun x w' => x = .returned (resC (ck0, 7)) ∧ Below w.heap.size w w' := by
  have CT := Lib.hid (fun w hM => takes_is a b c d e f false hT w hz hM)
  have A0 := AtL.new w (urlL a b c d e f) 23
  have A1 := A0.alloc (.cells #[.string ⟨#[]⟩, .string ⟨#[]⟩, .string ⟨#[]⟩, .string ⟨#[]⟩, .bool false, .bool false, .bool false, .int .i64 0, .int .i64 0] 29)
  have R1 := AtL.new (w.alloc (.cells #[.string a, .string b, .string c, .string d, .string e, .string f] 23)) ck0V 29
  have hB1 : Below w.heap.size w ((w.alloc (.cells #[.string a, .string b, .string c, .string d, .string e, .string f] 23)).alloc (.cells #[.string ⟨#[]⟩, .string ⟨#[]⟩, .string ⟨#[]⟩, .string ⟨#[]⟩, .bool false, .bool false, .bool false, .int .i64 0, .int .i64 0] 29)) := ((Below.refl _ w).alloc (Nat.le_refl _) _).alloc (by simp) _
  have hM1 := hM.below hB1 (Nat.le_refl _)
  have hk1 : w.heap.size < ((w.alloc (.cells #[.string a, .string b, .string c, .string d, .string e, .string f] 23)).alloc (.cells #[.string ⟨#[]⟩, .string ⟨#[]⟩, .string ⟨#[]⟩, .string ⟨#[]⟩, .bool false, .bool false, .bool false, .int .i64 0, .int .i64 0] 29)).heap.size := (by simp; omega)
  rw [show (w.alloc (.cells #[.string a, .string b, .string c, .string d, .string e, .string f] 23)).heap.size = w.heap.size + 1 by simp] at R1
  clear hT hz hM
  go_enter Tryz.func12, Tryz.ntmps12
  go_wp2_with (go_at_call 34; with_reducible refine (CT.out _ hM1).mono ?_; rintro x w1 ⟨rfl, hb1⟩; have hB2 := hB1.trans (hb1.mono hB1.size); have R2 := R1.next hb1; have z0 := R2.c 0 rfl; have z1 := R2.c 1 rfl; have z2 := R2.c 2 rfl; have z3 := R2.c 3 rfl; have z4 := R2.c 4 rfl; have z5 := R2.c 5 rfl; have z6 := R2.c 6 rfl; have z7 := R2.c 7 rfl; have z8 := R2.c 8 rfl; have f0 := R2.f 0 rfl; have f1 := R2.f 1 rfl; have f2 := R2.f 2 rfl; have f3 := R2.f 3 rfl; have f4 := R2.f 4 rfl; have f5 := R2.f 5 rfl; have f6 := R2.f 6 rfl; have f7 := R2.f 7 rfl; have f8 := R2.f 8 rfl; have hk2 := R2.lt)
  exact bodyPost_ret (ret9_run Tryz.results12 Tryz.sizeOf29 Tryz.isAgg29 _ _ _ _ _ _ _ _ _ _ _ _ _ rfl rfl (R2.set9 rfl _ _ _ _ _ _ _ _ _)) rfl ⟨rfl, below_set9 hB2 (Nat.le_succ _) _ _ _ _ _ _ _ _ _⟩
end Go.Proofs.YtgjooigolgdocaaGreatDoor
