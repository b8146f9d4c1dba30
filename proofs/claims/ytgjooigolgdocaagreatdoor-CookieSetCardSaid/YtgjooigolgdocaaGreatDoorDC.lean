/- CookieParse: the law. -/
import Derived.Test.YtgjooigolgdocaaGreatDoorG2
import Derived.Test.YtgjooigolgdocaaGreatDoorG4
namespace Go.Proofs.YtgjooigolgdocaaGreatDoor
set_option linter.unusedVariables false
set_option linter.unusedSimpArgs false
open Go.RowKit

abbrev askL (a b cc d e f : ByteArray) (now : Int) : List Value := [.string a, .string b, .string cc, .string d, .string e, .string f, .int .i64 now]
abbrev askA (a b cc d e f : ByteArray) (now : Int) : Value := .agg #[.string a, .string b, .string cc, .string d, .string e, .string f, .int .i64 now]
theorem short_size {a b cc d e f : ByteArray} (h : shortB a b cc d e f = true) : USize 40000 a b cc d e f := by
  obtain ⟨h1, h2, h3, h4, h5, h6⟩ := shortB_iff h
  exact ⟨by omega, by omega, by omega, by omega, by omega, by omega⟩
theorem rparse_ex (s a b cc d e f : ByteArray) (now : Int) (T : Bool) (hT : takesB (u6 a b cc d e f) = T) (c : Ck) (er : Int) (hR : parseC s.data.toList T a b d now = (c, er)) (w : World) (hs : s.size ≤ 100000) (hz : USize 40000 a b cc d e f) (hM : MaxAt w) :
    Calls Tryz.prog 13 #[.string s, urlA a b cc d e f, .int .i64 now] w fun x w' => x = .returned (.tuple #[ckA c, .int .i64 er]) ∧ Below w.heap.size w w' := rparse_is s a b cc d e f now T hT (c, er) hR w hs hz hM
set_option maxRecDepth 20000 in
set_option maxHeartbeats 1000000 in
theorem cookieparse_law (s a b cc d e f : ByteArray) (now : Int) (w : World) (hM : MaxAt w) :
    Calls Tryz.prog 3 #[.string s, askA a b cc d e f now] w fun x w' => x = .returned (.bool true) ∧ Below w.heap.size w w' := by
  have A0 := AtL.new w (askL a b cc d e f now) 25
  have hB0 : Below w.heap.size w (w.alloc (.cells (askL a b cc d e f now).toArray 25)) := (Below.refl _ w).alloc (Nat.le_refl _) _
  have hM0 := hM.below hB0 (Nat.le_refl _)
  have CF := Lib.hid (fit_any _ hM0)
  have cS := fun w => asmall_any a b cc d e f now w
  by_cases hs : s.size ≤ 400
  · have hsi : ¬ (s.size : Int) > 400 := by omega
    cases hS : shortB a b cc d e f with
    | false =>
      rw [hS] at cS
      have CS := Lib.hid cS
      clear cS hM hM0 hS
      go_enter Tryz.func3, Tryz.ntmps3
      go_wp2_with (first
        | (go_at_call 10; with_reducible refine CF.out.mono ?_; rintro x w1 ⟨rfl, hb1⟩; have A1 := A0.next hb1; have hB1 := hB0.trans (hb1.mono hB0.size); have z0 := A1.c 0 rfl; have z1 := A1.c 1 rfl; have z2 := A1.c 2 rfl; have z3 := A1.c 3 rfl; have z4 := A1.c 4 rfl; have z5 := A1.c 5 rfl; have z6 := A1.c 6 rfl; have hl1 := A1.lt)
        | (go_at_call 11; with_reducible refine (CS.out _).mono ?_; rintro x w2 ⟨rfl, hb2⟩))
      go_ret
      exact ⟨rfl, hB1.trans (hb2.mono hB1.size)⟩
    | true =>
      rw [hS] at cS
      have CS := Lib.hid cS
      have hz := short_size hS
      obtain ⟨T, hT⟩ : ∃ T, takesB (u6 a b cc d e f) = T := ⟨_, rfl⟩
      obtain ⟨⟨c, er⟩, hR⟩ : ∃ R, parseC s.data.toList T a b d now = R := ⟨_, rfl⟩
      have CP := Lib.hid (fun w hM => cparse_ex s a b cc d e f now T hT c er hR w (by omega) hz hM)
      have CQ := Lib.hid (fun w hM => rparse_ex s a b cc d e f now T hT c er hR w (by omega) hz hM)
      obtain ⟨n, v, dd, p, ho, se, hi, ex, cr⟩ := c
      clear cS hM hS hz hT hR
      go_enter Tryz.func3, Tryz.ntmps3
      go_wp2_with (first
        | (go_at_call 10; with_reducible refine CF.out.mono ?_; rintro x w1 ⟨rfl, hb1⟩; have A1 := A0.next hb1; have hB1 := hB0.trans (hb1.mono hB0.size); have hM1 := hM0.below hb1 (Nat.le_refl _); have z0 := A1.c 0 rfl; have z1 := A1.c 1 rfl; have z2 := A1.c 2 rfl; have z3 := A1.c 3 rfl; have z4 := A1.c 4 rfl; have z5 := A1.c 5 rfl; have z6 := A1.c 6 rfl; have hl1 := A1.lt)
        | (go_at_call 11; with_reducible refine (CS.out _).mono ?_; rintro x w2 ⟨rfl, hb2⟩; have A2 := A1.next hb2; have hB2 := hB1.trans (hb2.mono hB1.size); have hM2 := hM1.below hb2 (Nat.le_refl _); have y0 := A2.c 0 rfl; have y1 := A2.c 1 rfl; have y2 := A2.c 2 rfl; have y3 := A2.c 3 rfl; have y4 := A2.c 4 rfl; have y5 := A2.c 5 rfl; have y6 := A2.c 6 rfl; have hl2 := A2.lt)
        | (go_at_call 12; with_reducible refine (CP.out _ hM2).mono ?_; rintro x w3 ⟨rfl, hb3⟩; have A3 := (A2.next hb3).alloc (.cells (ckL ⟨n, v, dd, p, ho, se, hi, ex, cr⟩).toArray 29); have K3 := AtL.new w3 (ckL ⟨n, v, dd, p, ho, se, hi, ex, cr⟩) 29; have hB3 := hB2.trans (hb3.mono hB2.size); have hC3 := hB3.alloc hB3.size (.cells (ckL ⟨n, v, dd, p, ho, se, hi, ex, cr⟩).toArray 29); have hM3 := (hM2.below hb3 (Nat.le_refl _)).below ((Below.refl _ w3).alloc (Nat.le_refl _) (.cells (ckL ⟨n, v, dd, p, ho, se, hi, ex, cr⟩).toArray 29)) (Nat.le_refl _); have x0 := A3.c 0 rfl; have x1 := A3.c 1 rfl; have x2 := A3.c 2 rfl; have x3 := A3.c 3 rfl; have x4 := A3.c 4 rfl; have x5 := A3.c 5 rfl; have x6 := A3.c 6 rfl; have hl3 := A3.lt)
        | (go_at_call 13; with_reducible refine (CQ.out _ hM3).mono ?_; rintro x w4 ⟨rfl, hb4⟩; have K4 := (K3.next hb4).alloc (.cells (ckL ⟨n, v, dd, p, ho, se, hi, ex, cr⟩).toArray 29); have hB4 := hC3.trans (hb4.mono hC3.size); have u0 := K4.c 0 rfl; have u1 := K4.c 1 rfl; have u2 := K4.c 2 rfl; have u3 := K4.c 3 rfl; have u4 := K4.c 4 rfl; have u5 := K4.c 5 rfl; have u6 := K4.c 6 rfl; have u7 := K4.c 7 rfl; have u8 := K4.c 8 rfl; have hl4 := K4.lt))
      go_ret
      exact ⟨rfl, hB4.alloc hB4.size _⟩
  · have hsi : (s.size : Int) > 400 := by omega
    clear cS hM hM0
    go_enter Tryz.func3, Tryz.ntmps3
    go_wp2_with (go_at_call 10; with_reducible refine CF.out.mono ?_; rintro x w1 ⟨rfl, hb1⟩)
    go_ret
    exact ⟨rfl, hB0.trans (hb1.mono hB0.size)⟩
end Go.Proofs.YtgjooigolgdocaaGreatDoor
