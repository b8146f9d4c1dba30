/- CacheHeaders: the law. -/
import Derived.Test.YtkobhknggamejaaGreatDoorHZ
import Derived.Test.YtkobhknggamejaaGreatDoorHW
namespace Go.Proofs.YtkobhknggamejaaGreatDoor
set_option linter.unusedVariables false
set_option linter.unusedSimpArgs false
open Go.RowKit

set_option maxRecDepth 20000 in
set_option maxHeartbeats 1000000 in
theorem cacheheaders_law (hs : List Hd) (v : Value) (name : ByteArray) (st : Int) (w : World) (hM : MaxAt w) (hv : SlK hdC 2 w v hs) (hz : WtH hs) :
    Calls Tryz.prog 3 #[v, .string name, .int .i64 st] w fun e w' => e = .returned (.bool true) ∧ Below w.heap.size w w' := by
  have CF := Lib.hid (fit_is43 w hM)
  obtain ⟨R, hR⟩ : ∃ R, attrB hs = R := ⟨_, rfl⟩
  have CA := Lib.hid (fun (w : World) hv => attrs_is hs v w hv hz R hR)
  have HM := Lib.hid hM
  have HV := Lib.hid hv
  obtain ⟨sa, sc, rfl, _⟩ := hv.shape
  cases R with
  | false =>
    clear hR hz hv hM
    go_enter Tryz.func3, Tryz.ntmps3
    go_wp2_with (first
      | (go_at_call 10; (with_reducible refine CF.out.mono ?_); rintro e w1 ⟨rfl, hb1⟩)
      | (go_at_call 11; (with_reducible refine (CA.out _ (HV.out.below hb1 (Nat.le_refl _))).mono ?_); rintro e w2 ⟨rfl, hb2⟩; have hB2 := hb1.trans (hb2.mono hb1.size)))
    go_ret
    exact ⟨rfl, hB2⟩
  | true =>
    have hzz := (attrB_sz hR).1
    by_cases hn : name.size ≤ 200
    · have g2 : ¬ (200 : Int) < (name.size : Int) := by omega
      obtain ⟨V, hV⟩ : ∃ V, (hdrL hs name.data.toList).getD ⟨#[]⟩ = V := ⟨_, rfl⟩
      obtain ⟨B, hB⟩ : ∃ B, (hdrL hs name.data.toList).isSome = B := ⟨_, rfl⟩
      obtain ⟨D, hD⟩ : ∃ D, dirL hs = D := ⟨_, rfl⟩
      obtain ⟨L, hL⟩ : ∃ L, lifeL hs = L := ⟨_, rfl⟩
      obtain ⟨S, hS⟩ : ∃ S, storL st [] hs = S := ⟨_, rfl⟩
      obtain ⟨d1, d2, d3, d4⟩ := D
      have C1 := Lib.hid (fun (w : World) hv => hdr_at hs (.slice sa hs.length sc) name w hv hzz (by omega) V B hV hB)
      have C2 := Lib.hid (fun (w : World) hv => rhdr_at hs (.slice sa hs.length sc) name w hv hzz (by omega) V B hV hB)
      have C3 := Lib.hid (fun (w : World) hM hv => dir_is hs (.slice sa hs.length sc) w hM hv hzz ⟨d1, d2, d3, d4⟩ hD)
      have C4 := Lib.hid (fun (w : World) hv => rdir_is hs (.slice sa hs.length sc) w hv hzz ⟨d1, d2, d3, d4⟩ hD)
      have C5 := Lib.hid (fun (w : World) hM hv => life_is hs (.slice sa hs.length sc) w hM hv hzz L hL)
      have C6 := Lib.hid (fun (w : World) hv => rlife_is hs (.slice sa hs.length sc) w hv hzz L hL)
      have C7 := Lib.hid (fun (w : World) hM hv => stor_is st [] hs (.slice none 0 0) (.slice sa hs.length sc) w hM (slk0 w) hv HdSz0 hzz S hS)
      have C8 := Lib.hid (fun (w : World) hv => rstor_is st [] hs (.slice none 0 0) (.slice sa hs.length sc) w (slk0 w) hv HdSz0 hzz S hS)
      have up := Lib.hid (fun (w' : World) (hb : Below w.heap.size w w') => And.intro (HM.out.below hb (Nat.le_refl _)) (HV.out.below hb (Nat.le_refl _)))
      clear hR hz hv hM hV hB hD hL hS
      go_enter Tryz.func3, Tryz.ntmps3
      go_wp2_with (first
        | (go_at_call 10; (with_reducible refine CF.out.mono ?_); rintro e w1 ⟨rfl, hb1⟩)
        | (go_at_call 11; (with_reducible refine (CA.out _ (HV.out.below hb1 (Nat.le_refl _))).mono ?_); rintro e w2 ⟨rfl, hb2⟩; have hB2 := hb1.trans (hb2.mono hb1.size))
        | (go_at_call 12; (with_reducible refine (C1.out _ (up.out _ hB2).2).mono ?_); rintro e w3 ⟨rfl, hb3⟩; have hB3 := hB2.trans (hb3.mono hB2.size))
        | (go_at_call 13; (with_reducible refine (C2.out _ (up.out _ hB3).2).mono ?_); rintro e w4 ⟨rfl, hb4⟩; have hB4 := hB3.trans (hb4.mono hB3.size))
        | (go_at_call 14; (with_reducible refine (C3.out _ (up.out _ hB4).1 (up.out _ hB4).2).mono ?_); rintro e w5 ⟨rfl, hb5⟩; have hB5 := hB4.trans (hb5.mono hB4.size))
        | (go_at_call 15; (with_reducible refine (C4.out _ (up.out _ hB5).2).mono ?_); rintro e w6 ⟨rfl, hb6⟩; have hB6 := hB5.trans (hb6.mono hB5.size))
        | (go_at_call 16; (with_reducible refine (C5.out _ (up.out _ hB6).1 (up.out _ hB6).2).mono ?_); rintro e w7 ⟨rfl, hb7⟩; have hB7 := hB6.trans (hb7.mono hB6.size))
        | (go_at_call 17; (with_reducible refine (C6.out _ (up.out _ hB7).2).mono ?_); rintro e w8 ⟨rfl, hb8⟩; have hB8 := hB7.trans (hb8.mono hB7.size))
        | (go_at_call 18; (with_reducible refine (C7.out _ (up.out _ hB8).1 (up.out _ hB8).2).mono ?_); rintro e w9 ⟨rfl, hb9⟩; have hB9 := hB8.trans (hb9.mono hB8.size))
        | (go_at_call 19; (with_reducible refine (C8.out _ (up.out _ hB9).2).mono ?_); rintro e w10 ⟨rfl, hb10⟩; have hB10 := hB9.trans (hb10.mono hB9.size)))
      go_ret
      exact ⟨rfl, hB10⟩
    · have g2 : (200 : Int) < (name.size : Int) := by omega
      clear hR hz hv hM
      go_enter Tryz.func3, Tryz.ntmps3
      go_wp2_with (first
        | (go_at_call 10; (with_reducible refine CF.out.mono ?_); rintro e w1 ⟨rfl, hb1⟩)
        | (go_at_call 11; (with_reducible refine (CA.out _ (HV.out.below hb1 (Nat.le_refl _))).mono ?_); rintro e w2 ⟨rfl, hb2⟩; have hB2 := hb1.trans (hb2.mono hb1.size)))
      go_ret
      exact ⟨rfl, hB2⟩
end Go.Proofs.YtkobhknggamejaaGreatDoor
