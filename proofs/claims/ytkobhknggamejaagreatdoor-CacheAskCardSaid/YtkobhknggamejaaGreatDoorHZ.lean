/- Cache: the laws' check: fit. -/
import Derived.Test.YtkobhknggamejaaGreatDoorHU
import Derived.Test.YtkobhknggamejaaGreatDoorHY
namespace Go.Proofs.YtkobhknggamejaaGreatDoor
set_option linter.unusedVariables false
set_option linter.unusedSimpArgs false
open Go.RowKit

abbrev fitA : ByteArray := ⟨#[99, 97, 99, 104, 101, 45, 99, 111, 110, 116, 114, 111, 108]⟩
abbrev fitB : ByteArray := ⟨#[109, 97, 120, 45, 97, 103, 101, 61, 49, 48]⟩
abbrev fitH : List Hd := [(fitA, fitB)]
abbrev fitE : En := ⟨⟨#[117]⟩, [], 200, fitH, ⟨#[98]⟩, 5000⟩
theorem fit_stor : storL 200 [] fitH = true := by decide +kernel
theorem fit_vary : varyE [] fitH = [] := by decide +kernel
theorem fit_dir : dirL [] = ⟨false, false, false, -1⟩ := rfl
theorem fit_use1 : useB ⟨false, false, false, -1⟩ fitE 14999 = true := by decide +kernel
theorem fit_use2 : useB ⟨false, false, false, -1⟩ fitE 15000 = false := by decide +kernel
theorem fit_chk : chkL fitH = [] := by decide +kernel
theorem fit_ans : ansB fitE ⟨#[117]⟩ [] = true := by decide +kernel
theorem fit_last (r : Er) : LastAt (fun x => ansB x.2 ⟨#[117]⟩ []) [((r, fitE) : Ee)] (0 : Nat) := .inr ⟨0, by simp, rfl, fit_ans, fun j h h0 => absurd h0 (by simp at h; omega)⟩
theorem fit_szH : HdSz fitH := ⟨by decide, fun h hh => by obtain rfl := List.mem_singleton.1 hh; exact ⟨by decide, by decide⟩⟩
theorem HdSz0 : HdSz [] := ⟨by decide, fun h hh => by cases hh⟩
/-- what a change of a cache leaves of what lay below its memory -/
theorem CaTo.lowB {w w' : World} {jb B : Nat} {v : Value} {l l' : List Ee} (h : CaTo w jb B v l' w') (hJ : CaIn w jb B v l) (hjB : B ≤ jb) : Below B w w' := h.2.lowB hJ.own hjB hJ.le
theorem fld_plan0 (a b c d e f g h : Value) (w : World) : (Instr.field 45 (.agg #[a, b, c, d, e, f, g, h]) 0).run Tryz.prog w = .ok a w := by
  simp [Instr.field, run_underlying Tryz.underlying45, go_sem, asAgg]
attribute [local go_sem] fld_plan0
set_option maxRecDepth 20000 in
set_option maxHeartbeats 1000000 in
theorem fit_is43 (w : World) (hM : MaxAt w) : Calls Tryz.prog 10 #[] w fun e w' => e = .returned (.bool true) ∧ Below w.heap.size w w' := by
  have hG := hM.lt
  have hB1 : Below w.heap.size w ((w.alloc (.cells [.slice none 0 0].toArray 35)).alloc (.cells [.string fitA, .string fitB].toArray 68)) := ((Below.refl _ w).alloc (Nat.le_refl _) _).alloc (by simp) _
  have J1 := (AtL.new w [.slice none 0 0] 35).alloc (.cells [.string fitA, .string fitB].toArray 68)
  have H1 := AtL.new (w.alloc (.cells [.slice none 0 0].toArray 35)) [.string fitA, .string fitB] 68
  rw [show (w.alloc (.cells [.slice none 0 0].toArray 35)).heap.size = w.heap.size + 1 by simp] at H1
  have hJ1 : CaIn _ w.heap.size w.heap.size (.slice none 0 0) [] := ⟨J1, World.ownsRow_nil _ _ _ _, by simp [Value.ownBlock], hB1.size, (fun x hx => by cases hx), (fun x hx => by cases hx)⟩
  have sh1 : SlK hdC 2 ((w.alloc (.cells [.slice none 0 0].toArray 35)).alloc (.cells [.string fitA, .string fitB].toArray 68)) (.slice (some ⟨w.heap.size + 1, 0, none⟩) 1 1) fitH :=
    .inr ⟨by simp, _, _, _, rfl, by decide, by decide, H1.lt, fun i hi j u hu => by
      obtain rfl : i = 0 := by simp at hi; omega
      simp only [List.getElem_cons_zero] at hu
      simpa using H1.c j hu⟩
  have CP := Lib.hid (put_yes w.heap.size w.heap.size (.slice none 0 0) [] _ (hM.below hB1 (Nat.le_refl _)) hG (Nat.le_refl _) hJ1 (fun x hx => by cases hx) (by simp) ⟨#[117]⟩ [] fitH (.slice none 0 0) _ (slk0 _) sh1 HdSz0 fit_szH (fun h => absurd rfl h) (fun _ b off n c e => by
    injection e with e1 _ _
    injection e1 with e1
    injection e1 with e1
    exact ⟨by omega, by simp [Value.ownBlock]⟩) 200 ⟨#[98]⟩ 5000 fit_stor)
  rw [fit_vary] at CP
  have CA := Lib.hid (fun (w3 : World) (v : Value) (r : Er) (hM : MaxAt w3) (hJ : CaIn w3 w.heap.size w.heap.size v [((r, fitE) : Ee)]) => ask_use w.heap.size w.heap.size v [(r, fitE)] w3 hM hJ (fun x hx => by obtain rfl := List.mem_singleton.1 hx; exact ⟨HdSz0, fit_szH⟩) (by simp) ⟨#[117]⟩ [] (.slice none 0 0) (slk0 _) HdSz0 14999 0 (by simp) (r, fitE) rfl (fit_last r) false false (-1) fit_dir fit_use1)
  have CB := Lib.hid (fun (w3 : World) (v : Value) (r : Er) (hM : MaxAt w3) (hJ : CaIn w3 w.heap.size w.heap.size v [((r, fitE) : Ee)]) => ask_chk0 w.heap.size w.heap.size v [(r, fitE)] w3 hM hJ (fun x hx => by obtain rfl := List.mem_singleton.1 hx; exact ⟨HdSz0, fit_szH⟩) (by simp) ⟨#[117]⟩ [] (.slice none 0 0) (slk0 _) HdSz0 15000 0 (by simp) (r, fitE) rfl (fit_last r) false false (-1) fit_dir fit_use2 fit_chk)
  have HJ := Lib.hid hJ1
  have HB := Lib.hid hB1
  have HM1 := Lib.hid (hM.below hB1 (Nat.le_refl _))
  clear hJ1 sh1 J1 H1 hM hB1
  go_enter Tryz.func10, Tryz.ntmps10
  go_wp2_with (first
    | (go_at_call 29; (with_reducible refine CP.out.mono ?_); rintro e w3 ⟨rfl, r, hto3⟩; have hb3 := hto3.lowB HJ.out (Nat.le_refl _); have M3 := HM1.out.low hb3 hG; obtain ⟨a3, c3, J3, -, -⟩ := hto3.out; have HJ3 := Lib.hid J3; have HB3 := Lib.hid (HB.out.trans hb3); have HM3 := Lib.hid M3; clear J3 M3 hto3 hb3)
    | (go_at_call 24; (with_reducible refine (CA.out _ _ _ HM3.out HJ3.out).mono ?_); rintro e w4 ⟨r4, u4, rfl, _, _, hto4⟩; have hb4 := hto4.lowB HJ3.out (Nat.le_refl _); have M4 := HM3.out.low hb4 hG; obtain ⟨a4, c4, J4, -, -⟩ := hto4.out; have HJ4 := Lib.hid J4; have HB4 := Lib.hid (HB3.out.trans hb4); have HM4 := Lib.hid M4; clear J4 M4 hto4 hb4)
    | (go_at_call 24; (with_reducible refine (CB.out _ _ _ HM4.out HJ4.out).mono ?_); rintro e w5 ⟨r5, u5, rfl, _, _, hto5⟩; have hb5 := hto5.lowB HJ4.out (Nat.le_refl _); have HB5 := Lib.hid (HB4.out.trans hb5); clear hto5 hb5))
  go_ret
  exact ⟨rfl, HB5.out⟩
end Go.Proofs.YtkobhknggamejaaGreatDoor
