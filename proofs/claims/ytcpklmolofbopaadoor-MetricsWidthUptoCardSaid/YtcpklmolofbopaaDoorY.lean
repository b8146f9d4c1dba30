/- The walk of MetricsWidth. -/
import Derived.Test.YtcpklmolofbopaaDoorX
namespace Go.Proofs.YtcpklmolofbopaaDoor
open Go.RowKit

theorem cell_lt {w : World} {b o : Nat} {v : Value} (h : w.cell? ⟨b, o, none⟩ = some v) : b < w.heap.size := by
  unfold World.cell? at h
  rcases Nat.lt_or_ge b w.heap.size with h1 | h1
  · exact h1
  · simp [Array.getElem?_eq_none h1] at h
theorem tabs_below {g3 g4 : Nat} {w w' : World} (h : Lib.Utf8Tabs g3 g4 w) (hb : Below w.heap.size w w') : Lib.Utf8Tabs g3 g4 w' :=
  ⟨fun c hc => (hb.cell (p := ⟨g3, c, none⟩) (cell_lt (h.1 c hc))).trans (h.1 c hc),
   fun i hi => ⟨(hb.cell (p := ⟨g4, 2 * i, none⟩) (cell_lt (h.2 i hi).1)).trans (h.2 i hi).1, (hb.cell (p := ⟨g4, 2 * i + 1, none⟩) (cell_lt (h.2 i hi).1)).trans (h.2 i hi).2⟩⟩

set_option maxHeartbeats 1000000 in
theorem width_law (a b : ByteArray) (n : Int) (w : World) (hs : a.size + b.size ≤ 1048576) (hT : Lib.Utf8Tabs (Tryd.lays196_ren.g 3) (Tryd.lays196_ren.g 4) w) :
    Calls Tryd.prog 11 #[.string a, .string b, .int .i64 n] w fun e w' => e = .returned (.bool true) ∧ Below w.heap.size w w' := by
  have hab : (a ++ b).size ≤ 1048576 := by rw [ByteArray.size_append]; exact hs
  have wab : Lib.validD a.data.toList = true → width (a ++ b).data.toList n = width a.data.toList n + width b.data.toList n := fun h => by
    rw [show (a ++ b).data.toList = a.data.toList ++ b.data.toList by simp]
    exact width_append _ _ n h
  have cA := fun wx => width_any a n wx (by omega)
  have cR := fun wx => rwidth_any a n wx (by omega)
  have cB := fun wx => width_any b n wx (by omega)
  have cC := fun wx => width_any (a ++ b) n wx (by omega)
  have ba := width_bd a.data.toList n (by rw [size_len]; omega)
  have bb := width_bd b.data.toList n (by rw [size_len]; omega)
  obtain ⟨WA, hWA⟩ : ∃ W, width a.data.toList n = W := ⟨_, rfl⟩
  obtain ⟨WB, hWB⟩ : ∃ W, width b.data.toList n = W := ⟨_, rfl⟩
  obtain ⟨WC, hWC⟩ : ∃ W, width (a ++ b).data.toList n = W := ⟨_, rfl⟩
  rw [hWA] at cA cR wab ba
  rw [hWB] at cB wab bb
  rw [hWC] at cC wab
  have cV := fun (s : ByteArray) (hs : s.size ≤ 1048576) wx hTx => Tryd.utf8_ValidString s wx (by omega) hTx
  have cVa := cV a (by omega)
  have cVb := cV b (by omega)
  obtain ⟨VA, hVA⟩ : ∃ V, Lib.validD a.data.toList = V := ⟨_, rfl⟩
  obtain ⟨VB, hVB⟩ : ∃ V, Lib.validD b.data.toList = V := ⟨_, rfl⟩
  rw [hVA] at cVa wab
  rw [hVB] at cVb
  have A := Lib.hid cA
  have R := Lib.hid cR
  have B := Lib.hid cB
  have C := Lib.hid cC
  have Va := Lib.hid cVa
  have Vb := Lib.hid cVb
  clear cA cR cB cC cV cVa cVb hWA hWB hWC hVA hVB
  have fin : VA = true → WC = WA + WB := wab
  have HT := Lib.hid hT
  clear wab hT
  cases VA
  · go_enter Tryd.func11, Tryd.ntmps11
    go_wp2_with (first
      | (go_at_call 12; refine (fit_true _).mono ?_; rintro e w1 ⟨rfl, hb1⟩)
      | (go_at_call 22; with_reducible refine (A.out _).mono ?_; rintro e w2 ⟨rfl, hb2⟩)
      | (go_at_call 32; with_reducible refine (R.out _).mono ?_; rintro e w3 ⟨rfl, hb3⟩)
      | (go_at_call 33; with_reducible refine (Va.out _ (tabs_below (tabs_below (tabs_below HT.out hb1) hb2) hb3)).mono ?_; rintro e w4 ⟨rfl, hb4⟩))
    go_ret
    have z1 := hb1.size
    have z2 := hb2.size
    have z3 := hb3.size
    exact ⟨rfl, ((hb1.trans (hb2.mono z1)).trans (hb3.mono (by omega))).trans (hb4.mono (by omega))⟩
  · have f := fin rfl
    clear fin
    subst f
    cases VB
    · go_enter Tryd.func11, Tryd.ntmps11
      go_wp2_with (first
        | (go_at_call 12; refine (fit_true _).mono ?_; rintro e w1 ⟨rfl, hb1⟩)
        | (go_at_call 22; with_reducible refine (A.out _).mono ?_; rintro e w2 ⟨rfl, hb2⟩)
        | (go_at_call 32; with_reducible refine (R.out _).mono ?_; rintro e w3 ⟨rfl, hb3⟩)
        | (go_at_call 33; with_reducible refine (Va.out _ (tabs_below (tabs_below (tabs_below HT.out hb1) hb2) hb3)).mono ?_; rintro e w4 ⟨rfl, hb4⟩)
        | (go_at_call 33; with_reducible refine (Vb.out _ (tabs_below (tabs_below (tabs_below (tabs_below HT.out hb1) hb2) hb3) hb4)).mono ?_; rintro e w5 ⟨rfl, hb5⟩))
      go_ret
      have z1 := hb1.size
      have z2 := hb2.size
      have z3 := hb3.size
      have z4 := hb4.size
      exact ⟨rfl, (((hb1.trans (hb2.mono z1)).trans (hb3.mono (by omega))).trans (hb4.mono (by omega))).trans (hb5.mono (by omega))⟩
    · go_enter Tryd.func11, Tryd.ntmps11
      go_wp2_with (first
        | (go_at_call 12; refine (fit_true _).mono ?_; rintro e w1 ⟨rfl, hb1⟩)
        | (go_at_call 22; with_reducible refine (A.out _).mono ?_; rintro e w2 ⟨rfl, hb2⟩)
        | (go_at_call 32; with_reducible refine (R.out _).mono ?_; rintro e w3 ⟨rfl, hb3⟩)
        | (go_at_call 33; with_reducible refine (Va.out _ (tabs_below (tabs_below (tabs_below HT.out hb1) hb2) hb3)).mono ?_; rintro e w4 ⟨rfl, hb4⟩)
        | (go_at_call 33; with_reducible refine (Vb.out _ (tabs_below (tabs_below (tabs_below (tabs_below HT.out hb1) hb2) hb3) hb4)).mono ?_; rintro e w5 ⟨rfl, hb5⟩)
        | (go_at_call 22; with_reducible refine (C.out _).mono ?_; rintro e w6 ⟨rfl, hb6⟩)
        | (go_at_call 22; with_reducible refine (B.out _).mono ?_; rintro e w7 ⟨rfl, hb7⟩))
      go_ret
      have z1 := hb1.size
      have z2 := hb2.size
      have z3 := hb3.size
      have z4 := hb4.size
      have z5 := hb5.size
      have z6 := hb6.size
      exact ⟨rfl, (((((hb1.trans (hb2.mono z1)).trans (hb3.mono (by omega))).trans (hb4.mono (by omega))).trans (hb5.mono (by omega))).trans (hb6.mono (by omega))).trans (hb7.mono (by omega))⟩
end Go.Proofs.YtcpklmolofbopaaDoor
