/- Cache: what confirms a response; what may be stored. -/
import Derived.Test.YtkobhknggamejaaGreatDoorHF
import Derived.Test.YtkobhknggamejaaGreatDoorB2
namespace Go.Proofs.YtkobhknggamejaaGreatDoor
set_option linter.unusedVariables false
set_option linter.unusedSimpArgs false
open Go.RowKit

theorem slH : SlTy Tryz.prog 22 68 2 32 := .mk' (z := .agg #[.string ⟨#[]⟩, .string ⟨#[]⟩]) Tryz.underlying22 (by kernel_rfl) rfl (by decide)
abbrev etS : ByteArray := ⟨#[101, 116, 97, 103]⟩
abbrev lmS : ByteArray := ⟨#[108, 97, 115, 116, 45, 109, 111, 100, 105, 102, 105, 101, 100]⟩
abbrev inmS : ByteArray := ⟨#[73, 102, 45, 78, 111, 110, 101, 45, 77, 97, 116, 99, 104]⟩
abbrev imsS : ByteArray := ⟨#[73, 102, 45, 77, 111, 100, 105, 102, 105, 101, 100, 45, 83, 105, 110, 99, 101]⟩
/-- the headers by which a response can be confirmed -/
def chkL (hs : List Hd) : List Hd := ((hdrL hs etS.data.toList).map (fun v => (inmS, v))).toList ++ ((hdrL hs lmS.data.toList).map (fun v => (imsS, v))).toList
/-- a row of headers as an answer; an empty one is nil -/
def HdsQ (w : World) (L : List Hd) (x : Ending) (w' : World) : Prop := ∃ v, x = .returned v ∧ w'.ownsRow w.heap.size 68 2 v L.length (cellsK hdC L) ∧ (L = [] → v = .slice none 0 0) ∧ Below w.heap.size w w'
theorem hdsq_open {w : World} {L : List Hd} {x : Ending} {w' : World} (h : HdsQ w L x w') : (L = [] ∧ x = .returned (.slice none 0 0) ∧ Below w.heap.size w w') ∨ (L ≠ [] ∧ ∃ g c, x = .returned (.slice (some ⟨g, 0, none⟩) L.length c) ∧ w'.ownsRow w.heap.size 68 2 (.slice (some ⟨g, 0, none⟩) L.length c) L.length (cellsK hdC L) ∧ Below w.heap.size w w') := by
  obtain ⟨v, rfl, h1, h2, h3⟩ := h
  by_cases h0 : L = []
  · exact .inl ⟨h0, by rw [h2 h0], h3⟩
  · obtain ⟨a, c, rfl, _, _, ha⟩ := own_reads h1
    rcases ha with ⟨_, hl⟩ | ⟨g, rfl, _⟩
    · exact absurd (List.eq_nil_of_length_eq_zero hl) h0
    · exact .inr ⟨h0, g, c, rfl, h1, h3⟩
set_option maxRecDepth 20000 in
theorem chk_is (hs : List Hd) (v : Value) (w : World) (hv : SlK hdC 2 w v hs) (hz : HdSz hs) (L : List Hd) (hL : chkL hs = L) :
    Calls Tryz.prog 51 #[v] w (HdsQ w L) := by
  unfold chkL at hL
  have c1 := fun V B hV hB => hdr_at hs v etS w hv hz (by decide) V B hV hB
  have c2 := fun w hv V B hV hB => hdr_at hs v lmS w hv hz (by decide) V B hV hB
  obtain ⟨sa, sc, rfl, _⟩ := hv.shape
  cases h1 : hdrL hs etS.data.toList with
  | none =>
    cases h2 : hdrL hs lmS.data.toList with
    | none =>
      rw [h1] at c1 hL
      rw [h2] at c2 hL
      have C1 := Lib.hid (c1 _ _ rfl rfl)
      have C2 := Lib.hid (fun w hv => c2 w hv _ _ rfl rfl)
      obtain rfl : L = [] := hL.symm
      clear c1 c2 h1 h2 hL
      go_enter Tryz.func51, Tryz.ntmps51
      go_wp2_with (first
        | (go_at_call 12; with_reducible refine C1.out.mono ?_; rintro e w1 ⟨rfl, hb1⟩; have hv1 := hv.below hb1 (Nat.le_refl _))
        | (go_at_call 12; with_reducible refine (C2.out _ hv1).mono ?_; rintro e w2 ⟨rfl, hb2⟩))
      go_ret
      exact ⟨_, rfl, World.ownsRow_nil _ _ _ _, fun _ => rfl, hb1.trans (hb2.mono hb1.size)⟩
    | some b =>
      rw [h1] at c1 hL
      rw [h2] at c2 hL
      have C1 := Lib.hid (c1 _ _ rfl rfl)
      have C2 := Lib.hid (fun w hv => c2 w hv b true rfl rfl)
      obtain rfl : L = [(imsS, b)] := hL.symm
      clear c1 c2 h1 h2 hL
      go_enter Tryz.func51, Tryz.ntmps51
      go_wp2_with (first
        | (go_at_call 12; with_reducible refine C1.out.mono ?_; rintro e w1 ⟨rfl, hb1⟩; have hv1 := hv.below hb1 (Nat.le_refl _))
        | (go_at_call 12; with_reducible refine (C2.out _ hv1).mono ?_; rintro e w2 ⟨rfl, hb2⟩; have hB2 := hb1.trans (hb2.mono hb1.size); have hz2 := hB2.size)
        | (refine app2 slH _ (by rfl) (.tmp 25) (.tmp 28) (by rfl) w.heap.size _ _ _ (by rfl) (World.ownsRow_nil w2 w.heap.size 68 2) [_, _] 1 _ (by rfl) rfl (by rfl) (by intro u hu; simp at hu; rcases hu with rfl | rfl <;> rfl) (by decide) (by omega) (by omega) hz2 ?_; intro v3 w3 hA gA fA; have hB3 := below_own hB2 (World.ownsRow_nil w2 w.heap.size 68 2) gA hz2 (Nat.le_refl _)))
      go_ret
      exact ⟨_, rfl, own_eq hA (by rfl) (by rfl), (fun h => by cases h), hB3⟩
  | some a =>
    cases h2 : hdrL hs lmS.data.toList with
    | none =>
      rw [h1] at c1 hL
      rw [h2] at c2 hL
      have C1 := Lib.hid (c1 a true rfl rfl)
      have C2 := Lib.hid (fun w hv => c2 w hv _ _ rfl rfl)
      obtain rfl : L = [(inmS, a)] := hL.symm
      clear c1 c2 h1 h2 hL
      go_enter Tryz.func51, Tryz.ntmps51
      go_wp2_with (first
        | (go_at_call 12; with_reducible refine C1.out.mono ?_; rintro e w1 ⟨rfl, hb1⟩; have hz1 := hb1.size)
        | (refine app2 slH _ (by rfl) (.tmp 14) (.tmp 17) (by rfl) w.heap.size _ _ _ (by rfl) (World.ownsRow_nil w1 w.heap.size 68 2) [_, _] 1 _ (by rfl) rfl (by rfl) (by intro u hu; simp at hu; rcases hu with rfl | rfl <;> rfl) (by decide) (by omega) (by omega) hz1 ?_; intro v3 w3 hA gA fA; have hB3 := below_own hb1 (World.ownsRow_nil w1 w.heap.size 68 2) gA hz1 (Nat.le_refl _); have hv3 := hv.below hB3 (Nat.le_refl _))
        | (go_at_call 12; with_reducible refine (C2.out _ hv3).mono ?_; rintro e w4 ⟨rfl, hb4⟩))
      go_ret
      exact ⟨_, rfl, own_eq (own_below hA hb4 (Nat.le_refl _)) (by rfl) (by rfl), (fun h => by cases h), hB3.trans (hb4.mono hB3.size)⟩
    | some b =>
      rw [h1] at c1 hL
      rw [h2] at c2 hL
      have C1 := Lib.hid (c1 a true rfl rfl)
      have C2 := Lib.hid (fun w hv => c2 w hv b true rfl rfl)
      obtain rfl : L = [(inmS, a), (imsS, b)] := hL.symm
      clear c1 c2 h1 h2 hL
      go_enter Tryz.func51, Tryz.ntmps51
      go_wp2_with (first
        | (go_at_call 12; with_reducible refine C1.out.mono ?_; rintro e w1 ⟨rfl, hb1⟩; have hz1 := hb1.size)
        | (refine app2 slH _ (by rfl) (.tmp 14) (.tmp 17) (by rfl) w.heap.size _ _ _ (by rfl) (World.ownsRow_nil w1 w.heap.size 68 2) [_, _] 1 _ (by rfl) rfl (by rfl) (by intro u hu; simp at hu; rcases hu with rfl | rfl <;> rfl) (by decide) (by omega) (by omega) hz1 ?_; intro v3 w3 hA gA fA; have hB3 := below_own hb1 (World.ownsRow_nil w1 w.heap.size 68 2) gA hz1 (Nat.le_refl _); have hv3 := hv.below hB3 (Nat.le_refl _))
        | (go_at_call 12; with_reducible refine (C2.out _ hv3).mono ?_; rintro e w4 ⟨rfl, hb4⟩; have hA4 := own_below hA hb4 (Nat.le_refl _); have hB4 := hB3.trans (hb4.mono hB3.size); have hz4 := hB4.size)
        | (refine app2 slH _ (by rfl) (.tmp 25) (.tmp 28) (by rfl) w.heap.size _ _ _ (by rfl) hA4 [_, _] 1 _ (by rfl) rfl (by rfl) (by intro u hu; simp at hu; rcases hu with rfl | rfl <;> rfl) (by decide) (by omega) (by omega) hz4 ?_; intro v5 w5 hA5 gA5 fA5; have hB5 := below_own hB4 hA4 gA5 hz4 (Nat.le_refl _)))
      go_ret
      exact ⟨_, rfl, own_eq hA5 (by rfl) (by rfl), (fun h => by cases h), hB5⟩
end Go.Proofs.YtkobhknggamejaaGreatDoor
