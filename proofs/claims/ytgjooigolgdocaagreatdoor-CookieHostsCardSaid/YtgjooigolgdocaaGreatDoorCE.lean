/- Cookies: whether an address has cookies. -/
import Derived.Test.YtgjooigolgdocaaGreatDoorCD
import Derived.Test.YtgjooigolgdocaaGreatDoorLV2
namespace Go.Proofs.YtgjooigolgdocaaGreatDoor
set_option linter.unusedVariables false
set_option linter.unusedSimpArgs false
open Go.RowKit

theorem brl {B : Nat} {w0 w1 : World} (hb : Below B w0 w1) : ∀ b o, b < B → w1.cell? ⟨b, o, none⟩ = w0.cell? ⟨b, o, none⟩ := fun b o h => hb.cell (p := ⟨b, o, none⟩) h
/-- an address has cookies -/
def takesB (u : U6) : Bool := validB u && !(u.1 == aboutL)
abbrev urlA (a b c d e f : ByteArray) : Value := .agg #[.string a, .string b, .string c, .string d, .string e, .string f]
abbrev urlL (a b c d e f : ByteArray) : List Value := [.string a, .string b, .string c, .string d, .string e, .string f]
abbrev u6 (a b c d e f : ByteArray) : U6 := (a.data.toList, b.data.toList, c.data.toList, d.data.toList, e.data.toList, f.data.toList)
structure USize (n : Nat) (a b c d e f : ByteArray) : Prop where
  a : a.size ≤ n
  b : b.size ≤ n
  c : c.size ≤ n
  d : d.size ≤ n
  e : e.size ≤ n
  f : f.size ≤ n
theorem neq_about (a : ByteArray) : (a.toList != aboutL) = !(a.data.toList == aboutL) := by rw [ByteArray.toList_eq]; rfl
set_option maxRecDepth 20000 in
theorem takes_is (a b c d e f : ByteArray) (T : Bool) (hT : takesB (u6 a b c d e f) = T) (w : World) (hz : USize 40000 a b c d e f) (hM : MaxAt w) :
    Calls Tryz.prog 34 #[urlA a b c d e f] w fun x w' => x = .returned (.bool T) ∧ Below w.heap.size w w' := by
  have cV := fun w hM => valid_any a b c d e f w hz.a hz.b hz.c hz.d hz.e hz.f hM
  obtain ⟨V, hV⟩ : ∃ V, validB (u6 a b c d e f) = V := ⟨_, rfl⟩
  have hn := neq_about a
  have hT2 : (V && !(a.data.toList == aboutL)) = T := by rw [← hT, ← hV]; rfl
  rw [hV] at cV
  rw [← hn] at hT2
  obtain ⟨N, hN⟩ : ∃ N, (a.toList != aboutL) = N := ⟨_, rfl⟩
  rw [hN] at hT2
  have CV := Lib.hid cV
  have HT := Lib.hid hT2
  have A0 := AtL.new w (urlL a b c d e f) 23
  have hB0 : Below w.heap.size w (w.alloc (.cells #[.string a, .string b, .string c, .string d, .string e, .string f] 23)) := (Below.refl _ w).alloc (Nat.le_refl _) _
  have hM0 := hM.below hB0 (Nat.le_refl _)
  clear cV hT hV hn hT2 hM hz
  cases V
  · cases N
    all_goals
      go_enter Tryz.func34, Tryz.ntmps34
      go_wp2_with (go_at_call 73; with_reducible refine (CV.out _ hM0).mono ?_; rintro x w1 ⟨rfl, hb1⟩; have hB1 := hB0.trans (hb1.mono hB0.size))
      go_ret
      exact ⟨ret_bool (by rw [← HT.out]; rfl), hB1⟩
  · cases N
    all_goals
      have hN1 := hN
      have hN2 : (a.toList == [97, 98, 111, 117, 116]) = !(a.toList != aboutL) := by simp [bne]
      rw [hN] at hN2
      clear hN
      go_enter Tryz.func34, Tryz.ntmps34
      go_wp2_with (go_at_call 73; with_reducible refine (CV.out _ hM0).mono ?_; rintro x w1 ⟨rfl, hb1⟩; have hB1 := hB0.trans (hb1.mono hB0.size); have A1 := A0.next hb1; have z0 := A1.c 0 rfl)
      go_ret
      exact ⟨ret_bool (by rw [← HT.out]; first | rfl | (rw [← hN1]; rfl)), hB1⟩
set_option maxRecDepth 20000 in
theorem has_is (a b c d e f : ByteArray) (T : Bool) (hT : takesB (u6 a b c d e f) = T) (w : World) (hz : USize 40000 a b c d e f) (hM : MaxAt w) :
    Calls Tryz.prog 44 #[urlA a b c d e f] w fun x w' => x = .returned (.bool T) ∧ Below w.heap.size w w' := by
  have cV := fun w hM => rvalid_any a b c d e f w hz.a hz.b hz.c hz.d hz.e hz.f hM
  obtain ⟨V, hV⟩ : ∃ V, validB (u6 a b c d e f) = V := ⟨_, rfl⟩
  have hn := neq_about a
  have hT2 : (V && !(a.data.toList == aboutL)) = T := by rw [← hT, ← hV]; rfl
  rw [hV] at cV
  rw [← hn] at hT2
  obtain ⟨N, hN⟩ : ∃ N, (a.toList != aboutL) = N := ⟨_, rfl⟩
  rw [hN] at hT2
  have CV := Lib.hid cV
  have HT := Lib.hid hT2
  have hB0 : Below w.heap.size w (w.alloc (.cells #[.string a, .string b, .string c, .string d, .string e, .string f] 23)) := (Below.refl _ w).alloc (Nat.le_refl _) _
  have hM0 := hM.below hB0 (Nat.le_refl _)
  have hN2 : (a.toList == [97, 98, 111, 117, 116]) = !(a.toList != aboutL) := by simp [bne]
  rw [hN] at hN2
  clear cV hT hV hn hT2 hM hz
  cases N
  · go_enter Tryz.func44, Tryz.ntmps44
    go_wp2_with fail
    go_ret
    exact ⟨ret_bool (by rw [← HT.out]; cases V <;> rfl), hB0⟩
  · go_enter Tryz.func44, Tryz.ntmps44
    go_wp2_with (go_at_call 81; with_reducible refine (CV.out _ hM0).mono ?_; rintro x w1 ⟨rfl, hb1⟩; have hB1 := hB0.trans (hb1.mono hB0.size))
    go_ret
    exact ⟨ret_bool (by rw [← HT.out]; cases V <;> rfl), hB1⟩
end Go.Proofs.YtgjooigolgdocaaGreatDoor
