/- Unescape (both packages). -/
import Derived.Test.YtgbinadjbikhhaaDoorLPA
import Derived.IntWalk
import Derived.Deep.RegionHeld3
namespace Go.Proofs.YtgbinadjbikhhaaDoor
set_option linter.unusedVariables false
set_option linter.unusedSimpArgs false
open Go.RowKit

/-- what a percent code says at an offset -/
theorem coded_at (s : ByteArray) (k : Nat) (h : k < s.size) (hc : codedL (s.data.toList.drop k) = true) : ∃ (h2 : k + 2 < s.size) (x y : Nat), x ≤ 15 ∧ y ≤ 15 ∧ hexI (s[k + 1].toNat : Int) = x ∧ hexI (s[k + 2].toNat : Int) = y ∧ s[k] = 37 ∧ unescL (s.data.toList.drop k) = UInt8.ofNat (x * 16 + y) :: unescL (s.data.toList.drop (k + 3)) := by
  have h2 : k + 2 < s.size := by
    by_cases h3 : k + 2 < s.size
    · exact h3
    · rw [codedL_short _ (by simp; omega)] at hc; cases hc
  rw [drop3 s k h2] at hc ⊢
  have hc2 := hc
  simp only [codedL, Bool.and_eq_true, beq_iff_eq, decide_eq_true_eq] at hc2
  obtain ⟨⟨h37, hx⟩, hy⟩ := hc2
  have bx : hexI (s[k + 1].toNat : Int) ≤ 15 := (hexI_bd _).2
  have by' : hexI (s[k + 2].toNat : Int) ≤ 15 := (hexI_bd _).2
  unfold hexB at hx hy
  refine ⟨h2, (hexI (s[k + 1].toNat : Int)).toNat, (hexI (s[k + 2].toNat : Int)).toNat, by omega, by omega, by omega, by omega, h37, ?_⟩
  rw [unesc_coded _ _ _ _ hc]; rfl
theorem builder_drew {T e B b : Nat} {l : List Value} {w : World} (h : Lib.IsBuilderF T e B b l w) : Lib.IsBuilderF T e B b l w.drew := by
  first | exact h | simpa using h
theorem hexes16 : ∀ x y : Fin 16, IntKind.u8.wrap (bits BinOp.or IntKind.i64 (IntKind.i64.wrap ((x.1 : Int) * 16)) (y.1 : Int)) = ((UInt8.ofNat (x.1 * 16 + y.1)).toNat : Int) := by decide +kernel
theorem hexes (x y : Nat) (hx : x ≤ 15) (hy : y ≤ 15) : IntKind.u8.wrap (bits BinOp.or IntKind.i64 (IntKind.i64.wrap ((x : Int) * 16)) (y : Int)) = ((UInt8.ofNat (x * 16 + y)).toNat : Int) := hexes16 ⟨x, by omega⟩ ⟨y, by omega⟩
set_option maxRecDepth 20000 in
set_option maxHeartbeats 1000000 in
theorem unescape_any (s : ByteArray) (w : World) (hs : s.size ≤ 1000000) :
    Calls Tryd.prog 24 #[.string s] w fun e w' => ∃ t : ByteArray, e = .returned (.string t) ∧ t.data.toList = unescL s.data.toList ∧ Below w.heap.size w w' := by
  obtain ⟨R, hR⟩ : ∃ R, unescL s.data.toList = R := ⟨_, rfl⟩
  have hRl : R.length ≤ s.size := by rw [← hR, ← size_len]; exact unesc_len _
  rw [hR]
  have HR := Lib.hid hR
  clear hR
  go_enter Tryd.func24, Tryd.ntmps24
  go_wp2
  go_loopw [4] (fun i wr => ∃ (k : Nat) (acc : List UInt8), k ≤ s.size ∧ i = .int .i64 k ∧ Lib.IsBuilderF 71 5 w.heap.size w.heap.size (Lib.byteCells acc) wr ∧ Below w.heap.size w wr ∧ acc ++ unescL (s.data.toList.drop k) = R) (fun i _ => s.size - (intOf i).toNat)
  case atStart => exact ⟨0, [], Nat.zero_le _, rfl, Lib.IsBuilderF.of (Lib.fresh_isBuilder 71 5 w), (Below.refl _ w).alloc (Nat.le_refl _) _, HR.out⟩
  case round =>
    obtain ⟨k, acc, hk, rfl, hI, hbw, hacc⟩ := hrel
    have hal : acc.length ≤ 1000000 := by have := congrArg List.length hacc; simp at this; omega
    have hwz := hbw.size
    by_cases hlt : k < s.size
    · have hki : (k : Int) < (s.size : Int) := by omega
      have cD := fun w => coded_any s k w hs hlt
      cases hD : codedL (s.data.toList.drop k)
      · rw [hD] at cD
        have hu : unescL (s.data.toList.drop k) = s[k] :: unescL (s.data.toList.drop (k + 1)) := by
          rw [drop_at s k hlt] at hD ⊢
          exact unesc_plain _ _ hD
        rw [hu] at hacc
        have D1 := Lib.hid cD
        have HA := Lib.hid hacc
        clear cD hD hu hacc
        go_wp2_with (first
          | (go_at_call 59; with_reducible refine (D1.out _).mono ?_; rintro e w' ⟨rfl, rfl⟩)
          | (go_at_call 60; refine (Tryd.Builder_WriteByte_k w.heap.size w.heap.size _ _ _ hI (by rw [Lib.byteCells_length]; omega) hwz).mono ?_; rintro e W1 ⟨rfl, h1, b1, k1⟩))
        go_roundw
        case rel =>
          refine ⟨k + 1, acc ++ [s[k]], by omega, by go_num, ?_, hbw.trans b1, ?_⟩
          · rw [Lib.byteCells_append]; exact Or.inr h1
          · rw [← HA.out]; simp
        case measure => simp [intOf]; omega
      · obtain ⟨h2, x, y, hx, hy, ex, ey, -, hu⟩ := coded_at s k hlt hD
        rw [hu] at hacc
        rw [hD] at cD
        have h2i : (k : Int) + 2 < (s.size : Int) := by omega
        have cX := fun w => hex_any (s[k + 1].toNat : Int) w (byte_bd _)
        have cY := fun w => hex_any (s[k + 2].toNat : Int) w (byte_bd _)
        rw [ex] at cX
        rw [ey] at cY
        have D1 := Lib.hid cD
        have X1 := Lib.hid cX
        have Y1 := Lib.hid cY
        have HA := Lib.hid hacc
        clear cD hD hu hacc cX cY ex ey
        go_wp2_with (go_at_call 59; with_reducible refine (D1.out _).mono ?_; rintro e w' ⟨rfl, rfl⟩)
        have s1 : IntKind.i64.wrap ((k : Int) + 1) = (k : Int) + 1 := IntWalk.i64_in _ (by omega)
        have s2 : IntKind.i64.wrap ((k : Int) + 2) = (k : Int) + 2 := IntWalk.i64_in _ (by omega)
        have p1 : (0 : Int) ≤ (k : Int) + 1 := by omega
        have p2 : (0 : Int) ≤ (k : Int) + 2 := by omega
        have q1 : ((k : Int) + 1).toNat = k + 1 := by omega
        have q2 : ((k : Int) + 2).toNat = k + 2 := by omega
        have l1 : (k : Int) + 1 < (s.size : Int) := by omega
        go_region_with (first
          | (go_at_call 61; with_reducible refine (X1.out _).mono ?_; rintro e w' ⟨rfl, rfl⟩)
          | (go_at_call 61; with_reducible refine (Y1.out _).mono ?_; rintro e w' ⟨rfl, rfl⟩)
          | (go_at_call 60; refine (Tryd.Builder_WriteByte_k w.heap.size w.heap.size _ _ _ (builder_drew hI) (by rw [Lib.byteCells_length]; omega) hwz).mono ?_; rintro e W1 ⟨rfl, h1, b1, k1⟩))
        all_goals
          go_wp2_with fail
          go_roundw
          case rel =>
            refine ⟨k + 3, acc ++ [UInt8.ofNat (x * 16 + y)], by omega, by go_num, ?_, hbw.trans ((Below.refl _ wr).drew.trans b1), ?_⟩
            · rw [hexes x y hx hy] at h1
              rw [Lib.byteCells_append]; exact Or.inr h1
            · rw [← HA.out]; simp
          case measure => simp [intOf]; omega
    · rw [drop_end s k (by omega), unescL, List.append_nil] at hacc
      subst hacc
      go_wp2_with (go_at_call 62; refine (Tryd.Builder_String_any_k w.heap.size w.heap.size acc _ hI hbw.size).mono ?_)
      rintro e W1 ⟨rfl, _, b1, _⟩
      go_wp2
      go_ret
      exact ⟨_, rfl, rfl, hbw.trans b1⟩
end Go.Proofs.YtgbinadjbikhhaaDoor
