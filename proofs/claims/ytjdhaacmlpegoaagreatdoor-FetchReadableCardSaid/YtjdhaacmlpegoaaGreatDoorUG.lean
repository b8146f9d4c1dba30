/- A text whose bytes are kept or turned to codes: the code's way, by a Builder. -/
import Derived.Test.YtjdhaacmlpegoaaGreatDoorUF
namespace Go.Proofs.YtjdhaacmlpegoaaGreatDoor
set_option linter.unusedVariables false
set_option linter.unusedSimpArgs false
open Go.RowKit

def conv (keep : List UInt8) (codes : Bool) : List UInt8 → List UInt8
  | [] => []
  | c :: r => (if okC keep c || (codes && codedL (c :: r)) then [c] else pct c) ++ conv keep codes r
theorem conv_len (keep : List UInt8) (codes : Bool) (l : List UInt8) : (conv keep codes l).length ≤ 3 * l.length := by
  induction l with
  | nil => simp [conv]
  | cons c r ih => unfold conv; split <;> simp [pct] <;> omega
theorem digs_get (n : Nat) (h : n < digsS.size) : digsS[n] = dig n := by
  have : ∀ i : Fin 16, digsS[i.1]'(by have := i.2; show _ < 16; omega) = dig i.1 := by decide
  exact this ⟨n, h⟩
theorem pct_cells (b : UInt8) : Lib.byteCells (pct b) = [Value.int .u8 37, .int .u8 ((digsS[b.toNat / 16]'(by have := b.toNat_lt; show _ < 16; omega)).toNat : Int), .int .u8 ((digsS[b.toNat % 16]'(by have := b.toNat_lt; show _ < 16; omega)).toNat : Int)] := by
  rw [digs_get, digs_get]; rfl
set_option maxRecDepth 20000 in
set_option maxHeartbeats 1000000 in
theorem convertT_any (s keep : ByteArray) (w : World) (hs : s.size ≤ 1000000) :
    Calls Tryz.prog 61 #[.string s, .string keep, .bool true] w fun e w' => ∃ t : ByteArray, e = .returned (.string t) ∧ t.data.toList = conv keep.data.toList true s.data.toList ∧ Below w.heap.size w w' := by
  obtain ⟨R, hR⟩ : ∃ R, conv keep.data.toList true s.data.toList = R := ⟨_, rfl⟩
  have hRl : R.length ≤ 3 * s.size := by rw [← hR, ← size_len]; exact conv_len _ _ _
  rw [hR]
  have HR := Lib.hid hR
  clear hR
  go_enter Tryz.func61, Tryz.ntmps61
  go_wp2
  go_loopw [8] (fun i wr => ∃ (k : Nat) (acc : List UInt8), k ≤ s.size ∧ i = .int .i64 k ∧ Lib.IsBuilderF 148 5 w.heap.size w.heap.size (Lib.byteCells acc) wr ∧ Below w.heap.size w wr ∧ acc ++ conv keep.data.toList true (s.data.toList.drop k) = R) (fun i _ => s.size - (intOf i).toNat)
  case atStart => exact ⟨0, [], Nat.zero_le _, rfl, Lib.IsBuilderF.of (Lib.fresh_isBuilder 148 5 w), (Below.refl _ w).alloc (Nat.le_refl _) _, HR.out⟩
  case round =>
    obtain ⟨k, acc, hk, rfl, hI, hbw, hacc⟩ := hrel
    have hal : acc.length ≤ 3000000 := by have := congrArg List.length hacc; simp at this; omega
    have hwz := hbw.size
    by_cases hlt : k < s.size
    · have hki : (k : Int) < (s.size : Int) := by omega
      have hcd : conv keep.data.toList true (s.data.toList.drop k) = (if okC keep.data.toList s[k] || (true && codedL (s.data.toList.drop k)) then [s[k]] else pct s[k]) ++ conv keep.data.toList true (s.data.toList.drop (k + 1)) := by
        rw [drop_at s k hlt, conv]
      rw [hcd] at hacc
      have cI := Tryz.strings_IndexByte keep (s[k].toNat : Int)
      rw [byte_back] at cI
      have hc := idx_in keep.data.toList s[k]
      have ho : okC keep.data.toList s[k] = (letterI s[k].toNat || digitI s[k].toNat || keep.data.toList.contains s[k]) := rfl
      have hge := Lib.indexByte_ge keep.data.toList s[k]
      obtain ⟨x, hxe⟩ : ∃ x, Lib.indexByte keep.data.toList s[k] = x := ⟨_, rfl⟩
      rw [hxe] at cI hc hge
      obtain ⟨C, hC⟩ : ∃ C, keep.data.toList.contains s[k] = C := ⟨_, rfl⟩
      rw [hC] at hc ho
      have cD := fun w => coded_any s k w hs hlt
      obtain ⟨D, hD⟩ : ∃ D, codedL (s.data.toList.drop k) = D := ⟨_, rfl⟩
      rw [hD] at cD hacc
      rw [ho] at hacc
      have cL := fun w => letter_any (s[k].toNat : Int) w
      have cG := fun w => digit_any (s[k].toNat : Int) w
      obtain ⟨LE, hLE⟩ : ∃ D, letterI (s[k].toNat : Int) = D := ⟨_, rfl⟩
      obtain ⟨DI, hDI⟩ : ∃ D, digitI (s[k].toNat : Int) = D := ⟨_, rfl⟩
      rw [hLE] at cL hacc
      rw [hDI] at cG hacc
      have hx : (C = false ∧ x = -1) ∨ (C = true ∧ ∃ n : Nat, x = n) := by
        cases C <;> simp at hc
        · exact .inl ⟨rfl, by omega⟩
        · exact .inr ⟨rfl, x.toNat, by omega⟩
      have I := Lib.hid cI
      have D1 := Lib.hid cD
      have L1 := Lib.hid cL
      have G1 := Lib.hid cG
      have HA := Lib.hid hacc
      clear cI cD cL cG hacc hC hD hLE hDI hxe hge hc ho hcd
      rcases hx with ⟨rfl, rfl⟩ | ⟨rfl, n, rfl⟩
      all_goals
        go_wp2_with (first
          | (go_at_call 106; with_reducible refine (L1.out _).mono ?_; rintro e w' ⟨rfl, rfl⟩)
          | (go_at_call 108; with_reducible refine (G1.out _).mono ?_; rintro e w' ⟨rfl, rfl⟩)
          | (go_at_call 64; with_reducible refine (I.out _).mono ?_; rintro e w' ⟨rfl, rfl⟩)
          | (go_at_call 109; with_reducible refine (D1.out _).mono ?_; rintro e w' ⟨rfl, rfl⟩)
          | (go_at_call 110; refine (Tryz.Builder_WriteByte_k w.heap.size w.heap.size _ _ _ (Or.inr h2) (by simp [Lib.byteCells_length]; omega) hz2).mono ?_; rintro e W3 ⟨rfl, h3, b3, k3⟩)
          | (go_at_call 110; refine (Tryz.Builder_WriteByte_k w.heap.size w.heap.size _ _ _ (Or.inr h1) (by simp [Lib.byteCells_length]; omega) hz1).mono ?_; rintro e W2 ⟨rfl, h2, b2, k2⟩; have hz2 := Nat.le_trans hz1 b2.size)
          | (go_at_call 110; refine (Tryz.Builder_WriteByte_k w.heap.size w.heap.size _ _ _ hI (by rw [Lib.byteCells_length]; omega) hwz).mono ?_; rintro e W1 ⟨rfl, h1, b1, k1⟩; have hz1 := Nat.le_trans hwz b1.size))
        all_goals first
          | (go_roundw
             case rel =>
               refine ⟨k + 1, acc ++ [s[k]], by omega, by go_num, ?_, hbw.trans b1, ?_⟩
               · rw [Lib.byteCells_append]; exact Or.inr h1
               · rw [← HA.out]; simp [*]
             case measure => simp [intOf]; omega)
          | (have hq := byte_bd s[k]; exfalso; omega)
          | (go_roundw
             case rel =>
               refine ⟨k + 1, acc ++ pct s[k], by omega, by go_num, ?_, ((hbw.trans b1).trans b2).trans b3, ?_⟩
               · rw [Lib.byteCells_append, pct_cells]
                 simp only [List.append_assoc, List.singleton_append, List.cons_append, List.nil_append] at h3
                 exact Or.inr h3
               · rw [← HA.out]; simp [*]
             case measure => simp [intOf]; omega)
    · rw [drop_end s k (by omega), conv, List.append_nil] at hacc
      subst hacc
      go_wp2_with (go_at_call 111; refine (Tryz.Builder_String_any_k w.heap.size w.heap.size acc _ hI hbw.size).mono ?_)
      rintro e W1 ⟨rfl, _, b1, _⟩
      go_wp2
      go_ret
      exact ⟨_, rfl, rfl, hbw.trans b1⟩
set_option maxRecDepth 20000 in
set_option maxHeartbeats 1000000 in
theorem convertF_any (s keep : ByteArray) (w : World) (hs : s.size ≤ 1000000) :
    Calls Tryz.prog 61 #[.string s, .string keep, .bool false] w fun e w' => ∃ t : ByteArray, e = .returned (.string t) ∧ t.data.toList = conv keep.data.toList false s.data.toList ∧ Below w.heap.size w w' := by
  obtain ⟨R, hR⟩ : ∃ R, conv keep.data.toList false s.data.toList = R := ⟨_, rfl⟩
  have hRl : R.length ≤ 3 * s.size := by rw [← hR, ← size_len]; exact conv_len _ _ _
  rw [hR]
  have HR := Lib.hid hR
  clear hR
  go_enter Tryz.func61, Tryz.ntmps61
  go_wp2
  go_loopw [8] (fun i wr => ∃ (k : Nat) (acc : List UInt8), k ≤ s.size ∧ i = .int .i64 k ∧ Lib.IsBuilderF 148 5 w.heap.size w.heap.size (Lib.byteCells acc) wr ∧ Below w.heap.size w wr ∧ acc ++ conv keep.data.toList false (s.data.toList.drop k) = R) (fun i _ => s.size - (intOf i).toNat)
  case atStart => exact ⟨0, [], Nat.zero_le _, rfl, Lib.IsBuilderF.of (Lib.fresh_isBuilder 148 5 w), (Below.refl _ w).alloc (Nat.le_refl _) _, HR.out⟩
  case round =>
    obtain ⟨k, acc, hk, rfl, hI, hbw, hacc⟩ := hrel
    have hal : acc.length ≤ 3000000 := by have := congrArg List.length hacc; simp at this; omega
    have hwz := hbw.size
    by_cases hlt : k < s.size
    · have hki : (k : Int) < (s.size : Int) := by omega
      have hcd : conv keep.data.toList false (s.data.toList.drop k) = (if okC keep.data.toList s[k] || (false && codedL (s.data.toList.drop k)) then [s[k]] else pct s[k]) ++ conv keep.data.toList false (s.data.toList.drop (k + 1)) := by
        rw [drop_at s k hlt, conv]
      rw [hcd] at hacc
      have cI := Tryz.strings_IndexByte keep (s[k].toNat : Int)
      rw [byte_back] at cI
      have hc := idx_in keep.data.toList s[k]
      have ho : okC keep.data.toList s[k] = (letterI s[k].toNat || digitI s[k].toNat || keep.data.toList.contains s[k]) := rfl
      have hge := Lib.indexByte_ge keep.data.toList s[k]
      obtain ⟨x, hxe⟩ : ∃ x, Lib.indexByte keep.data.toList s[k] = x := ⟨_, rfl⟩
      rw [hxe] at cI hc hge
      obtain ⟨C, hC⟩ : ∃ C, keep.data.toList.contains s[k] = C := ⟨_, rfl⟩
      rw [hC] at hc ho
      have cD := fun w => coded_any s k w hs hlt
      obtain ⟨D, hD⟩ : ∃ D, codedL (s.data.toList.drop k) = D := ⟨_, rfl⟩
      rw [hD] at cD hacc
      rw [ho] at hacc
      have cL := fun w => letter_any (s[k].toNat : Int) w
      have cG := fun w => digit_any (s[k].toNat : Int) w
      obtain ⟨LE, hLE⟩ : ∃ D, letterI (s[k].toNat : Int) = D := ⟨_, rfl⟩
      obtain ⟨DI, hDI⟩ : ∃ D, digitI (s[k].toNat : Int) = D := ⟨_, rfl⟩
      rw [hLE] at cL hacc
      rw [hDI] at cG hacc
      have hx : (C = false ∧ x = -1) ∨ (C = true ∧ ∃ n : Nat, x = n) := by
        cases C <;> simp at hc
        · exact .inl ⟨rfl, by omega⟩
        · exact .inr ⟨rfl, x.toNat, by omega⟩
      have I := Lib.hid cI
      have D1 := Lib.hid cD
      have L1 := Lib.hid cL
      have G1 := Lib.hid cG
      have HA := Lib.hid hacc
      clear cI cD cL cG hacc hC hD hLE hDI hxe hge hc ho hcd
      rcases hx with ⟨rfl, rfl⟩ | ⟨rfl, n, rfl⟩
      all_goals
        go_wp2_with (first
          | (go_at_call 106; with_reducible refine (L1.out _).mono ?_; rintro e w' ⟨rfl, rfl⟩)
          | (go_at_call 108; with_reducible refine (G1.out _).mono ?_; rintro e w' ⟨rfl, rfl⟩)
          | (go_at_call 64; with_reducible refine (I.out _).mono ?_; rintro e w' ⟨rfl, rfl⟩)
          | (go_at_call 109; with_reducible refine (D1.out _).mono ?_; rintro e w' ⟨rfl, rfl⟩)
          | (go_at_call 110; refine (Tryz.Builder_WriteByte_k w.heap.size w.heap.size _ _ _ (Or.inr h2) (by simp [Lib.byteCells_length]; omega) hz2).mono ?_; rintro e W3 ⟨rfl, h3, b3, k3⟩)
          | (go_at_call 110; refine (Tryz.Builder_WriteByte_k w.heap.size w.heap.size _ _ _ (Or.inr h1) (by simp [Lib.byteCells_length]; omega) hz1).mono ?_; rintro e W2 ⟨rfl, h2, b2, k2⟩; have hz2 := Nat.le_trans hz1 b2.size)
          | (go_at_call 110; refine (Tryz.Builder_WriteByte_k w.heap.size w.heap.size _ _ _ hI (by rw [Lib.byteCells_length]; omega) hwz).mono ?_; rintro e W1 ⟨rfl, h1, b1, k1⟩; have hz1 := Nat.le_trans hwz b1.size))
        all_goals first
          | (go_roundw
             case rel =>
               refine ⟨k + 1, acc ++ [s[k]], by omega, by go_num, ?_, hbw.trans b1, ?_⟩
               · rw [Lib.byteCells_append]; exact Or.inr h1
               · rw [← HA.out]; simp [*]
             case measure => simp [intOf]; omega)
          | (have hq := byte_bd s[k]; exfalso; omega)
          | (go_roundw
             case rel =>
               refine ⟨k + 1, acc ++ pct s[k], by omega, by go_num, ?_, ((hbw.trans b1).trans b2).trans b3, ?_⟩
               · rw [Lib.byteCells_append, pct_cells]
                 simp only [List.append_assoc, List.singleton_append, List.cons_append, List.nil_append] at h3
                 exact Or.inr h3
               · rw [← HA.out]; simp [*]
             case measure => simp [intOf]; omega)
    · rw [drop_end s k (by omega), conv, List.append_nil] at hacc
      subst hacc
      go_wp2_with (go_at_call 111; refine (Tryz.Builder_String_any_k w.heap.size w.heap.size acc _ hI hbw.size).mono ?_)
      rintro e W1 ⟨rfl, _, b1, _⟩
      go_wp2
      go_ret
      exact ⟨_, rfl, rfl, hbw.trans b1⟩
theorem convert_any (s keep : ByteArray) (codes : Bool) (w : World) (hs : s.size ≤ 1000000) :
    Calls Tryz.prog 61 #[.string s, .string keep, .bool codes] w fun e w' => ∃ t : ByteArray, e = .returned (.string t) ∧ t.data.toList = conv keep.data.toList codes s.data.toList ∧ Below w.heap.size w w' := by
  cases codes
  · exact convertF_any s keep w hs
  · exact convertT_any s keep w hs
end Go.Proofs.YtjdhaacmlpegoaaGreatDoor
