/- The walks of the reference's Width, of Trim, of part and of Fit. -/
import Derived.Test.YtcpklmolofbopaaDoorC
namespace Go.Proofs.YtcpklmolofbopaaDoor
open Go.RowKit

/-- the width of a list of characters -/
def wsum (l : List (Nat × Int)) (n : Int) : Int := (l.map fun c => char c.2 n).sum
theorem wsum_bd (l : List (Nat × Int)) (n : Int) : 0 ≤ wsum l n ∧ wsum l n ≤ 1048576 * (l.length : Int) := by
  unfold wsum
  induction l with
  | nil => simp
  | cons c t ih =>
    have h1 := char_lo c.2 n
    have h2 := char_hi c.2 n
    simp only [List.map_cons, List.sum_cons, List.length_cons]
    omega
theorem wsum_snoc (l : List (Nat × Int)) (c : Nat × Int) (n : Int) : wsum (l ++ [c]) n = wsum l n + char c.2 n := by simp [wsum]
theorem width_wsum (l : List UInt8) (n : Int) : width l n = wsum (chars l) n := rfl

set_option maxHeartbeats 400000 in
theorem rwidth_any (s : ByteArray) (n : Int) (w : World) (hs : s.size ≤ 2097152) :
    Calls Tryd.prog 32 #[.string s, .int .i64 n] w fun e w' => e = .returned (.int .i64 (width s.data.toList n)) ∧ Below w.heap.size w w' := by
  rw [width_wsum]
  have hlen := chars_len s.data.toList
  have hl := size_len s
  obtain ⟨L, hL⟩ : ∃ L, chars s.data.toList = L := ⟨_, rfl⟩
  rw [hL] at hlen ⊢
  have HL := Lib.hid hL
  clear hL
  go_enter Tryd.func32, Tryd.ntmps32
  go_wp2_with fail
  refine (chars_any s _ hs).mono ?_
  rintro e w1 ⟨v1, v2, rfl, ho1, ho2, hb⟩
  rw [HL.out] at ho1 ho2
  clear ho2
  have hr := Reads.of_own ho1
  clear ho1
  obtain ⟨_, a, cap, rfl, hcap, hmx, hrd⟩ := hr
  go_wp2_with fail
  go_loopw [7, 8] (fun v i wr => ∃ k : Nat, k ≤ L.length ∧ i = .int .i64 k ∧ v = .int .i64 (wsum (L.take k) n) ∧ wr = w1) (fun _ i _ => L.length - (intOf i).toNat)
  case atStart => exact ⟨0, Nat.zero_le _, rfl, rfl, rfl⟩
  case round =>
    obtain ⟨k, hk, rfl, rfl, rfl⟩ := hrel
    by_cases hlt : k < L.length
    · have hsn : wsum (L.take (k + 1)) n = wsum (L.take k) n + char (L[k].2) n := by
        rw [List.take_succ_eq_append_getElem hlt, wsum_snoc]
      have HS := Lib.hid hsn
      clear hsn
      have b1 := wsum_bd (L.take k) n
      rw [List.length_take] at b1
      have b3 := char_lo L[k].2 n
      have b4 := char_hi L[k].2 n
      rcases hrd with ⟨_, h0⟩ | ⟨b, off, rfl, hbb, hcell⟩
      · omega
      · have hc := hcell k (runeV L[k]) (by simp [hlt])
        simp only [runeV] at hc
        clear hcell
        go_wp2_with (go_at_call 16; refine (rchar_any _ _ _).mono ?_; rintro e w' ⟨rfl, rfl⟩)
        go_roundw
        case rel => exact ⟨k + 1, by omega, by go_num, by rw [HS.out], trivial⟩
        case measure => simp [intOf]; omega
    · go_wp2_with fail
      go_ret
      exact ⟨ret_int (by rw [List.take_of_length_le (by omega)]), hb⟩

/-- where a stretch of a string ends without the white space at its end -/
def trimTo (l : List UInt8) (a : Nat) : Nat → Nat
  | 0 => 0
  | b + 1 => if a < b + 1 ∧ white ((l.getD b 0).toNat : Int) = true then trimTo l a b else b + 1
theorem trimTo_le (l : List UInt8) (a b : Nat) : trimTo l a b ≤ b := by
  induction b with
  | zero => simp [trimTo]
  | succ b ih => unfold trimTo; split <;> omega
theorem trimTo_ge (l : List UInt8) (a b : Nat) (h : a ≤ b) : a ≤ trimTo l a b := by
  induction b with
  | zero => simp [trimTo]; omega
  | succ b ih =>
    unfold trimTo; split
    · exact ih (by omega)
    · omega
theorem getD_at (s : ByteArray) (j : Nat) (h : j < s.size) : s.data.toList.getD j 0 = s[j] := by
  have h' : j < s.data.toList.length := by rw [size_len]; exact h
  rw [List.getD_eq_getElem?_getD, List.getElem?_eq_getElem h']; simp; rfl
set_option maxHeartbeats 400000 in
theorem trim_any (s : ByteArray) (a b : Nat) (w : World) (hs : s.size ≤ 2097152) (hab : a ≤ b) (hb : b ≤ s.size) :
    Calls Tryd.prog 24 #[.string s, .int .i64 (a : Int), .int .i64 (b : Int)] w fun e w' => e = .returned (.int .i64 (trimTo s.data.toList a b : Nat)) ∧ w = w' := by
  go_enter Tryd.func24, Tryd.ntmps24
  go_wp2
  go_loop [2] (fun t => ∃ k : Nat, a ≤ k ∧ k ≤ b ∧ t = .int .i64 k ∧ trimTo s.data.toList a b = trimTo s.data.toList a k) (fun t => (intOf t).toNat)
  case atStart => exact ⟨b, by omega, by omega, rfl, rfl⟩
  case round =>
    obtain ⟨k, hk1, hk2, rfl, ht⟩ := hrel
    have HT := Lib.hid ht
    clear ht
    by_cases hlt : a < k
    · obtain ⟨j, rfl⟩ : ∃ j, k = j + 1 := ⟨k - 1, by omega⟩
      have hu : trimTo s.data.toList a (j + 1) = if a < j + 1 ∧ white ((s.data.toList.getD j 0).toNat : Int) = true then trimTo s.data.toList a j else j + 1 := rfl
      have HU := Lib.hid hu
      clear hu
      have hj : j < s.size := by omega
      go_wp2_with (go_at_call 23; refine (rwhite_any _ _).mono ?_; rintro e w' ⟨rfl, rfl⟩)
      · have h1 : white (wrap32 (s[j].toNat : Int)) = true := by assumption
        rw [wrap32_byte] at h1
        go_round
        case rel => exact ⟨j, by omega, by omega, by go_num, by rw [HT.out, HU.out, if_pos ⟨by omega, by rw [getD_at s j hj]; exact h1⟩]⟩
        case measure => simp [intOf]
      · have h1 : white (wrap32 (s[j].toNat : Int)) = false := by assumption
        rw [wrap32_byte] at h1
        go_ret
        exact ⟨ret_int (by rw [HT.out, HU.out, if_neg (by rintro ⟨_, h2⟩; rw [getD_at s j hj, h1] at h2; cases h2)]; omega), rfl⟩
    · obtain rfl : k = a := by omega
      have ht2 : trimTo s.data.toList k k = k := by have := trimTo_le s.data.toList k k; have := trimTo_ge s.data.toList k k (Nat.le_refl _); omega
      have HT2 := Lib.hid ht2
      clear ht2
      go_wp2_with (go_at_call 23; refine (rwhite_any _ _).mono ?_; rintro e w' ⟨rfl, rfl⟩)
      go_ret
      exact ⟨ret_int (by rw [HT.out, HT2.out]), rfl⟩

/-- the offset behind the longest beginning that fits, from an offset on -/
def fitFrom (l : List (Nat × Int)) (n m width : Int) (len : Nat) : Nat :=
  match l with
  | [] => if width < 0 then 0 else len
  | c :: t => if m + char c.2 n > width then c.1 else fitFrom t n (m + char c.2 n) width len
set_option maxHeartbeats 400000 in
theorem fit_any (s : ByteArray) (n width : Int) (w : World) (hs : s.size ≤ 2097152) :
    Calls Tryd.prog 28 #[.string s, .int .i64 n, .int .i64 width] w fun e w' => e = .returned (.int .i64 (fitFrom (chars s.data.toList) n 0 width s.size : Nat)) ∧ Below w.heap.size w w' := by
  go_enter Tryd.func28, Tryd.ntmps28
  go_wp2
  go_loopw [7] (fun v wr => ∃ (pos : Nat) (m : Int), pos ≤ s.size ∧ v = .int .i64 m ∧ 0 ≤ m ∧ m ≤ 1048576 * (pos : Int) ∧ fitFrom (chars s.data.toList) n 0 width s.size = fitFrom (chFrom s.data.toList pos) n m width s.size ∧ wr.heap[w.heap.size]? = some (.stringIter s pos) ∧ Below w.heap.size w wr) (fun _ wr => s.size - wr.iterPos w.heap.size)
  case atStart => exact ⟨0, 0, Nat.zero_le _, rfl, by omega, by omega, rfl, World.iter_heap w s 0, (Below.refl _ w).alloc (Nat.le_refl _) _⟩
  case round =>
    obtain ⟨pos, m, hpos, rfl, hm1, hm2, hf, hit, hbw⟩ := hrel
    have hl := size_len s
    have HF := Lib.hid hf
    clear hf
    by_cases hp : pos < s.size
    · have hnx : ∀ ty, (Instr.next (.pointer (some ⟨w.heap.size, 0, none⟩)) true ty).run Tryd.prog wr = _ := fun ty => Lib.run_next_any_at wr w.heap.size s pos ty hit hp
      have hwd := Lib.decodeL_width (s.data.toList.drop pos)
      have hwl := Lib.decodeL_le (s.data.toList.drop pos) (by intro e; have := congrArg List.length e; simp at this; omega)
      rw [List.length_drop] at hwl
      have hc := chFrom_cons s.data.toList pos (by omega)
      rw [Lib.decodeL_drop] at hc hwd hwl
      have HC := Lib.hid hc
      clear hc
      have b3 := char_lo (Utf8.decode s pos).1 n
      have b4 := char_hi (Utf8.decode s pos).1 n
      have hit2 := Lib.iterAt_heap wr w.heap.size s pos (pos + (Utf8.decode s pos).2) hit
      have hbw2 := Lib.below_iterAt hbw (k := w.heap.size) (Nat.le_refl _) s (pos + (Utf8.decode s pos).2)
      go_wp2_with (go_at_call 15; refine (char_any _ _ _).mono ?_; rintro e w' ⟨rfl, rfl⟩)
      · go_ret
        exact ⟨ret_int (by rw [HF.out, HC.out, fitFrom, if_pos (by simpa using ‹width < m + _›)]), hbw2⟩
      · go_roundw
        case rel => exact ⟨pos + (Utf8.decode s pos).2, m + char (Utf8.decode s pos).1 n, by omega, rfl, by omega, by omega, by rw [HF.out, HC.out, fitFrom, if_neg (by simpa using ‹m + _ ≤ width›)], hit2, hbw2⟩
        case measure => simp only [World.iterPos, hit2, hit]; omega
    · have hnx : ∀ ty, (Instr.next (.pointer (some ⟨w.heap.size, 0, none⟩)) true ty).run Tryd.prog wr = _ := fun ty => Lib.run_next_end_at wr w.heap.size s pos ty hit hp
      have he := HF.out
      rw [chFrom_end s.data.toList pos (by omega)] at he
      have HE := Lib.hid he
      clear he
      go_wp2
      · go_ret
        exact ⟨ret_int (by rw [HE.out, fitFrom, if_pos ‹_›]; rfl), hbw⟩
      · go_ret
        exact ⟨ret_int (by rw [HE.out, fitFrom, if_neg (by omega)]), hbw⟩
end Go.Proofs.YtcpklmolofbopaaDoor
