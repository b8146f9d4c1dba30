/- The walks of Offset and of equal. -/
import Derived.Test.YtcpklmolofbopaaDoorI
namespace Go.Proofs.YtcpklmolofbopaaDoor
open Go.RowKit

/-- the nearest boundary, as the code goes -/
def ogo (n x : Int) (len : Nat) : Int → Nat → Int → List (Nat × Int) → Nat
  | at_, best, near, [] => if max (at_ - x) (x - at_) < near then len else best
  | at_, best, near, c :: t => if max (at_ - x) (x - at_) < near then ogo n x len (at_ + char c.2 n) c.1 (max (at_ - x) (x - at_)) t else ogo n x len (at_ + char c.2 n) best near t
def clampX (l : List UInt8) (n x : Int) : Int := min (max x 0) (width l n)
def offset (l : List UInt8) (n x : Int) : Nat := ogo n (clampX l n x) l.length 0 0 (clampX l n x) (chars l)

set_option maxHeartbeats 1000000 in
theorem offset_any (s : ByteArray) (n x : Int) (w : World) (hs : s.size ≤ 2097152) :
    Calls Tryd.prog 30 #[.string s, .int .i64 n, .int .i64 x] w fun e w' => e = .returned (.int .i64 (offset s.data.toList n x : Nat)) ∧ Below w.heap.size w w' := by
  have hl := size_len s
  have b1 := width_bd s.data.toList n (by omega)
  obtain ⟨G, hG⟩ : ∃ G, offset s.data.toList n x = G := ⟨_, rfl⟩
  have hG2 : ogo n (clampX s.data.toList n x) s.size 0 0 (clampX s.data.toList n x) (chFrom s.data.toList 0) = G := by rw [← hG, ← hl]; rfl
  rw [hG]
  obtain ⟨X, hX⟩ : ∃ X, clampX s.data.toList n x = X := ⟨_, rfl⟩
  have hX2 : min (max x 0) (width s.data.toList n) = X := hX
  rw [hX] at hG2
  obtain ⟨W, hW⟩ : ∃ W, width s.data.toList n = W := ⟨_, rfl⟩
  rw [hW] at b1 hX2
  have hXb : 0 ≤ X ∧ X ≤ 4398046511104 := by omega
  have cW : ∀ wx, Calls Tryd.prog 22 #[.string s, .int .i64 n] wx fun e w' => e = .returned (.int .i64 W) ∧ Below wx.heap.size wx w' := fun wx => by
    have := width_any s n wx hs
    rwa [hW] at this
  have HG := Lib.hid hG2
  have HX := Lib.hid hX2
  have HW := Lib.hid cW
  clear hG hG2 hX hX2 hW cW
  go_enter Tryd.func30, Tryd.ntmps30
  go_wp2_with (go_at_call 22; refine (HW.out _).mono ?_; rintro e w1 ⟨rfl, hb1⟩)
  rw [HX.out]
  have hz1 := hb1.size
  go_loopw [7, 8, 9] (fun bv nv av wr => ∃ (pos best : Nat) (near at_ : Int), pos ≤ s.size ∧ bv = .int .i64 best ∧ nv = .int .i64 near ∧ av = .int .i64 at_ ∧ 0 ≤ at_ ∧ at_ ≤ 1048576 * (pos : Int) ∧
      ogo n X s.size at_ best near (chFrom s.data.toList pos) = G ∧ wr.heap[w1.heap.size]? = some (.stringIter s pos) ∧ Below w1.heap.size w1 wr) (fun _ _ _ wr => s.size - wr.iterPos w1.heap.size)
  case atStart => exact ⟨0, 0, X, 0, Nat.zero_le _, rfl, rfl, rfl, Int.le_refl _, by omega, HG.out, World.iter_heap w1 s 0, (Below.refl _ w1).alloc (Nat.le_refl _) _⟩
  case round =>
    obtain ⟨pos, best, near, at_, hpos, rfl, rfl, rfl, ha1, ha2, hg, hit, hbw⟩ := hrel
    have HGo := Lib.hid hg
    clear hg
    by_cases hp : pos < s.size
    · have hnx : ∀ ty, (Instr.next (.pointer (some ⟨w1.heap.size, 0, none⟩)) true ty).run Tryd.prog wr = _ := fun ty => Lib.run_next_any_at wr w1.heap.size s pos ty hit hp
      have hwd := Lib.decodeL_width (s.data.toList.drop pos)
      have hwl := Lib.decodeL_le (s.data.toList.drop pos) (by intro e; have := congrArg List.length e; simp at this; omega)
      rw [List.length_drop] at hwl
      have hc := chFrom_cons s.data.toList pos (by omega)
      rw [Lib.decodeL_drop] at hc hwd hwl
      have HC := Lib.hid hc
      clear hc
      have b3 := char_lo (Utf8.decode s pos).1 n
      have b4 := char_hi (Utf8.decode s pos).1 n
      have hit2 := Lib.iterAt_heap wr w1.heap.size s pos (pos + (Utf8.decode s pos).2) hit
      have hbw2 := Lib.below_iterAt hbw (k := w1.heap.size) (Nat.le_refl _) s (pos + (Utf8.decode s pos).2)
      go_wp2_with (go_at_call 15; refine (char_any _ _ _).mono ?_; rintro e w' ⟨rfl, rfl⟩)
      · go_roundw
        case rel => exact ⟨pos + (Utf8.decode s pos).2, pos, _, at_ + char (Utf8.decode s pos).1 n, by omega, rfl, rfl, rfl, by omega, by omega, by rw [← HGo.out, HC.out, ogo, if_pos ‹_›], hit2, hbw2⟩
        case measure => simp only [World.iterPos, hit2, hit]; omega
      · go_roundw
        case rel => exact ⟨pos + (Utf8.decode s pos).2, best, near, at_ + char (Utf8.decode s pos).1 n, by omega, rfl, rfl, rfl, by omega, by omega, by rw [← HGo.out, HC.out, ogo, if_neg (Int.not_lt.2 ‹_›)], hit2, hbw2⟩
        case measure => simp only [World.iterPos, hit2, hit]; omega
    · have hnx : ∀ ty, (Instr.next (.pointer (some ⟨w1.heap.size, 0, none⟩)) true ty).run Tryd.prog wr = _ := fun ty => Lib.run_next_end_at wr w1.heap.size s pos ty hit hp
      have he := HGo.out
      rw [chFrom_end s.data.toList pos (by omega), ogo] at he
      have HE := Lib.hid he
      clear he
      go_wp2
      · go_ret
        exact ⟨ret_int (by rw [← HE.out, if_pos ‹_›]), hb1.trans (hbw.mono hz1)⟩
      · go_ret
        exact ⟨ret_int (by rw [← HE.out, if_neg (Int.not_lt.2 ‹_›)]), hb1.trans (hbw.mono hz1)⟩

set_option maxHeartbeats 400000 in
theorem equal_any (v1 v2 : Value) (n1 n2 : Nat) (xs ys : List Nat) (w : World) (h1 : Reads w 1 v1 n1 (xs.map intV)) (h2 : Reads w 1 v2 n2 (ys.map intV)) :
    Calls Tryd.prog 17 #[v1, v2] w fun e w' => e = .returned (.bool (decide (xs = ys))) ∧ Below w.heap.size w w' := by
  obtain ⟨l1, a1, cap1, rfl, hc1, hm1, hr1⟩ := h1
  obtain ⟨l2, a2, cap2, rfl, hc2, hm2, hr2⟩ := h2
  have hn1 : n1 = xs.length := by simpa using l1.symm
  have hn2 : n2 = ys.length := by simpa using l2.symm
  subst hn1 hn2
  unfold maxLen at hm1 hm2
  clear l1 l2
  by_cases hlen : xs.length = ys.length
  · have HL := Lib.hid hlen
    have hb : ((xs.length : Int) != (ys.length : Int)) = false := by simp [hlen]
    clear hlen
    go_enter Tryd.func17, Tryd.ntmps17
    go_wp2
    go_loopw [13] (fun i wr => ∃ k : Nat, k ≤ xs.length ∧ i = .int .i64 k ∧ xs.take k = ys.take k ∧ Below w.heap.size w wr) (fun i _ => xs.length - (intOf i).toNat)
    case atStart => exact ⟨0, Nat.zero_le _, rfl, rfl, Below.refl _ _⟩
    case round =>
      obtain ⟨k, hk, rfl, ht, hbw⟩ := hrel
      have HT := Lib.hid ht
      clear ht
      by_cases hlt : k < xs.length
      · rcases hr1 with ⟨_, h0⟩ | ⟨b1, o1, rfl, hbb1, hcell1⟩
        · omega
        rcases hr2 with ⟨_, h0⟩ | ⟨b2, o2, rfl, hbb2, hcell2⟩
        · have := HL.out; omega
        have hlt2 : k < ys.length := by have := HL.out; omega
        have c1 : wr.cell? ⟨b1, o1 + k, none⟩ = some (.int .i64 (xs[k] : Nat)) := by
          rw [hbw.cell (p := ⟨b1, o1 + k, none⟩) hbb1]; exact hcell1 k _ (by simp [intV, hlt])
        have c2 : wr.cell? ⟨b2, o2 + k, none⟩ = some (.int .i64 (ys[k] : Nat)) := by
          rw [hbw.cell (p := ⟨b2, o2 + k, none⟩) hbb2]; exact hcell2 k _ (by simp [intV, hlt2])
        clear hcell1 hcell2
        have hk0 : (0 : Int) ≤ (k : Int) := by omega
        have hk1 : (k : Int) < (xs.length : Int) := by omega
        have hk2 : (k : Int) < (ys.length : Int) := by omega
        go_wp2
        go_quiet (fail)
        have hbw' : Below w.heap.size w (wr.drewN nq) := below_drewN hbw nq
        go_wp2
        · go_ret
          refine ⟨ret_bool ?_, hbw'⟩
          have h1 : ((xs[k] : Int) != (ys[k] : Int)) = true := by assumption
          symm
          simp only [decide_eq_false_iff_not]
          intro e
          subst e
          simp at h1
        · go_roundw
          case rel =>
            have h1 : ((xs[k] : Int) != (ys[k] : Int)) = false := by assumption
            refine ⟨k + 1, by omega, by go_num, ?_, hbw'⟩
            rw [List.take_succ_eq_append_getElem hlt, List.take_succ_eq_append_getElem hlt2, HT.out]
            have h2 : (xs[k] : Int) = (ys[k] : Int) := by simpa using h1
            rw [show xs[k] = ys[k] by omega]
          case measure => simp [intOf]; omega
      · go_wp2
        go_ret
        refine ⟨ret_bool ?_, hbw⟩
        have ht := HT.out
        rw [List.take_of_length_le (by omega), List.take_of_length_le (by have := HL.out; omega)] at ht
        simp [ht]
  · have hb : ((xs.length : Int) != (ys.length : Int)) = true := by simp; omega
    go_enter Tryd.func17, Tryd.ntmps17
    go_wp2
    go_ret
    refine ⟨ret_bool ?_, Below.refl _ _⟩
    symm
    simp
    intro e
    exact hlen (by rw [e])
end Go.Proofs.YtcpklmolofbopaaDoor
