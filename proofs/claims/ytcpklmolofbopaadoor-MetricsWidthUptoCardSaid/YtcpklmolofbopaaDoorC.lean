/- The characters of a string, its width; the walks of Width and of the reference's Width and Chars. -/
import Derived.Test.YtcpklmolofbopaaDoorB
import Derived.Test.YtcpklmolofbopaaDoorK
import Derived.Lib.TrimUEq
import Derived.Lib.MapLaws
import Derived.Lib.OthersKept
import Derived.Lib.Hide
namespace Go.Proofs.YtcpklmolofbopaaDoor
open Go.RowKit

/-- the characters of a list of bytes, each with its offset -/
def chL : Nat → Nat → List UInt8 → List (Nat × Int)
  | 0, _, _ => []
  | f + 1, o, l => if l = [] then [] else (o, ((Lib.decodeL l).1 : Int)) :: chL f (o + (Lib.decodeL l).2) (l.drop (Lib.decodeL l).2)
theorem chL_nil (f o : Nat) : chL f o [] = [] := by cases f <;> simp [chL]
theorem chL_fuel : ∀ (f g o : Nat) (l : List UInt8), l.length ≤ f → l.length ≤ g → chL f o l = chL g o l := by
  intro f
  induction f with
  | zero => intro g o l h _; have : l = [] := List.eq_nil_of_length_eq_zero (by omega); subst this; simp [chL_nil]
  | succ f ih =>
    intro g o l hf hg
    by_cases hl : l = []
    · subst hl; simp [chL_nil]
    · cases g with
      | zero => exact absurd (List.eq_nil_of_length_eq_zero (by omega)) hl
      | succ g =>
        simp only [chL, hl, if_false]
        have hw := Lib.decodeL_width l
        congr 1
        have : 0 < l.length := List.length_pos_iff.2 hl
        exact ih g _ _ (by rw [List.length_drop]; omega) (by rw [List.length_drop]; omega)
/-- the characters from an offset on -/
def chFrom (l : List UInt8) (p : Nat) : List (Nat × Int) := chL (l.length - p) p (l.drop p)
def chars (l : List UInt8) : List (Nat × Int) := chFrom l 0
theorem chFrom_cons (l : List UInt8) (p : Nat) (h : p < l.length) :
    chFrom l p = (p, ((Lib.decodeL (l.drop p)).1 : Int)) :: chFrom l (p + (Lib.decodeL (l.drop p)).2) := by
  have hw := Lib.decodeL_width (l.drop p)
  have hne : l.drop p ≠ [] := by intro e; have := congrArg List.length e; simp at this; omega
  unfold chFrom
  rw [show l.length - p = (l.length - p - 1) + 1 from by omega]
  simp only [chL, hne, if_false, List.drop_drop]
  congr 1
  exact chL_fuel _ _ _ _ (by simp; omega) (by simp)
theorem chFrom_end (l : List UInt8) (p : Nat) (h : l.length ≤ p) : chFrom l p = [] := by
  unfold chFrom; rw [List.drop_eq_nil_of_le h, chL_nil]
/-- the width from an offset on -/
def wFrom (l : List UInt8) (n : Int) (p : Nat) : Int := ((chFrom l p).map fun c => char c.2 n).sum
def width (l : List UInt8) (n : Int) : Int := wFrom l n 0
theorem wFrom_cons (l : List UInt8) (n : Int) (p : Nat) (h : p < l.length) :
    wFrom l n p = char (Lib.decodeL (l.drop p)).1 n + wFrom l n (p + (Lib.decodeL (l.drop p)).2) := by
  unfold wFrom; rw [chFrom_cons l p h]; simp
theorem wFrom_end (l : List UInt8) (n : Int) (p : Nat) (h : l.length ≤ p) : wFrom l n p = 0 := by unfold wFrom; rw [chFrom_end l p h]; rfl
theorem wFrom_lo (l : List UInt8) (n : Int) : ∀ (f p : Nat), l.length - p ≤ f → 0 ≤ wFrom l n p ∧ wFrom l n p ≤ 1048576 * ((l.length - p : Nat) : Int) := by
  intro f
  induction f with
  | zero => intro p h; rw [wFrom_end l n p (by omega)]; omega
  | succ f ih =>
    intro p h
    by_cases hp : p < l.length
    · rw [wFrom_cons l n p hp]
      have h1 := char_lo (Lib.decodeL (l.drop p)).1 n
      have h2 := char_hi (Lib.decodeL (l.drop p)).1 n
      have hw := Lib.decodeL_width (l.drop p)
      have := ih (p + (Lib.decodeL (l.drop p)).2) (by omega)
      omega
    · rw [wFrom_end l n p (by omega)]; omega
theorem wFrom_bd (l : List UInt8) (n : Int) (p : Nat) : 0 ≤ wFrom l n p ∧ wFrom l n p ≤ 1048576 * ((l.length - p : Nat) : Int) := wFrom_lo l n _ p (Nat.le_refl _)
theorem size_len (s : ByteArray) : s.data.toList.length = s.size := by simp

set_option maxHeartbeats 400000 in
theorem width_any (s : ByteArray) (n : Int) (w : World) (hs : s.size ≤ 2097152) :
    Calls Tryd.prog 22 #[.string s, .int .i64 n] w fun e w' => e = .returned (.int .i64 (width s.data.toList n)) ∧ Below w.heap.size w w' := by
  go_enter Tryd.func22, Tryd.ntmps22
  go_wp2
  go_loopw [5] (fun v wr => ∃ pos : Nat, pos ≤ s.size ∧ v = .int .i64 (width s.data.toList n - wFrom s.data.toList n pos) ∧ wr.heap[w.heap.size]? = some (.stringIter s pos) ∧ Below w.heap.size w wr) (fun _ wr => s.size - wr.iterPos w.heap.size)
  case atStart => exact ⟨0, Nat.zero_le _, by simp [width], World.iter_heap w s 0, (Below.refl _ w).alloc (Nat.le_refl _) _⟩
  case round =>
    obtain ⟨pos, hpos, rfl, hit, hbw⟩ := hrel
    have hl := size_len s
    have b1 : 0 ≤ width s.data.toList n ∧ width s.data.toList n ≤ 2199023255552 := by have := wFrom_bd s.data.toList n 0; unfold width; omega
    have b2 : 0 ≤ wFrom s.data.toList n pos ∧ wFrom s.data.toList n pos ≤ 2199023255552 := by have := wFrom_bd s.data.toList n pos; omega
    by_cases hp : pos < s.size
    · have hnx : ∀ ty, (Instr.next (.pointer (some ⟨w.heap.size, 0, none⟩)) true ty).run Tryd.prog wr = _ := fun ty => Lib.run_next_any_at wr w.heap.size s pos ty hit hp
      have hwd := Lib.decodeL_width (s.data.toList.drop pos)
      have hwl := Lib.decodeL_le (s.data.toList.drop pos) (by intro e; have := congrArg List.length e; simp at this; omega)
      rw [List.length_drop] at hwl
      have hc := wFrom_cons s.data.toList n pos (by omega)
      rw [Lib.decodeL_drop] at hc hwd hwl
      have HC := Lib.hid hc
      clear hc
      have b3 := char_lo (Utf8.decode s pos).1 n
      have b4 := char_hi (Utf8.decode s pos).1 n
      have hit2 := Lib.iterAt_heap wr w.heap.size s pos (pos + (Utf8.decode s pos).2) hit
      have hbw2 := Lib.below_iterAt hbw (k := w.heap.size) (Nat.le_refl _) s (pos + (Utf8.decode s pos).2)
      go_wp2_with (go_at_call 15; refine (char_any _ _ _).mono ?_; rintro e w' ⟨rfl, rfl⟩)
      go_roundw
      case rel => exact ⟨pos + (Utf8.decode s pos).2, by omega, by rw [HC.out]; go_num, hit2, hbw2⟩
      case measure => simp only [World.iterPos, hit2, hit]; omega
    · have hnx : ∀ ty, (Instr.next (.pointer (some ⟨w.heap.size, 0, none⟩)) true ty).run Tryd.prog wr = _ := fun ty => Lib.run_next_end_at wr w.heap.size s pos ty hit hp
      have he := Lib.hid (wFrom_end s.data.toList n pos (by omega))
      go_wp2
      go_ret
      exact ⟨ret_int (by rw [he.out]; omega), hbw⟩

theorem sl27 : SlTy Tryd.prog 27 3 1 8 := .mk' (z := .int .i64 0) Tryd.underlying27 (by kernel_rfl) rfl (by decide)
theorem sl45 : SlTy Tryd.prog 45 21 1 4 := .mk' (z := .int .i32 0) Tryd.underlying45 (by kernel_rfl) rfl (by decide)
theorem chFrom_len (l : List UInt8) : ∀ (f p : Nat), l.length - p ≤ f → (chFrom l p).length ≤ l.length - p := by
  intro f
  induction f with
  | zero => intro p h; rw [chFrom_end l p (by omega)]; simp
  | succ f ih =>
    intro p h
    by_cases hp : p < l.length
    · rw [chFrom_cons l p hp]
      have hw := Lib.decodeL_width (l.drop p)
      have := ih (p + (Lib.decodeL (l.drop p)).2) (by omega)
      simp only [List.length_cons]
      omega
    · rw [chFrom_end l p (by omega)]; simp
theorem chars_len (l : List UInt8) : (chars l).length ≤ l.length := chFrom_len l _ 0 (Nat.le_refl _)
def runeV (c : Nat × Int) : Value := .int .i32 c.2
def offV (c : Nat × Int) : Value := .int .i64 (c.1 : Int)

set_option maxHeartbeats 400000 in
theorem chars_any (s : ByteArray) (w : World) (hs : s.size ≤ 2097152) :
    Calls Tryd.prog 29 #[.string s] w fun e w' => ∃ v1 v2, e = .returned (.tuple #[v1, v2]) ∧ w'.ownsRow (w.heap.size + 1) 21 1 v1 (chars s.data.toList).length ((chars s.data.toList).map runeV) ∧
      w'.ownsRow (w.heap.size + 1) 3 1 v2 ((chars s.data.toList).length + 1) ((chars s.data.toList).map offV ++ [.int .i64 (s.size : Int)]) ∧ Below w.heap.size w w' := by
  go_enter Tryd.func29, Tryd.ntmps29
  go_wp2
  go_loopw [4, 5] (fun v1 v2 wr => ∃ (pos : Nat) (done : List (Nat × Int)), pos ≤ s.size ∧ done ++ chFrom s.data.toList pos = chars s.data.toList ∧
      wr.ownsRow (w.heap.size + 1) 21 1 v1 done.length (done.map runeV) ∧ wr.ownsRow (w.heap.size + 1) 3 1 v2 done.length (done.map offV) ∧ wr.heap[w.heap.size]? = some (.stringIter s pos) ∧ Below w.heap.size w wr) (fun _ _ wr => s.size - wr.iterPos w.heap.size)
  case atStart => exact ⟨0, [], Nat.zero_le _, rfl, World.ownsRow_nil _ _ _ _, World.ownsRow_nil _ _ _ _, World.iter_heap w s 0, (Below.refl _ w).alloc (Nat.le_refl _) _⟩
  case round =>
    obtain ⟨pos, done, hpos, hdone, hown1, hown2, hit, hbw⟩ := hrel
    rename_i v1 v2 _
    have hl := size_len s
    have hlen := chars_len s.data.toList
    have hsz : w.heap.size < wr.heap.size := (Array.getElem?_eq_some_iff.1 hit).1
    have hdl : done.length ≤ s.size := by have := congrArg List.length hdone; simp at this; simp at hlen; omega
    have HD := Lib.hid hdone
    clear hdone hlen
    by_cases hp : pos < s.size
    · have hnx : ∀ ty, (Instr.next (.pointer (some ⟨w.heap.size, 0, none⟩)) true ty).run Tryd.prog wr = _ := fun ty => Lib.run_next_any_at wr w.heap.size s pos ty hit hp
      have hwd := Lib.decodeL_width (s.data.toList.drop pos)
      have hwl := Lib.decodeL_le (s.data.toList.drop pos) (by intro e; have := congrArg List.length e; simp at this; omega)
      rw [List.length_drop] at hwl
      have hc := chFrom_cons s.data.toList pos (by omega)
      rw [Lib.decodeL_drop] at hc hwd hwl
      have HC := Lib.hid hc
      clear hc
      have hit2 := Lib.iterAt_heap wr w.heap.size s pos (pos + (Utf8.decode s pos).2) hit
      have hbw2 := Lib.below_iterAt hbw (k := w.heap.size) (Nat.le_refl _) s (pos + (Utf8.decode s pos).2)
      have hown1 := ownsRow_iterAt hown1 (k := w.heap.size) (by omega) s (pos + (Utf8.decode s pos).2)
      have hown2 := ownsRow_iterAt hown2 (k := w.heap.size) (by omega) s (pos + (Utf8.decode s pos).2)
      have hsz2 : w.heap.size < (wr.iterAt w.heap.size s (pos + (Utf8.decode s pos).2)).heap.size := by rw [Lib.iterAt_size]; exact hsz
      go_wp2_with (first
        | (refine app sl45 _ rfl (.tmp 14) (.tmp 16) rfl (w.heap.size + 1) _ _ _ rfl hown1 [_] 1 rfl rfl (by intro u hu; simp at hu; subst hu; rfl) (by decide) (by omega) (by omega) (by omega) ?_; intro v1' w1 hA gA; have hB := own_other hown1 hown2 (by decide) gA; have hI := (block_kept hown1 gA (k := w.heap.size) (by omega) (by omega)).trans hit2; have hW := below_own hbw2 hown1 gA (by omega) (by omega); have hS := gA.size)
        | (refine app sl27 _ rfl (.tmp 18) (.tmp 20) rfl (w.heap.size + 1) _ _ _ rfl hB [_] 1 rfl rfl (by intro u hu; simp at hu; subst hu; rfl) (by decide) (by omega) (by omega) (by omega) ?_; intro v2' w2 hC gC; have hD := own_other hB hA (by decide) gC; have hI2 := (block_kept hB gC (k := w.heap.size) (by omega) (by omega)).trans hI; have hW2 := below_own hW hB gC (by omega) (by omega)))
      go_roundw
      case rel => exact ⟨pos + (Utf8.decode s pos).2, done ++ [(pos, ((Utf8.decode s pos).1 : Int))], by omega, by rw [← HD.out, HC.out]; simp, by simpa [runeV] using hD, by simpa [offV] using hC, hI2, hW2⟩
      case measure => simp only [World.iterPos, hI2, hit]; omega
    · have hnx : ∀ ty, (Instr.next (.pointer (some ⟨w.heap.size, 0, none⟩)) true ty).run Tryd.prog wr = _ := fun ty => Lib.run_next_end_at wr w.heap.size s pos ty hit hp
      have he := HD.out
      rw [chFrom_end s.data.toList pos (by omega), List.append_nil] at he
      have HE := Lib.hid he
      clear he
      go_wp2_with (refine app sl27 _ rfl (.tmp 23) (.tmp 26) rfl (w.heap.size + 1) _ _ _ rfl hown2 [_] 1 rfl rfl (by intro u hu; simp at hu; subst hu; rfl) (by decide) (by omega) (by omega) (by omega) ?_; intro v2' w2 hC gC; have hD := own_other hown2 hown1 (by decide) gC; have hW2 := below_own hbw hown2 gC (by omega) (by omega))
      go_ret2
      rw [← HE.out]
      exact ⟨_, _, rfl, hD, hC, hW2⟩
end Go.Proofs.YtcpklmolofbopaaDoor
