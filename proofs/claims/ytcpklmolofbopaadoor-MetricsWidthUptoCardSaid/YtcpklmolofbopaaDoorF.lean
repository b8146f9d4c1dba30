/- The walks of Breaks and of the reference's Breaks. -/
import Derived.Test.YtcpklmolofbopaaDoorE
import Derived.Deep.QuietTactic
namespace Go.Proofs.YtcpklmolofbopaaDoor
open Go.RowKit

/-- the offsets at which a line may be broken, behind a character -/
def brk : Option Int → List (Nat × Int) → List Nat
  | _, [] => []
  | none, c :: t => brk (some c.2) t
  | some q, c :: t => if mayB q c.2 = true then c.1 :: brk (some c.2) t else brk (some c.2) t
theorem brk_len : ∀ (l : List (Nat × Int)) (q : Option Int), (brk q l).length ≤ l.length := by
  intro l
  induction l with
  | nil => intro q; cases q <;> simp [brk]
  | cons c t ih =>
    intro q
    have := ih (some c.2)
    cases q with
    | none => simp [brk]; omega
    | some q => simp only [brk]; split <;> simp <;> omega
def intV (n : Nat) : Value := .int .i64 (n : Int)
def breaks (l : List UInt8) : List Nat := brk none (chars l)

set_option maxHeartbeats 400000 in
theorem breaks_any (s : ByteArray) (w : World) (hs : s.size ≤ 2097152) :
    Calls Tryd.prog 18 #[.string s] w fun e w' => ∃ v, e = .returned v ∧ w'.ownsRow w.heap.size 3 1 v (breaks s.data.toList).length ((breaks s.data.toList).map intV) ∧ Below w.heap.size w w' := by
  go_enter Tryd.func18, Tryd.ntmps18
  go_wp2
  go_loopw [3, 4] (fun v lst wr => ∃ (pos : Nat) (q : Int) (out : List Nat), pos ≤ s.size ∧ out ++ brk (if pos = 0 then none else some q) (chFrom s.data.toList pos) = breaks s.data.toList ∧ lst = .int .i32 q ∧ (pos = 0 → q = 0) ∧
      wr.ownsRow (w.heap.size + 1) 3 1 v out.length (out.map intV) ∧ wr.heap[w.heap.size]? = some (.stringIter s pos) ∧ Below w.heap.size w wr) (fun _ _ wr => s.size - wr.iterPos w.heap.size)
  case atStart => exact ⟨0, 0, [], Nat.zero_le _, rfl, rfl, fun _ => rfl, World.ownsRow_nil _ _ _ _, World.iter_heap w s 0, (Below.refl _ w).alloc (Nat.le_refl _) _⟩
  case round =>
    obtain ⟨pos, q, out, hpos, hout, rfl, hq0, hown, hit, hbw⟩ := hrel
    have hl := size_len s
    have hsz : w.heap.size < wr.heap.size := (Array.getElem?_eq_some_iff.1 hit).1
    have hol : out.length ≤ s.size := by
      have h1 := congrArg List.length hout
      have h2 := brk_len (chars s.data.toList) none
      have h3 := chars_len s.data.toList
      simp only [List.length_append, breaks] at h1 h2
      omega
    have HO := Lib.hid hout
    have HQ := Lib.hid hq0
    clear hout hq0
    by_cases hp : pos < s.size
    · have hnx : ∀ ty, (Instr.next (.pointer (some ⟨w.heap.size, 0, none⟩)) true ty).run Tryd.prog wr = _ := fun ty => Lib.run_next_any_at wr w.heap.size s pos ty hit hp
      have hwd := Lib.decodeL_width (s.data.toList.drop pos)
      have hwl := Lib.decodeL_le (s.data.toList.drop pos) (by intro e; have := congrArg List.length e; simp at this; omega)
      rw [List.length_drop] at hwl
      have hc := chFrom_cons s.data.toList pos (by omega)
      rw [Lib.decodeL_drop] at hc hwd hwl
      have HC := Lib.hid hc
      clear hc
      have hit2 := Lib.iterAt_heap wr w.heap.size s pos (pos + (Utf8.decode s pos).2) hit
      have hbw2 := Lib.below_iterAt hbw (k := w.heap.size) (Nat.le_refl _) s (pos + (Utf8.decode s pos).2)
      have hown1 := ownsRow_iterAt hown (k := w.heap.size) (by omega) s (pos + (Utf8.decode s pos).2)
      have hsz2 : w.heap.size < (wr.iterAt w.heap.size s (pos + (Utf8.decode s pos).2)).heap.size := by rw [Lib.iterAt_size]; exact hsz
      by_cases h0 : pos = 0
      · have HZ := Lib.hid h0
        have h0' : ¬ 0 < pos := by omega
        clear h0
        go_wp2_with fail
        go_roundw
        case rel =>
          refine ⟨pos + (Utf8.decode s pos).2, ((Utf8.decode s pos).1 : Int), out, by omega, ?_, rfl, by omega, hown1, hit2, hbw2⟩
          rw [← HO.out, HC.out, if_pos HZ.out, if_neg (by omega)]
          rfl
        case measure => simp only [World.iterPos, hit2, hit]; omega
      · have h0' : 0 < pos := by omega
        have HZ := Lib.hid h0
        clear h0
        go_wp2_with (first
          | (go_at_call 36; refine (between_any _ _ _).mono ?_; rintro e w' ⟨rfl, rfl⟩)
          | (refine app sl27 _ rfl (.tmp 20) (.tmp 22) rfl (w.heap.size + 1) _ _ _ rfl hown1 [_] 1 rfl rfl (by intro u hu; simp at hu; subst hu; rfl) (by decide) (by omega) (by omega) (by omega) ?_; intro v1' w1 hA gA; have hI := (block_kept hown1 gA (k := w.heap.size) (by omega) (by omega)).trans hit2; have hW := below_own hbw2 hown1 gA (by omega) (by omega)))
        · go_roundw
          case rel =>
            refine ⟨pos + (Utf8.decode s pos).2, ((Utf8.decode s pos).1 : Int), out ++ [pos], by omega, ?_, rfl, by omega, by simpa [intV] using hA, hI, hW⟩
            rw [← HO.out, HC.out, if_neg HZ.out, if_neg (by omega), brk, if_pos ‹_›]
            simp
          case measure => simp only [World.iterPos, hI, hit]; omega
        · go_roundw
          case rel =>
            refine ⟨pos + (Utf8.decode s pos).2, ((Utf8.decode s pos).1 : Int), out, by omega, ?_, rfl, by omega, hown1, hit2, hbw2⟩
            rw [← HO.out, HC.out, if_neg HZ.out, if_neg (by omega), brk, if_neg (by simp [*])]
          case measure => simp only [World.iterPos, hit2, hit]; omega
    · have hnx : ∀ ty, (Instr.next (.pointer (some ⟨w.heap.size, 0, none⟩)) true ty).run Tryd.prog wr = _ := fun ty => Lib.run_next_end_at wr w.heap.size s pos ty hit hp
      have he := HO.out
      rw [chFrom_end s.data.toList pos (by omega)] at he
      have e2 : brk (if pos = 0 then none else some q) [] = [] := by cases (if pos = 0 then none else some q) <;> rfl
      rw [e2, List.append_nil] at he
      have HE := Lib.hid he
      clear he e2
      go_wp2
      go_ret
      rw [← HE.out]
      exact ⟨_, rfl, own_mono hown (by omega), hbw⟩

set_option maxHeartbeats 400000 in
theorem rbreaks_any (s : ByteArray) (w : World) (hs : s.size ≤ 2097152) :
    Calls Tryd.prog 19 #[.string s] w fun e w' => ∃ v, e = .returned v ∧ w'.ownsRow w.heap.size 3 1 v (breaks s.data.toList).length ((breaks s.data.toList).map intV) ∧ Below w.heap.size w w' := by
  have hlen := chars_len s.data.toList
  have hl := size_len s
  unfold breaks
  obtain ⟨L, hL⟩ : ∃ L, chars s.data.toList = L := ⟨_, rfl⟩
  rw [hL] at hlen ⊢
  have HL := Lib.hid hL
  clear hL
  go_enter Tryd.func19, Tryd.ntmps19
  go_wp2_with fail
  refine (chars_any s _ hs).mono ?_
  rintro e w1 ⟨v1, v2, rfl, ho1, ho2, hb⟩
  rw [HL.out] at ho1 ho2
  have hr1 := Reads.of_own ho1
  have hr2 := Reads.of_own ho2
  obtain ⟨_, a1, cap1, rfl, hcap1, hmx1, hrd1⟩ := hr1
  obtain ⟨_, a2, cap2, rfl, hcap2, hmx2, hrd2⟩ := hr2
  clear ho1 ho2
  go_wp2_with fail
  go_loopw [5, 6] (fun v i wr => ∃ (k : Nat) (out : List Nat), 1 ≤ k ∧ k ≤ L.length + 1 ∧ i = .int .i64 k ∧ out ++ brk (L[k - 1]?.map (·.2)) (L.drop k) = brk none L ∧
      wr.ownsRow w1.heap.size 3 1 v out.length (out.map intV) ∧ Below w1.heap.size w1 wr) (fun _ i _ => L.length + 1 - (intOf i).toNat)
  case atStart => exact ⟨1, [], by omega, by omega, rfl, by cases L <;> simp [brk], World.ownsRow_nil _ _ _ _, Below.refl _ _⟩
  case round =>
    obtain ⟨k, out, hk1, hk2, rfl, hout, hown, hbw⟩ := hrel
    have hol : out.length ≤ L.length := by
      have h1 := congrArg List.length hout
      have h2 := brk_len L none
      simp only [List.length_append] at h1
      omega
    have HO := Lib.hid hout
    clear hout
    by_cases hlt : k < L.length
    · obtain ⟨j, rfl⟩ : ∃ j, k = j + 1 := ⟨k - 1, by omega⟩
      rcases hrd1 with ⟨_, h0⟩ | ⟨b1, off1, rfl, hbb1, hcell1⟩
      · omega
      rcases hrd2 with ⟨_, h0⟩ | ⟨b2, off2, rfl, hbb2, hcell2⟩
      · omega
      have c1 : wr.cell? ⟨b1, off1 + j, none⟩ = some (.int .i32 (L[j]'(by omega)).2) := by
        rw [hbw.cell (p := ⟨b1, off1 + j, none⟩) hbb1]; exact hcell1 j _ (by simp [runeV, show j < L.length by omega])
      have c2 : wr.cell? ⟨b1, off1 + (j + 1), none⟩ = some (.int .i32 (L[j + 1]).2) := by
        rw [hbw.cell (p := ⟨b1, off1 + (j + 1), none⟩) hbb1]; exact hcell1 (j + 1) _ (by simp [runeV, hlt])
      have c3 : wr.cell? ⟨b2, off2 + (j + 1), none⟩ = some (.int .i64 (L[j + 1].1 : Nat)) := by
        rw [hbw.cell (p := ⟨b2, off2 + (j + 1), none⟩) hbb2]; exact hcell2 (j + 1) _ (by rw [List.getElem?_append_left (by simp; exact hlt)]; simp [offV, hlt])
      clear hcell1 hcell2
      have hw1 : IntKind.i64.wrap (j : Int) = j := IntWalk.i64_in _ (by omega)
      have hw2 : IntKind.i64.wrap ((j : Int) + 1) = (j : Int) + 1 := IntWalk.i64_in _ (by omega)
      have ht : ((j : Int) + 1).toNat = j + 1 := by omega
      have hj1 : (j : Int) < (L.length : Int) := by omega
      have hj2 : (j : Int) + 1 < (L.length : Int) := by omega
      have hj3 : (0 : Int) ≤ (j : Int) + 1 := by omega
      go_wp2_with fail
      go_quiet ((go_at_call 37; exact Calls.quiet_of_same ((may_any _ _ _).mono fun _ _ h => ⟨h.1, h.2.symm⟩)))
      have hown' : (wr.drewN nq).ownsRow w1.heap.size 3 1 _ out.length (out.map intV) := hown
      have hbw' : Below w1.heap.size w1 (wr.drewN nq) := below_drewN hbw nq
      have hsz := hbw'.size
      go_wp2_with (refine app sl27 _ rfl (.tmp 28) (.tmp 33) rfl w1.heap.size _ _ _ rfl hown' [_] 1 rfl rfl (by intro u hu; simp at hu; subst hu; rfl) (by decide) (by omega) (by omega) (by omega) ?_; intro v1' w2 hA gA; have hW := below_own hbw' hown' gA (by omega) (by omega))
      · go_roundw
        case rel =>
          refine ⟨j + 2, out ++ [L[j + 1].1], by omega, by omega, by go_num, ?_, by simpa [intV] using hA, hW⟩
          rw [← HO.out, List.drop_eq_getElem_cons hlt]
          simp only [Nat.add_sub_cancel, show j < L.length by omega, List.getElem?_eq_getElem, Option.map_some]
          rw [brk, if_pos ‹_›]
          simp [show j + 2 - 1 = j + 1 from rfl, hlt]
        case measure => simp [intOf]; omega
      · go_roundw
        case rel =>
          refine ⟨j + 2, out, by omega, by omega, by go_num, ?_, hown', hbw'⟩
          rw [← HO.out, List.drop_eq_getElem_cons hlt]
          simp only [Nat.add_sub_cancel, show j < L.length by omega, List.getElem?_eq_getElem, Option.map_some]
          rw [brk, if_neg (by simp [*])]
          simp [show j + 2 - 1 = j + 1 from rfl, hlt]
        case measure => simp [intOf]; omega
    · have he := HO.out
      rw [List.drop_eq_nil_of_le (by omega)] at he
      have e2 : brk (L[k - 1]?.map (·.2)) [] = [] := by cases (L[k - 1]?.map (·.2)) <;> rfl
      rw [e2, List.append_nil] at he
      have HE := Lib.hid he
      clear he e2
      have hsz := hb.size
      go_wp2
      go_ret
      rw [← HE.out]
      exact ⟨_, rfl, own_mono hown (by omega), hb.trans (hbw.mono (by omega))⟩
end Go.Proofs.YtcpklmolofbopaaDoor
