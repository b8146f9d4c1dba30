/- The walk of Lines. -/
import Derived.Test.YtcpklmolofbopaaDoorF
import Derived.Test.YtcpklmolofbopaaDoorK2
namespace Go.Proofs.YtcpklmolofbopaaDoor
open Go.RowKit

theorem sl30 : SlTy Tryd.prog 30 35 4 32 := .mk' (z := .agg #[.int .i64 0, .int .i64 0, .int .i64 0, .int .i64 0]) Tryd.underlying30 (by kernel_rfl) rfl (by decide)

/-- a line: from, to, next, width -/
abbrev Ln := Nat × Nat × Nat × Int
def lnV (x : Ln) : List Value := [.int .i64 (x.1 : Int), .int .i64 (x.2.1 : Int), .int .i64 (x.2.2.1 : Int), .int .i64 x.2.2.2]
def lnsV (l : List Ln) : List Value := l.flatMap lnV
theorem lnsV_len (l : List Ln) : (lnsV l).length = l.length * 4 := by
  induction l with
  | nil => rfl
  | cons x t ih => simp only [lnsV, List.flatMap_cons, List.length_append, List.length_cons] at *; rw [ih]; simp [lnV]; omega
theorem lnsV_snoc (l : List Ln) (x : Ln) : lnsV (l ++ [x]) = lnsV l ++ lnV x := by simp [lnsV]
/-- part -/
def partL (l : List UInt8) (n : Int) (a b : Nat) : Ln := (a, trimTo l a b, b, width (sub l a (trimTo l a b)) n)
/-- how the lines go on from an offset on, with a best line in hand -/
def goL (l : List UInt8) (n wd : Int) : Nat → Ln → List Nat → List Ln
  | _, best, [] => [best]
  | fr, best, e :: es =>
    if fr < best.2.2.1 ∧ wd < (partL l n fr e).2.2.2 then best :: goL l n wd best.2.2.1 (partL l n best.2.2.1 e) es
    else goL l n wd fr (partL l n fr e) es
def ends (l : List UInt8) : List Nat := breaks l ++ [l.length]
def lines (l : List UInt8) (n wd : Int) : List Ln := if l = [] then [] else goL l n wd 0 (0, 0, 0, 0) (ends l)
theorem goL_len (l : List UInt8) (n wd : Int) : ∀ (es : List Nat) (fr : Nat) (b : Ln), (goL l n wd fr b es).length ≤ es.length + 1 := by
  intro es
  induction es with
  | nil => intro fr b; simp [goL]
  | cons e es ih =>
    intro fr b
    unfold goL
    split
    · have := ih b.2.2.1 (partL l n b.2.2.1 e); simp; omega
    · have := ih fr (partL l n fr e); simp; omega

/-- the breaks ascend, and lie in the string -/
theorem brk_lo : ∀ (f p : Nat) (l : List UInt8) (q : Option Int), l.length - p ≤ f → ∀ x ∈ brk q (chFrom l p), p ≤ x ∧ x < l.length ∧ (q = none → p < x) := by
  intro f
  induction f with
  | zero => intro p l q h x hx; rw [chFrom_end l p (by omega)] at hx; cases q <;> simp [brk] at hx
  | succ f ih =>
    intro p l q h x hx
    by_cases hp : p < l.length
    · rw [chFrom_cons l p hp] at hx
      have hw := Lib.decodeL_width (l.drop p)
      have := ih (p + (Lib.decodeL (l.drop p)).2) l
      cases q with
      | none => rw [brk] at hx; have := this _ (by omega) x hx; exact ⟨by omega, by omega, fun _ => by omega⟩
      | some q =>
        rw [brk] at hx
        split at hx
        · rcases List.mem_cons.1 hx with rfl | hx
          · exact ⟨Nat.le_refl _, hp, by simp⟩
          · have := this _ (by omega) x hx; exact ⟨by omega, by omega, by simp⟩
        · have := this _ (by omega) x hx; exact ⟨by omega, by omega, by simp⟩
    · rw [chFrom_end l p (by omega)] at hx; cases q <;> simp [brk] at hx
theorem brk_asc : ∀ (f p : Nat) (l : List UInt8) (q : Option Int), l.length - p ≤ f → (brk q (chFrom l p)).Pairwise (· < ·) := by
  intro f
  induction f with
  | zero => intro p l q h; rw [chFrom_end l p (by omega)]; cases q <;> simp [brk]
  | succ f ih =>
    intro p l q h
    by_cases hp : p < l.length
    · rw [chFrom_cons l p hp]
      have hw := Lib.decodeL_width (l.drop p)
      cases q with
      | none => rw [brk]; exact ih _ _ _ (by omega)
      | some q =>
        rw [brk]
        split
        · refine List.pairwise_cons.2 ⟨fun x hx => ?_, ih _ _ _ (by omega)⟩
          have := brk_lo f _ l _ (by omega) x hx
          simp only at *
          omega
        · exact ih _ _ _ (by omega)
    · rw [chFrom_end l p (by omega)]; cases q <;> simp [brk]
theorem breaks_mem (l : List UInt8) (x : Nat) (h : x ∈ breaks l) : 0 < x ∧ x < l.length := by
  have := brk_lo _ 0 l none (Nat.le_refl _) x h
  exact ⟨this.2.2 rfl, this.2.1⟩
theorem ends_asc (l : List UInt8) : (ends l).Pairwise (· < ·) := by
  refine List.pairwise_append.2 ⟨brk_asc _ 0 l none (Nat.le_refl _), by simp, fun x hx y hy => ?_⟩
  simp at hy; subst hy; exact (breaks_mem l x hx).2
theorem ends_le (l : List UInt8) (x : Nat) (h : x ∈ ends l) : x ≤ l.length := by
  rcases List.mem_append.1 h with h | h
  · exact Nat.le_of_lt (breaks_mem l x h).2
  · simp at h; omega
theorem ends_len (l : List UInt8) : (ends l).length ≤ l.length + 1 := by
  have := brk_len (chars l) none
  have := chars_len l
  simp only [ends, breaks, List.length_append, List.length_cons, List.length_nil]
  omega
theorem asc_at {E : List Nat} (h : E.Pairwise (· < ·)) (k : Nat) (hk : k + 1 < E.length) : E[k] < E[k + 1] := List.pairwise_iff_getElem.1 h k (k + 1) (by omega) hk (by omega)
theorem goL_nil (l : List UInt8) (n wd : Int) (fr : Nat) (b : Ln) : goL l n wd fr b [] = [b] := rfl
theorem goL_yes (l : List UInt8) (n wd : Int) (fr : Nat) (b : Ln) (e : Nat) (es : List Nat) (h1 : fr < b.2.2.1) (h2 : wd < (partL l n fr e).2.2.2) : goL l n wd fr b (e :: es) = b :: goL l n wd b.2.2.1 (partL l n b.2.2.1 e) es := by
  rw [goL, if_pos ⟨h1, h2⟩]
theorem goL_no (l : List UInt8) (n wd : Int) (fr : Nat) (b : Ln) (e : Nat) (es : List Nat) (h : ¬ (fr < b.2.2.1 ∧ wd < (partL l n fr e).2.2.2)) : goL l n wd fr b (e :: es) = goL l n wd fr (partL l n fr e) es := by
  rw [goL, if_neg h]

/-- what an append leaves of a block that is not its row's -/
theorem keep_at {W0 w4 : World} {v : Option Nat} (hg : W0.grownBy w4 v) {k : Nat} (hk : k < W0.heap.size) (hne : v ≠ some k) :
    (∀ o, w4.cell? ⟨k, o, none⟩ = W0.cell? ⟨k, o, none⟩) ∧ (∀ o, w4.frozen? ⟨k, o, none⟩ = W0.frozen? ⟨k, o, none⟩) :=
  ⟨fun o => World.cell?_of_block (w := W0) (a := ⟨k, o, none⟩) (hg.block k hk (fun h => hne h.symm)), fun o => World.frozen?_of_block (w := W0) (a := ⟨k, o, none⟩) (hg.block k hk (fun h => hne h.symm))⟩
/-- part, its line in hand -/
theorem part_at (s : ByteArray) (a b : Nat) (n : Int) (w : World) (hs : s.size ≤ 2097152) (hab : a ≤ b) (hb : b ≤ s.size) {x : Ln} (hx : partL s.data.toList n a b = x) :
    Calls Tryd.prog 38 #[.string s, .int .i64 (a : Int), .int .i64 (b : Int), .int .i64 n] w fun e w' =>
      e = .returned (.agg #[.int .i64 (a : Int), .int .i64 (x.2.1 : Int), .int .i64 (b : Int), .int .i64 x.2.2.2]) ∧ Below w.heap.size w w' := by
  subst hx
  exact part_any s a b n w hs hab hb

theorem lines_empty (s : ByteArray) (n wd : Int) (w : World) (hs : s.toList.isEmpty = true) :
    Calls Tryd.prog 20 #[.string s, .int .i64 n, .int .i64 wd] w fun e w' => e = .returned (.slice none 0 0) ∧ w = w' := by
  go_enter Tryd.func20, Tryd.ntmps20
  go_wp2_with fail
  go_ret
  exact ⟨rfl, rfl⟩

set_option maxHeartbeats 1000000 in
theorem lines_some (s : ByteArray) (n wd : Int) (w : World) (hs : s.size ≤ 2097152) (hne : s.toList.isEmpty = false) :
    Calls Tryd.prog 20 #[.string s, .int .i64 n, .int .i64 wd] w fun e w' => ∃ v, e = .returned v ∧
      w'.ownsRow w.heap.size 35 4 v (goL s.data.toList n wd 0 (0, 0, 0, 0) (ends s.data.toList)).length (lnsV (goL s.data.toList n wd 0 (0, 0, 0, 0) (ends s.data.toList))) ∧ Below w.heap.size w w' := by
  have hl := size_len s
  have hE1 := ends_asc s.data.toList
  have hE2 := ends_le s.data.toList
  have hE3 := ends_len s.data.toList
  obtain ⟨G, hG⟩ : ∃ G, goL s.data.toList n wd 0 (0, 0, 0, 0) (ends s.data.toList) = G := ⟨_, rfl⟩
  have hGl : G.length ≤ (ends s.data.toList).length + 1 := by rw [← hG]; exact goL_len _ _ _ _ _ _
  rw [hG]
  have hbk : (breaks s.data.toList).length + 1 = (ends s.data.toList).length := by simp [ends]
  obtain ⟨E, hEE⟩ : ∃ E, ends s.data.toList = E := ⟨_, rfl⟩
  rw [hEE] at hE1 hE2 hE3 hG hGl hbk
  have hEV : (breaks s.data.toList).map intV ++ [.int .i64 (s.size : Int)] = E.map intV := by rw [← hEE]; simp [ends, intV]
  have HEV := Lib.hid hEV
  have HG := Lib.hid hG
  have HE1 := Lib.hid hE1
  have HE2 := Lib.hid hE2
  have HBK := Lib.hid hbk
  have hbk' : (breaks s.data.toList).length ≤ 2097153 := by omega
  have hEl : E.length ≤ 2097153 := by omega
  have hE0 : 0 < E.length := by omega
  clear hEE hEV hG hE1 hE2 hbk hE3
  go_enter Tryd.func20, Tryd.ntmps20
  go_wp2_with (first
    | (go_at_call 18; refine (breaks_any s _ hs).mono ?_; rintro e w1 ⟨v1, rfl, ho1, hb1⟩; obtain ⟨kc1, kf1⟩ := bcell hb1; have hz1 : w.heap.size < w1.heap.size := (by have := hb1.size; simp at this; omega))
    | (refine app sl27 _ rfl (.tmp 16) (.tmp 19) rfl (w.heap.size + 1) _ _ _ rfl (own_mono ho1 (by simp)) [_] 1 rfl rfl (by intro u hu; simp at hu; subst hu; rfl) (by decide) (by omega) (by omega) (by omega) ?_; intro v2 w2 hA gA; have hI := block_kept ho1 gA (k := w.heap.size) (by simp) hz1; have hz2 : w.heap.size < w2.heap.size := Nat.lt_of_lt_of_le hz1 gA.size; have hB2 := below_own hb1 ho1 gA (by simp; omega) (by simp); obtain ⟨a2, cap2, rfl, hcap2, hmx2, hrd2⟩ := own_reads hA; clear hA gA))
  have c0 : ∀ j : Nat, j < 4 → w2.cell? ⟨w.heap.size, j, none⟩ = some (.int .i64 0) := fun j hj => by
    rw [World.cell?_of_block (w := w1) (a := ⟨w.heap.size, j, none⟩) hI, kc1 _ _ (by simp)]
    match j, hj with
    | 0, _ => simp
    | 1, _ => simp
    | 2, _ => simp
    | 3, _ => simp
  have f0 : ∀ j : Nat, w2.frozen? ⟨w.heap.size, j, none⟩ = false := fun j => by
    rw [World.frozen?_of_block (w := w1) (a := ⟨w.heap.size, j, none⟩) hI, kf1 _ _ (by simp)]
    simp
  clear kc1 kf1 hI
  go_loopw [7, 8, 22] (fun v f i wr => ∃ (k fr bf bt bn : Nat) (bw : Int) (out : List Ln), k ≤ E.length ∧ i = .int .i64 k ∧ f = .int .i64 fr ∧ out ++ goL s.data.toList n wd fr (bf, bt, bn, bw) (E.drop k) = G ∧
      fr ≤ bn ∧ bn ≤ s.size ∧ (∀ h : k < E.length, bn ≤ E[k]) ∧
      (wr.cell? ⟨w.heap.size, 0, none⟩ = some (.int .i64 bf) ∧ wr.cell? ⟨w.heap.size, 1, none⟩ = some (.int .i64 bt) ∧ wr.cell? ⟨w.heap.size, 2, none⟩ = some (.int .i64 bn) ∧ wr.cell? ⟨w.heap.size, 3, none⟩ = some (.int .i64 bw)) ∧
      (wr.frozen? ⟨w.heap.size, 0, none⟩ = false ∧ wr.frozen? ⟨w.heap.size, 1, none⟩ = false ∧ wr.frozen? ⟨w.heap.size, 2, none⟩ = false ∧ wr.frozen? ⟨w.heap.size, 3, none⟩ = false) ∧
      wr.ownsRow w2.heap.size 35 4 v out.length (lnsV out) ∧ BelowBut w2.heap.size w.heap.size w2 wr) (fun _ _ i _ => E.length - (intOf i).toNat)
  case atStart => exact ⟨0, 0, 0, 0, 0, 0, [], Nat.zero_le _, rfl, rfl, HG.out, Nat.le_refl _, Nat.zero_le _, fun _ => Nat.zero_le _, ⟨c0 0 (by omega), c0 1 (by omega), c0 2 (by omega), c0 3 (by omega)⟩, ⟨f0 0, f0 1, f0 2, f0 3⟩, World.ownsRow_nil _ _ _ _, BelowBut.refl _ _ _⟩
  case round =>
    obtain ⟨k, fr, bf, bt, bn, bw, out, hk, rfl, rfl, hout, hfb, hbs, hbE, ⟨d0, d1, d2, d3⟩, ⟨g0, g1, g2, g3⟩, hown, hbb⟩ := hrel
    clear c0 f0
    have hGo : out.length + 1 ≤ G.length ∨ True := .inr trivial
    have hol : out.length ≤ 2097155 := by
      have h1 := congrArg List.length hout
      simp only [List.length_append] at h1
      omega
    have HO := Lib.hid hout
    have HbE := Lib.hid hbE
    clear hout hGo hbE
    have hsz := hbb.size
    have hz0 : w.heap.size < wr.heap.size := by omega
    by_cases hlt : k < E.length
    · have hee : E[k] ≤ s.size := by have := HE2.out E[k] (List.getElem_mem hlt); omega
      have hbe : bn ≤ E[k] := HbE.out hlt
      have hnx : ∀ h : k + 1 < E.length, E[k] ≤ E[k + 1] := fun h => Nat.le_of_lt (asc_at HE1.out k h)
      have HNX := Lib.hid hnx
      clear hnx
      have hd : E.drop k = E[k] :: E.drop (k + 1) := List.drop_eq_getElem_cons hlt
      have HDr := Lib.hid hd
      clear hd
      obtain ⟨e, he⟩ : ∃ e, E[k] = e := ⟨_, rfl⟩
      rcases hrd2 with ⟨_, h0⟩ | ⟨b2, rfl, hb2, hbb2, hcell2⟩
      · omega
      have ce : wr.cell? ⟨b2, k, none⟩ = some (.int .i64 (e : Int)) := by
        rw [hbb.cell (p := ⟨b2, k, none⟩) hbb2 (by show b2 ≠ w.heap.size; omega), ← he]
        refine hcell2 k _ ?_
        rw [HEV.out]
        simp [intV, hlt]
      clear hcell2
      rw [he] at hee hbe HNX HDr
      clear he
      have hkb : (k : Int) < (breaks s.data.toList).length + 1 := by have := HBK.out; omega
      obtain ⟨x1, hx1⟩ : ∃ x, partL s.data.toList n fr e = x := ⟨_, rfl⟩
      obtain ⟨x2, hx2⟩ : ∃ x, partL s.data.toList n bn e = x := ⟨_, rfl⟩
      have cP1 := fun wx => part_at s fr e n wx hs (by omega) hee hx1
      have cP2 := fun wx => part_at s bn e n wx hs (by omega) hee hx2
      have HX1 := Lib.hid hx1
      have HX2 := Lib.hid hx2
      have HP1 := Lib.hid cP1
      have HP2 := Lib.hid cP2
      clear hx1 hx2 cP1 cP2
      go_wp2_with (first
        | (go_at_call 38; with_reducible refine (HP1.out _).mono ?_; rintro e w3 ⟨rfl, hb3⟩; obtain ⟨kc3, kf3⟩ := bcell hb3; have hz3 : w.heap.size < w3.heap.size := (by have := hb3.size; omega); have hown3 := own_below hown hb3 (Nat.le_refl _); have hs3 : w2.heap.size ≤ w3.heap.size := (by have := hb3.size; omega))
        | (at_builtin; go_loud (refine app2 sl30 _ rfl (.tmp 41) (.tmp 43) rfl w2.heap.size _ _ _ rfl (hown3.alloc _) [_, _, _, _] 1 _ rfl (by simp) rfl (by intro u hu; simp at hu; rcases hu with rfl | rfl | rfl | rfl <;> rfl) (by decide) (by omega) (by omega) (by simp; omega) ?_); intro v4 w4 hA4 gA4 hf4; obtain ⟨kc4, kf4⟩ := keep_at gA4 (k := w.heap.size) (by simp; omega) (by intro h; have := hown3.lt _ h; omega); obtain ⟨kd4, kg4⟩ := keep_at gA4 (k := w3.heap.size) (by simp) (by intro h; have := hown3.lt _ h; omega); have hz4 : w3.heap.size < w4.heap.size := (by have := gA4.size; simp at this; omega); have hz4' : w.heap.size < w4.heap.size := (by omega))
        | (go_at_call 38; with_reducible refine (HP2.out _).mono ?_; rintro e w5 ⟨rfl, hb5⟩; obtain ⟨kc5, kf5⟩ := bcell hb5; have hz5 : w.heap.size < w5.heap.size := (by have := hb5.size; omega)))
      · go_roundw
        case rel =>
          have h1 : fr < bn := by assumption
          have h2 : wd < x1.2.2.2 := by assumption
          have e2 : x2.1 = bn ∧ x2.2.2.1 = e := by rw [← HX2.out]; exact ⟨rfl, rfl⟩
          obtain ⟨g4, hg4, hg5⟩ := hf4
          have hg6 : w2.heap.size ≤ g4 := (hA4.lt g4 hg4).1
          have hg7 : g4 ≠ w3.heap.size := by
            rcases hg5 with h | h
            · have := (hown3.lt g4 h).2; omega
            · simp at h; omega
          have hg8 : g4 ≠ w.heap.size := by omega
          refine ⟨k + 1, bn, bn, x2.2.1, e, x2.2.2.2, out ++ [(bf, bt, bn, bw)], by omega, by go_num, rfl, ?_, by omega, hee, HNX.out, ?_, ?_, ?_, ?_⟩
          · rw [← HO.out, HDr.out, goL_yes _ _ _ _ _ _ _ h1 (by rw [HX1.out]; exact h2), HX2.out]
            obtain ⟨y1, y2, y3, y4⟩ := x2
            obtain ⟨rfl, rfl⟩ := e2
            simp
          · go_simp
          · go_simp
          · rw [lnsV_snoc, List.length_append]
            have hA5 := own_below hA4 hb5 (Nat.le_refl _)
            refine ownsRow_setCell_other (ownsRow_setCell_other (ownsRow_setCell_other (ownsRow_setCell_other (ownsRow_setCell_other (ownsRow_setCell_other (ownsRow_setCell_other (ownsRow_setCell_other hA5 ?_ _) ?_ _) ?_ _) ?_ _) ?_ _) ?_ _) ?_ _) ?_ _
            all_goals (rw [hg4]; simpa using ‹_›)
          · have hW := ((((hbb.below hb3 hsz).alloc hs3 _).grown (hown3.alloc _) gA4 (by simp; omega)).below hb5 (by omega))
            exact (((((((hW.setCell _ (.inr hs3) _).setCell _ (.inr hs3) _).setCell _ (.inr hs3) _).setCell _ (.inr hs3) _).setCell _ (.inl rfl) _).setCell _ (.inl rfl) _).setCell _ (.inl rfl) _).setCell _ (.inl rfl) _
        case measure => simp [intOf]; omega
      all_goals
        go_roundw
        case rel =>
          have h12 : ¬ (fr < bn ∧ wd < x1.2.2.2) := by omega
          have e1 : x1.1 = fr ∧ x1.2.2.1 = e := by rw [← HX1.out]; exact ⟨rfl, rfl⟩
          refine ⟨k + 1, fr, fr, x1.2.1, e, x1.2.2.2, out, by omega, by go_num, rfl, ?_, by omega, hee, HNX.out, ?_, ?_, ?_, ?_⟩
          · rw [← HO.out, HDr.out, goL_no _ _ _ _ _ _ _ (by rw [HX1.out]; exact h12), HX1.out]
            obtain ⟨y1, y2, y3, y4⟩ := x1
            obtain ⟨rfl, rfl⟩ := e1
            rfl
          · go_simp
          · go_simp
          · refine (ownsRow_setCell_other (ownsRow_setCell_other (ownsRow_setCell_other (ownsRow_setCell_other hown3 ?_ _) ?_ _) ?_ _) ?_ _).alloc _
            all_goals (intro h; have := (hown3.lt _ h).1; simp only at this; omega)
          · exact (((((hbb.below hb3 hsz).setCell _ (.inl rfl) _).setCell _ (.inl rfl) _).setCell _ (.inl rfl) _).setCell _ (.inl rfl) _).alloc (by simp; exact hs3) _
        case measure => simp [intOf]; omega
    · have he := HO.out
      rw [List.drop_eq_nil_of_le (by omega), goL_nil] at he
      have HE := Lib.hid he
      clear he
      have hkb : ¬ (k : Int) < (breaks s.data.toList).length + 1 := by have := HBK.out; omega
      go_wp2_with (refine app2 sl30 _ rfl (.tmp 54) (.tmp 56) rfl w2.heap.size _ _ _ rfl hown [_, _, _, _] 1 _ rfl (by simp) rfl (by intro u hu; simp at hu; rcases hu with rfl | rfl | rfl | rfl <;> rfl) (by decide) (by omega) (by omega) (by omega) ?_; intro v4 w4 hA4 gA4 hf4)
      go_ret
      rw [← HE.out]
      refine ⟨_, rfl, ?_, ?_⟩
      · rw [lnsV_snoc, List.length_append]
        exact own_mono hA4 (by omega)
      · exact (hbb.grown hown gA4 (by omega)).to_below (((Below.refl _ w).alloc (Nat.le_refl _) _).trans (hB2.mono (by simp))) (by omega) (Nat.le_refl _)
end Go.Proofs.YtcpklmolofbopaaDoor
