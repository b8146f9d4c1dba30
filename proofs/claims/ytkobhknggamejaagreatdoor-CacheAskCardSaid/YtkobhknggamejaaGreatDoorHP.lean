/- Cache: find: a range over slices.Backward. -/
import Derived.RangeFuncNested
import Derived.RangeFuncBound
import Derived.RangeFuncCalls
import Derived.RangeFuncLeaves
import Derived.RangeFuncBox
import Derived.Shelf.Abstract
import Derived.Shelf.RegionOpen
import Derived.WalkKit
import Derived.OwnWalkIn
import Derived.TacticsInMore
import Derived.LoopNIn
import Derived.LoopIn
import Derived.Test.YtkobhknggamejaaGreatDoorHO
namespace Go.Proofs.YtkobhknggamejaaGreatDoor
set_option linter.unusedVariables false
set_option linter.unusedSimpArgs false
open Go.RowKit Go.Shelf
attribute [local go_sem] Oper.semAt_some

/-- the last place at which p holds, or -1 -/
def LastAt {α : Type} (p : α → Bool) (l : List α) (R : Int) : Prop := (R = -1 ∧ ∀ j (h : j < l.length), p l[j] = false) ∨ (∃ k, ∃ h : k < l.length, R = (k : Nat) ∧ p l[k] = true ∧ ∀ j (h : j < l.length), k < j → p l[j] = false)
theorem LastAt.none {α : Type} {p : α → Bool} {l : List α} {R : Int} (h : LastAt p l R) (hn : ∀ j (h : j < l.length), p l[j] = false) : R = -1 := by
  rcases h with ⟨h, _⟩ | ⟨k, hk, _, h2, _⟩
  · exact h
  · rw [hn k hk] at h2; cases h2
theorem LastAt.some {α : Type} {p : α → Bool} {l : List α} {R : Int} (h : LastAt p l R) (k : Nat) (hk : k < l.length) (hp : p l[k] = true) (hn : ∀ j (h : j < l.length), k < j → p l[j] = false) : R = (k : Nat) := by
  rcases h with ⟨_, h⟩ | ⟨k2, hk2, h1, h2, h3⟩
  · rw [h k hk] at hp; cases hp
  · rcases Nat.lt_trichotomy k k2 with e | e | e
    · rw [hn k2 hk2 e] at h2; cases h2
    · rw [h1, e]
    · rw [h3 k hk e] at hp; cases hp
theorem lastAt_snoc {α : Type} (p : α → Bool) (l : List α) (x : α) (R : Int) (h : LastAt p l R) : LastAt p (l ++ [x]) (if p x then (l.length : Nat) else R) := by
  have hx : (l ++ [x])[l.length]'(by simp) = x := by simp
  have ho : ∀ j (h : j < l.length), (l ++ [x])[j]'(by simp; omega) = l[j] := fun j h => List.getElem_append_left h
  cases hp : p x with
  | true =>
    refine .inr ⟨l.length, by simp, by simp, by rw [hx]; exact hp, fun j hj hlt => ?_⟩
    simp at hj; omega
  | false =>
    rcases h with ⟨h1, h2⟩ | ⟨k, hk, h1, h2, h3⟩
    · refine .inl ⟨by simp [h1], fun j hj => ?_⟩
      by_cases e : j < l.length
      · rw [ho j e]; exact h2 j e
      · obtain rfl : j = l.length := by simp at hj; omega
        rw [hx]; exact hp
    · refine .inr ⟨k, by simp; omega, by simp [h1], by rw [ho k hk]; exact h2, fun j hj hlt => ?_⟩
      by_cases e : j < l.length
      · rw [ho j e]; exact h3 j e hlt
      · obtain rfl : j = l.length := by simp at hj; omega
        rw [hx]; exact hp
theorem lastAt_step {α : Type} (p : α → Bool) (l : List α) (k : Nat) (h : k < l.length) (x : α) (hx : l[k] = x) (R : Int) (hR : LastAt p (l.take k) R) : LastAt p (l.take (k + 1)) (if p x then (k : Nat) else R) := by
  subst hx
  have := lastAt_snoc p (l.take k) l[k] R hR
  rw [List.length_take, Nat.min_eq_left (by omega), ← List.take_succ_eq_append_getElem h] at this
  exact this
theorem lastAt_ex {α : Type} (p : α → Bool) (l : List α) : ∃ R, LastAt p l R := by
  have key : ∀ k, k ≤ l.length → ∃ R, LastAt p (l.take k) R := by
    intro k
    induction k with
    | zero => intro _; exact ⟨-1, .inl ⟨rfl, fun j h => by simp at h⟩⟩
    | succ k ih =>
      intro h
      obtain ⟨R, hR⟩ := ih (by omega)
      exact ⟨_, lastAt_step p l k (by omega) _ rfl R hR⟩
  obtain ⟨R, hR⟩ := key l.length (Nat.le_refl _)
  rw [List.take_length] at hR
  exact ⟨R, hR⟩
theorem LastAt.bd {α : Type} {p : α → Bool} {l : List α} {R : Int} (h : LastAt p l R) : -1 ≤ R ∧ R < l.length := by
  rcases h with ⟨h, _⟩ | ⟨k, hk, h, _⟩ <;> omega
/-- the places of a list, from behind -/
def bk (n k : Nat) : List Nat := (List.range k).map (fun j => n - 1 - j)
theorem bk_succ (n k : Nat) : bk n (k + 1) = bk n k ++ [n - 1 - k] := by simp [bk, List.range_succ]
theorem bk_length (n k : Nat) : (bk n k).length = k := by simp [bk]
set_option maxHeartbeats 1000000 in
theorem bw_in (F : Fence) (n : Nat) (hF : F.fn 76) (hro : F.round = none) (a : Option Addr) (len cap : Nat) (w : World) :
    CallsIn F n Tryz.prog 76 #[.slice a len cap] w fun e w' => e = .returned (.func (.func 92) #[] #[.pointer (some ⟨w.heap.size, 0, none⟩)]) ∧ w' = w.alloc (.cells #[.slice a len cap] 33) := by
  refine callsIn_of_wp Tryz.func76 rfl hF ?_ hro
  simp only [Tryz.ntmps76, List.size_toArray, List.length_cons, List.length_nil, Nat.reduceAdd, Nat.reduceSub, Array.replicate_succ, Array.replicate_zero, List.push_toArray, List.append_toArray, List.nil_append, List.cons_append]
  gi_wp2
  go_ret
  exact ⟨rfl, rfl⟩
set_option maxRecDepth 100000 in
set_option maxHeartbeats 2000000 in
theorem bw1_in (F : Fence) (n : Nat) (hF : F.fn 92) (hro : F.round = none) (hn : 1 ≤ n) (l : List Ee) (lp Bs n₀ b off cap : Nat) (hb : b < n₀) (hBn : Bs < n₀) (hlen : l.length ≤ 1000) (h0l : 0 < l.length) (J Jx : List (Fin l.length) → World → Prop)
    (hY : ∀ pre (x : Fin l.length) W, J pre W → pre.length < l.length → YieldAt F (n - 1) Tryz.prog lp #[.int .i64 ((x.val : Nat) : Int), eeA l[x]] W fun e W' =>
      (e = .returned (.bool true) ∧ J (pre ++ [x]) W' ∧ Below n₀ W W') ∨ (e = .returned (.bool false) ∧ Jx (pre ++ [x]) W'))
    (W : World) (hBs : W.cell? ⟨Bs, 0, none⟩ = some (.slice (some ⟨b, off, none⟩) l.length cap)) (hc : ∀ i (h : i < l.length) j u, (eeC l[i])[j]? = some u → W.cell? ⟨b, off + i * 6 + j, none⟩ = some u) (h0 : J [] W) :
    CallsIn F n Tryz.prog 92 #[.func (.yield lp) #[] #[], .pointer (some ⟨Bs, 0, none⟩)] W fun e W' => (∃ v, e = .returned v) ∧
      ((∃ ys, ys.map Fin.val = bk l.length l.length ∧ J ys W') ∨ (∃ pre, (∃ k, k ≤ l.length ∧ pre.map Fin.val = bk l.length k) ∧ Jx pre W')) := by
  refine callsIn_of_wp Tryz.func92 rfl hF ?_ hro
  simp only [Tryz.ntmps92, List.size_toArray, List.length_cons, List.length_nil, Nat.reduceAdd, Nat.reduceSub, Array.replicate_succ, Array.replicate_zero, List.push_toArray, List.append_toArray, List.nil_append, List.cons_append]
  obtain ⟨N, hN⟩ : ∃ N, l.length = N + 1 := ⟨l.length - 1, by omega⟩
  have hNN : (l.length : Int) - 1 = (N : Int) := by omega
  have HN := Lib.hid hN
  have HC := Lib.hid hc
  have HY := Lib.hid hY
  clear hN hc hY
  gi_wp2
  gi_loopw [3] (fun i wr => ∃ (m k : Nat) (pre : List (Fin l.length)), m + k = l.length ∧ i = .int .i64 ((m : Int) - 1) ∧ Hid (pre.map Fin.val = bk l.length k) ∧ J pre wr ∧ Below n₀ W wr) (fun i _ => (intOf i + 1).toNat)
  case atStart => exact ⟨l.length, 0, [], by omega, by rw [hNN], Lib.hid rfl, h0, Below.refl _ _⟩
  case round =>
    obtain ⟨m, k, pre, hmk, rfl, HP, hJs, hnx⟩ := hrel
    have hB1 := (hnx.cell (p := ⟨Bs, 0, none⟩) hBn).trans hBs
    cases m with
    | zero =>
      obtain rfl : k = l.length := by omega
      have hz : ((0 : Nat) : Int) - 1 = -1 := by omega
      rw [hz]
      gi_wp2
      go_end0
      exact ⟨⟨_, rfl⟩, .inl ⟨_, HP.out, hJs⟩⟩
    | succ m =>
      have hml : m < l.length := by omega
      have hz : ((m + 1 : Nat) : Int) - 1 = (m : Int) := by omega
      rw [hz]
      have hmi : (m : Int) < (l.length : Int) := by omega
      have hm0 : (0 : Int) ≤ (m : Int) := by omega
      have hpl : pre.length = k := by have := congrArg List.length HP.out; rw [bk_length] at this; simpa using this
      have hbs : (pre ++ [(⟨m, hml⟩ : Fin l.length)]).map Fin.val = bk l.length (k + 1) := by
        rw [List.map_append, HP.out, bk_succ]
        have e : m = l.length - 1 - k := by omega
        simp [← e]
      have HBS := Lib.hid hbs
      obtain ⟨fn, tmps, assign, body, hy, hR⟩ := HY.out pre ⟨m, hml⟩ wr hJs (by omega)
      have hcc := HC.out m hml
      have cc : ∀ j u, (eeC l[m])[j]? = some u → wr.cell? ⟨b, off + m * 6 + j, none⟩ = some u := fun j u hu => (hnx.cell (p := ⟨b, off + m * 6 + j, none⟩) hb).trans (hcc j u hu)
      have hy : (Instr.yield lp #[.int .i64 (m : Int), eeA l[m]]).run Tryz.prog wr = .ok (.round lp fn tmps assign body) wr := hy
      obtain ⟨y, hyy⟩ : ∃ y, l[m] = y := ⟨_, rfl⟩
      rw [hyy] at cc hy
      clear hyy hcc hpl hbs
      obtain ⟨⟨u, vv, st, hh, bo, ti⟩, ye⟩ := y
      have hy : (Instr.yield lp #[.int .i64 (m : Int), .agg #[.string u, vv, .int .i64 st, hh, .string bo, .int .i64 ti]]).run Tryz.prog wr = .ok (.round lp fn tmps assign body) wr := hy
      have c0 := cc 0 _ rfl
      have c1 := cc 1 _ rfl
      have c2 := cc 2 _ rfl
      have c3 := cc 3 _ rfl
      have c4 := cc 4 _ rfl
      have c5 := cc 5 _ rfl
      simp only [Nat.add_zero] at c0
      clear cc
      gi_wp2
      refine hR.mono ?_
      rintro e W3 (⟨rfl, hJ3, hk3⟩ | ⟨rfl, hJx3⟩)
      · gi_wp2
        go_roundw
        case rel => exact ⟨m, k + 1, _, by omega, rfl, HBS, hJ3, hnx.trans hk3⟩
        case measure => simp [intOf]
      · gi_wp2
        refine bodyPost_ret (results_none rfl _ _ _) rfl ?_
        exact ⟨⟨_, rfl⟩, .inr ⟨_, ⟨k + 1, by omega, HBS.out⟩, hJx3⟩⟩
set_option maxRecDepth 100000 in
set_option maxHeartbeats 1000000 in
theorem bw1_nil_in (F : Fence) (n : Nat) (hF : F.fn 92) (hro : F.round = none) (a : Option Addr) (cap : Nat) (lp Bs : Nat) (J : World → Prop) (W : World) (hBs : W.cell? ⟨Bs, 0, none⟩ = some (.slice a 0 cap)) (h0 : J W) :
    CallsIn F n Tryz.prog 92 #[.func (.yield lp) #[] #[], .pointer (some ⟨Bs, 0, none⟩)] W fun e W' => (∃ v, e = .returned v) ∧ J W' := by
  refine callsIn_of_wp Tryz.func92 rfl hF ?_ hro
  simp only [Tryz.ntmps92, List.size_toArray, List.length_cons, List.length_nil, Nat.reduceAdd, Nat.reduceSub, Array.replicate_succ, Array.replicate_zero, List.push_toArray, List.append_toArray, List.nil_append, List.cons_append]
  gi_wp2
  gi_loopw [3] (fun i wr => i = .int .i64 (-1) ∧ J wr) (fun _ _ => 0)
  case atStart => exact ⟨rfl, h0⟩
  case round =>
    obtain ⟨rfl, hJs⟩ := hrel
    gi_wp2
    go_end0
    exact ⟨⟨_, rfl⟩, hJs⟩
/-- slices.Backward hands back an iterator over the places from behind -/
theorem bw_stops (F : Fence) (n : Nat) (hF : F.fn 92) (hro : F.round = none) (hn : 1 ≤ n) (l : List Ee) (v : Value) (Bs n₀ : Nat) (hlen : l.length ≤ 1000) (w : World) (hBs : w.cell? ⟨Bs, 0, none⟩ = some v) (hBn : Bs < n₀) (hnw : n₀ ≤ w.heap.size) (hv : ∀ w2, Below w.heap.size w w2 → SlK eeC 6 w2 v l) (hvb : ∀ b off m c, v = .slice (some ⟨b, off, none⟩) m c → l ≠ [] → b < n₀) :
    SeqStopsK F n Tryz.prog 92 #[.pointer (some ⟨Bs, 0, none⟩)] (fun x : Fin l.length => #[.int .i64 ((x.val : Nat) : Int), eeA l[x]]) (Below n₀) (fun ys => ys.map Fin.val = bk l.length l.length) (fun pre => ∃ k, k ≤ l.length ∧ pre.map Fin.val = bk l.length k) l.length w := fun lp J Jx W hW _ _ hY h0 => by
  have hBl : Bs < w.heap.size := cell_lt hBs
  have hc' := (hW.cell (p := ⟨Bs, 0, none⟩) hBl).trans hBs
  rcases hv W hW with ⟨h1, a, cap, h2, _⟩ | ⟨h1, b, off, cap, h2, _, _, h4, h5⟩
  · subst h2
    have hl0 : l.length = 0 := by rw [h1]; rfl
    refine (bw1_nil_in F n hF hro a cap lp Bs (J []) W (by simpa using hc') h0).mono fun e W' ⟨he, hj⟩ => ⟨he, .inl ⟨[], ?_, hj⟩⟩
    rw [hl0]; rfl
  · subst h2
    exact bw1_in F n hF hro hn l lp Bs n₀ b off cap (hvb b off _ _ rfl h1) hBn hlen (List.length_pos_iff.2 h1) J Jx hY W hc' h5 h0
theorem bk_mem (n k j : Nat) (hj : j < n) (h : n - 1 - j < k) : j ∈ bk n k := by
  unfold bk
  exact List.mem_map.2 ⟨n - 1 - j, List.mem_range.2 h, by omega⟩
theorem bk_split (n k : Nat) (ini : List (Fin n)) (last : Fin n) (h : (ini ++ [last]).map Fin.val = bk n k) : ini.map Fin.val = bk n (k - 1) ∧ last.val = n - 1 - (k - 1) := by
  cases k with
  | zero => simp [bk] at h
  | succ k =>
    rw [bk_succ, List.map_append] at h
    obtain ⟨h1, h2⟩ := List.append_inj' h rfl
    exact ⟨h1, by simpa using h2⟩
def bB (l : List Ee) (url : ByteArray) (rq : List Hd) (x : Fin l.length) : Bool := ansB l[x].2 url rq
theorem AtL.kept {W W' : World} {k : Nat} {vs : List Value} {row : Option Nat} (h : AtL W k vs) (h0 : 0 < vs.length) (hg : W.grownBy W' row) (hr : ∀ r, row = some r → ∃ o : Obj, W.heap[r]? = some o ∧ o.isCells = false) : AtL W' k vs :=
  ⟨Nat.lt_of_lt_of_le h.1 hg.size, fun j v hv => ⟨cell_kept (h.c j hv) hg hr, (frozen_kept (h.c j hv) hg hr).trans (h.f j hv)⟩⟩
theorem keeps_of_below {W W' : World} (h : Below W.heap.size W W') (B : Nat) : KeepsFrom B W W' := ⟨h.size, fun k o _ hk _ => (h.block k (Array.getElem?_eq_some_iff.1 hk).1).trans hk⟩
set_option maxRecDepth 100000 in
set_option maxHeartbeats 4000000 in
theorem find_in (F : Fence) (n : Nat) (h55 : F.fn 55) (h76 : F.fn 76) (h92 : F.fn 92) (h60 : F.fn 60) (hro : F.round = none) (hn : 3 ≤ n)
    (hans : ∀ (l : Nat) (x : Ee) (url : ByteArray) (rq : List Hd) (vr : Value) (W : World), Rd W x.1 x.2 → SlK hdC 2 W vr rq → HdSz rq → HdSz x.2.va → CallsIn (F.inRound l) (n - 1 - 1 - 1) Tryz.prog 60 #[eeA x, .string url, vr] W fun e w' => e = .returned (.bool (ansB x.2 url rq)) ∧ Below W.heap.size W w')
    (jb : Nat) (v : Value) (l : List Ee) (w : World) (hA : AtL w jb [v]) (hv : SlK eeC 6 w v l) (hrd : ∀ x ∈ l, Rd w x.1 x.2 ∧ HdSz x.2.va) (hl : l.length ≤ 1000) (url : ByteArray) (rq : List Hd) (vr : Value) (hq : SlK hdC 2 w vr rq) (hz : HdSz rq) (R : Int) (hR : LastAt (fun x => ansB x.2 url rq) l R) :
    CallsIn F n Tryz.prog 55 #[.pointer (some ⟨jb, 0, none⟩), .string url, vr] w fun e w' => e = .returned (.int .i64 R) ∧ Below w.heap.size w w' := by
  have h1 : 1 ≤ n := by omega
  have j0 := hA.c 0 rfl
  have jl := hA.lt
  obtain ⟨sa, sc, rfl, _⟩ := hq.shape
  obtain ⟨ta, tc, rfl, _⟩ := hv.shape
  have HR := Lib.hid hR
  have HRD := Lib.hid hrd
  clear hR hrd
  refine callsIn_of_wp_marks Tryz.func55 rfl h55 ?_ hro
  simp only [Tryz.ntmps55, List.size_toArray, List.length_cons, List.length_nil, Nat.reduceAdd, Nat.reduceSub, Array.replicate_succ, Array.replicate_zero, List.push_toArray, List.append_toArray, List.nil_append, List.cons_append]
  have A3 := ((hA.alloc (.cells #[.string url] 9)).alloc (.cells #[.slice sa rq.length sc] 22)).alloc (.cells #[.int .i64 0] 3)
  have a30 := A3.c 0 rfl
  have al3 := A3.lt
  gi_wp2_with (gi_at_call 76; refine (bw_in F (n - 1) h76 hro _ _ _ _).mono ?_; rintro e w' ⟨rfl, rfl⟩)
  clear a30 al3 A3 j0
  have U0 := (((AtL.new w [.string url] 9).alloc (.cells #[.slice sa rq.length sc] 22)).alloc (.cells #[.int .i64 0] 3)).alloc (.cells #[.slice ta l.length tc] 33)
  have Q0 := ((AtL.new (w.alloc (.cells #[.string url] 9)) [.slice sa rq.length sc] 22).alloc (.cells #[.int .i64 0] 3)).alloc (.cells #[.slice ta l.length tc] 33)
  have R0 := (AtL.new ((w.alloc (.cells #[.string url] 9)).alloc (.cells #[.slice sa rq.length sc] 22)) [.int .i64 0] 3).alloc (.cells #[.slice ta l.length tc] 33)
  have I0 := AtL.new (((w.alloc (.cells #[.string url] 9)).alloc (.cells #[.slice sa rq.length sc] 22)).alloc (.cells #[.int .i64 0] 3)) [.slice ta l.length tc] 33
  have hB0 : Below w.heap.size w ((((w.alloc (.cells #[.string url] 9)).alloc (.cells #[.slice sa rq.length sc] 22)).alloc (.cells #[.int .i64 0] 3)).alloc (.cells #[.slice ta l.length tc] 33)) := ((((Below.refl _ w).alloc (Nat.le_refl _) _).alloc (by simp) _).alloc (by simp; omega) _).alloc (by simp; omega) _
  simp only [World.size_alloc] at U0 Q0 R0 I0 ⊢
  obtain ⟨W0, hW0⟩ : ∃ W0 : World, (((w.alloc (.cells #[.string url] 9)).alloc (.cells #[.slice sa rq.length sc] 22)).alloc (.cells #[.int .i64 0] 3)).alloc (.cells #[.slice ta l.length tc] 33) = W0 := ⟨_, rfl⟩
  have hsz : W0.heap.size = w.heap.size + 1 + 1 + 1 + 1 := by rw [← hW0]; simp
  obtain ⟨C, hC⟩ : ∃ C, w.heap.size = C := ⟨_, rfl⟩
  have U0 : AtL W0 C [.string url] := by rw [← hW0, ← hC]; exact U0
  have Q0 : AtL W0 (C + 1) [.slice sa rq.length sc] := by rw [← hW0, ← hC]; exact Q0
  have R0 : AtL W0 (C + 1 + 1) [.int .i64 0] := by rw [← hW0, ← hC]; exact R0
  have I0 : AtL W0 (C + 1 + 1 + 1) [.slice ta l.length tc] := by rw [← hW0, ← hC]; exact I0
  rw [hW0] at hB0
  rw [hC] at hB0 hsz
  rw [hW0, hC]
  have hv0 := hv.below hB0 (Nat.le_of_eq hC)
  have hq0 := hq.below hB0 (Nat.le_of_eq hC)
  have HRD0 := Lib.hid (fun x hx => ((HRD.out x hx).1.below hB0 (Nat.le_of_eq hC)))
  clear hW0
  refine wpIn_rangeFunc_ownH hro h1 (gf := 92) (lb := #[.pointer (some ⟨C + 1 + 1 + 1, 0, none⟩)]) rfl h92 (enters_of Tryz.func92 (by kernel_rfl) rfl)
    (bw_stops F (n - 1) h92 hro (by omega) l _ (C + 1 + 1 + 1) W0.heap.size hl W0 (I0.c 0 rfl) I0.lt (Nat.le_refl _) (fun w2 h => hv0.below h (Nat.le_refl _)) (fun b off m c e h0 => by
      rcases hv0 with ⟨h2, _⟩ | ⟨_, b2, off2, cap, h3, _, _, h4, _⟩
      · exact absurd h2 h0
      · rw [h3] at e
        injection e with e1 _ _
        injection e1 with e1
        injection e1 with e1
        omega)) belowK_t (belowK_b (Nat.le_refl _)) (Below.refl _ _) (fun _ => rfl)
    (fun pre W => (∀ x ∈ pre, bB l url rq x = false) ∧ Below W0.heap.size W0 W)
    (fun c pre W => (c = .ret ∧ ∃ ini last, pre = ini ++ [last] ∧ (∀ x ∈ ini, bB l url rq x = false) ∧ bB l url rq last = true ∧ W.cell? ⟨C + 1 + 1, 0, none⟩ = some (.int .i64 ((last.val : Nat) : Int))) ∧ Below C w W)
    (OwnFrom.and (ownFrom_pure _ _) (ownFrom_below (Nat.le_refl _) (Nat.le_refl _)))
    (fun c => OwnFrom.and (Own.from (fun s A B row hs hg hr => by obtain ⟨hc, ini, last, e1, e2, e3, e4⟩ := hs; exact ⟨hc, ini, last, e1, e2, e3, cell_kept e4 hg hr⟩) _) (ownFrom_below (Nat.le_of_eq hC.symm) (by omega)))
    ⟨fun x hx => (by cases hx), Below.refl _ _⟩
    (fun x a' W => ∃ Bx, W0.heap.size ≤ Bx ∧ AtL W Bx (eeC l[x]) ∧ a' = { tmps := #[.pointer (some ⟨jb, 0, none⟩), .string url, .slice sa rq.length sc, undef, .pointer (some ⟨C, 0, none⟩), .pointer (some ⟨C + 1, 0, none⟩), .pointer (some ⟨C + 1 + 1, 0, none⟩), .int .i64 ((x.val : Nat) : Int), .pointer (some ⟨Bx, 0, none⟩), .pointer (some ⟨jb, 0, none⟩), .pointer (some ⟨jb, 0, none⟩), .pointer (some ⟨jb, 0, none⟩), .slice ta l.length tc, .func (.func 92) #[] #[.pointer (some ⟨C + 1 + 1 + 1, 0, none⟩)], .int .i64 ((x.val : Nat) : Int), eeA l[x], undef, undef, undef, undef, undef], defers := [] })
    (fun x a' => Own.from (fun _ A B row hs hg hr => by obtain ⟨Bx, h1, h2, h3⟩ := hs; exact ⟨Bx, h1, h2.kept (by simp) hg hr, h3⟩) _) ?assign ?body ?done ?stop
  case assign =>
    intro lp pre x W K hi hK
    obtain ⟨⟨a1, n1, k1, e1⟩, a2, n2, k2, e2⟩ := (HRD0.out l[x] (List.getElem_mem x.isLt)).shp
    obtain ⟨y, hy⟩ : ∃ y, l[x] = y := ⟨_, rfl⟩
    have hK2 : K { tmps := #[.pointer (some ⟨jb, 0, none⟩), .string url, .slice sa rq.length sc, undef, .pointer (some ⟨C, 0, none⟩), .pointer (some ⟨C + 1, 0, none⟩), .pointer (some ⟨C + 1 + 1, 0, none⟩), .int .i64 ((x.val : Nat) : Int), .pointer (some ⟨W.heap.size, 0, none⟩), .pointer (some ⟨jb, 0, none⟩), .pointer (some ⟨jb, 0, none⟩), .pointer (some ⟨jb, 0, none⟩), .slice ta l.length tc, .func (.func 92) #[] #[.pointer (some ⟨C + 1 + 1 + 1, 0, none⟩)], .int .i64 ((x.val : Nat) : Int), eeA l[x], undef, undef, undef, undef, undef], defers := [] } (W.alloc (.cells (eeC l[x]).toArray 40)) :=
      hK _ _ ((KeepsOthers.alloc _ _).from _) ((Below.refl _ W).alloc hi.2.size _) ⟨hi.1, hi.2.alloc hi.2.size _⟩ ⟨W.heap.size, hi.2.size, AtL.new W (eeC l[x]) _, rfl⟩
    simp only [] at hK2 ⊢
    rw [hy] at hK2 e1 e2
    have hk2 := Lib.hid hK2
    clear hK2 hK hi
    obtain ⟨⟨u, vv, st, hh, bo, ti⟩, ye⟩ := y
    have e1 : vv = .slice a1 n1 k1 := e1
    have e2 : hh = .slice a2 n2 k2 := e2
    subst e1 e2
    show (_ : Code).wpIn _ _ _ _ { tmps := (#[14, 15].zip #[.int .i64 ((x.val : Nat) : Int), eeA l[x]]).foldl _ _, defers := [] } W
    rw [hy]
    gi_wp2
    exact hk2.out
  case body =>
    rintro lp pre x a' W hlt ⟨r, hr⟩ ⟨hp, hB⟩ ⟨Bx, hBx, bX, rfl⟩ hlen
    have hn1 : 1 ≤ n - 1 - 1 := by omega
    have hrx := (HRD0.out l[x] (List.getElem_mem x.isLt)).below hB (Nat.le_refl _)
    have hca := hans lp l[x] url rq _ W hrx (hq0.below hB (Nat.le_refl _)) hz (HRD.out l[x] (List.getElem_mem x.isLt)).2
    have hbx : ansB l[x].2 url rq = bB l url rq x := rfl
    rw [hbx] at hca
    obtain ⟨⟨a1, n1, k1, e1⟩, a2, n2, k2, e2⟩ := hrx.shp
    obtain ⟨y, hy⟩ : ∃ y, l[x] = y := ⟨_, rfl⟩
    rw [hy] at hca bX e1 e2 ⊢
    have UW := U0.next hB
    have QW := Q0.next hB
    have uc := UW.c 0 rfl
    have qc := QW.c 0 rfl
    have ul := UW.lt
    have ql := QW.lt
    have xl := bX.lt
    have hBz := hB.size
    have HP := Lib.hid hp
    clear hy hbx hrx hr hp
    obtain ⟨⟨u, vv, st, hh, bo, ti⟩, ye⟩ := y
    have e1 : vv = .slice a1 n1 k1 := e1
    have e2 : hh = .slice a2 n2 k2 := e2
    subst e1 e2
    have z0 := bX.c 0 rfl; have z1 := bX.c 1 rfl; have z2 := bX.c 2 rfl; have z3 := bX.c 3 rfl; have z4 := bX.c 4 rfl; have z5 := bX.c 5 rfl
    cases hb : bB l url rq x with
    | true =>
      rw [hb] at hca
      have HB := Lib.hid hb
      have HCA := Lib.hid hca
      clear hb hca
      gi_wp2_with (gi_at_call 60; refine HCA.out.mono ?_; rintro e w2 ⟨rfl, hb2⟩; have hBA := hB.trans (hb2.mono hBz); have RW := R0.next hBA; have rc := RW.c 0 rfl; have rf := RW.f 0 rfl; have rl := RW.lt)
      exact ⟨(keeps_of_below hb2 _).trans ((KeepsOthers.setCell _ _ _).from _), ⟨rfl, pre, x, rfl, HP.out, HB.out, World.cell?_setCell_same' _ _ _ (by rw [rc]; rfl)⟩, (hB0.trans (hBA.mono (by omega))).setCell (p := ⟨C + 1 + 1, 0, none⟩) (by show C ≤ C + 1 + 1; omega) _⟩
    | false =>
      rw [hb] at hca
      have HB := Lib.hid hb
      have HCA := Lib.hid hca
      clear hb hca
      gi_wp2_with (gi_at_call 60; refine HCA.out.mono ?_; rintro e w2 ⟨rfl, hb2⟩)
      exact ⟨keeps_of_below hb2 _, hb2.mono hBz, fun z hz => (List.mem_append.1 hz).elim (HP.out z) (fun e => by obtain rfl := List.mem_singleton.1 e; exact HB.out), hB.trans (hb2.mono hBz)⟩
  case done =>
    rintro D ys W hD hS ⟨hp, hB⟩ hK
    obtain rfl : R = -1 := HR.out.none (fun j hj => by
      have hm : j ∈ ys.map Fin.val := by rw [hS]; exact bk_mem l.length l.length j hj (by omega)
      obtain ⟨x, hx, rfl⟩ := List.mem_map.1 hm
      exact hp x hx)
    have RW := R0.next hB
    have rc := RW.c 0 rfl
    have rf := RW.f 0 rfl
    have rl := RW.lt
    have HP := Lib.hid hp
    have HS := Lib.hid hS
    clear hp hS
    gi_wp2
    have hK' := (KeepsOthers.setCell W ⟨C + 1 + 1, 0, none⟩ (.int .i64 (-1))).same D _ hK rfl
    refine ⟨by simp, .inl ⟨_, _, rfl, run_takeDeferred hK', ?_⟩⟩
    have hc5 := cell_kept (World.cell?_setCell_same' W ⟨C + 1 + 1, 0, none⟩ (.int .i64 (-1)) (by rw [rc]; rfl)) (grownBy_putObj' _ D (.deferred none)) (fun r e => by cases e; exact ⟨_, hK', rfl⟩)
    have hfin := ((hB0.trans (hB.mono (by omega : C ≤ W0.heap.size))).setCell (p := ⟨C + 1 + 1, 0, none⟩) (by show C ≤ C + 1 + 1; omega) (.int .i64 (-1))).trans (belowK_b (w := w) (Nat.le_of_eq hC.symm) _ D _ (.deferred none) (by omega) hK' rfl rfl)
    refine ⟨.int .i64 (-1), ?_, rfl, by rw [hC]; exact hfin⟩
    simp [results, Tryz.f55, go_sem, hc5]
  case stop =>
    rintro D c pre W hD ⟨k, hk, hpk⟩ ⟨⟨rfl, ini, last, e1, e2, e3, hcr⟩, hB⟩ hK
    obtain rfl : R = ((last.val : Nat) : Int) := HR.out.some last.val last.isLt e3 (fun j hj hlt => by
      obtain ⟨h1, h2⟩ := bk_split l.length k ini last (by rw [← e1]; exact hpk)
      have hm : j ∈ ini.map Fin.val := by rw [h1]; exact bk_mem l.length (k - 1) j hj (by omega)
      obtain ⟨x, hx, rfl⟩ := List.mem_map.1 hm
      exact e2 x hx)
    clear e1 e2 e3 hpk
    gi_wp2
    refine ⟨by simp, .inl ⟨_, _, rfl, run_takeDeferred hK, ?_⟩⟩
    have hc5 := cell_kept hcr (grownBy_putObj' _ D (.deferred none)) (fun r e => by cases e; exact ⟨_, hK, rfl⟩)
    have hfin := hB.trans (belowK_b (w := w) (Nat.le_of_eq hC.symm) W D _ (.deferred none) (by omega) hK rfl rfl)
    refine ⟨.int .i64 ((last.val : Nat) : Int), ?_, rfl, by rw [hC]; exact hfin⟩
    simp [results, Tryz.f55, go_sem, hc5]
/-- find -/
theorem find_is (jb : Nat) (v : Value) (l : List Ee) (w : World) (hA : AtL w jb [v]) (hv : SlK eeC 6 w v l) (hrd : ∀ x ∈ l, Rd w x.1 x.2 ∧ HdSz x.2.va) (hl : l.length ≤ 1000) (url : ByteArray) (rq : List Hd) (vr : Value) (hq : SlK hdC 2 w vr rq) (hz : HdSz rq) (R : Int) (hR : LastAt (fun x => ansB x.2 url rq) l R) :
    Calls Tryz.prog 55 #[.pointer (some ⟨jb, 0, none⟩), .string url, vr] w fun e w' => e = .returned (.int .i64 R) ∧ Below w.heap.size w w' :=
  callsIn_wide.1 (find_in Fence.wide 5 trivial trivial trivial trivial rfl (by omega) (fun l x url rq vr W h1 h2 h3 h4 => CallsIn.inRound l (callsIn_wide.2 (ans_is x url rq vr W h1 h2 h3 h4 _ rfl))) jb v l w hA hv hrd hl url rq vr hq hz R hR)
end Go.Proofs.YtkobhknggamejaaGreatDoor
