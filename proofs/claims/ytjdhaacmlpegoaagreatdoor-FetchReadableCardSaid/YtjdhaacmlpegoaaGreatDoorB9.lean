import Derived.Test.YtjdhaacmlpegoaaGreatDoorB8
import Derived.BigQuiet
import Derived.Lib.SliceRun
/- Cookies: few, Alike, Same. -/
namespace Go.Proofs.YtjdhaacmlpegoaaGreatDoor
set_option linter.unusedVariables false
set_option linter.unusedSimpArgs false
open Go.RowKit

def lenC (c : Ck) : Nat := c.n.size + c.v.size + c.d.size + c.p.size
def fewB (l : List Ck) (nx : Int) : Bool := (l.all fun c => decide (lenC c ≤ 400)) && decide (l.length ≤ 202) && decide (nx < 1152921504606846976) && decide (nx > -1152921504606846976)
theorem few_fact {l : List Ck} {nx : Int} (h : fewB l nx = true) : (∀ c ∈ l, lenC c ≤ 400) ∧ l.length ≤ 202 ∧ nx < 1152921504606846976 ∧ nx > -1152921504606846976 := by
  simpa [fewB, and_assoc] using h
end Go.Proofs.YtjdhaacmlpegoaaGreatDoor

/- Cookies: few at any lengths. -/
namespace Go.Proofs.YtjdhaacmlpegoaaGreatDoor
set_option linter.unusedVariables false
set_option linter.unusedSimpArgs false
open Go.RowKit

def FewQ (l : List Ck) (nx : Int) (w : World) (x : Ending) (w' : World) : Prop := ∃ R : Bool, x = .returned (.bool R) ∧ (R = true → l.length ≤ 202 ∧ nx < 1152921504606846976 ∧ nx > -1152921504606846976) ∧ Below w.heap.size w w'
end Go.Proofs.YtjdhaacmlpegoaaGreatDoor

/- Cookies: Alike, Same. -/
namespace Go.Proofs.YtjdhaacmlpegoaaGreatDoor
set_option linter.unusedVariables false
set_option linter.unusedSimpArgs false
open Go.RowKit

end Go.Proofs.YtjdhaacmlpegoaaGreatDoor

/- Cookies: clone. -/
namespace Go.Proofs.YtjdhaacmlpegoaaGreatDoor
set_option linter.unusedVariables false
set_option linter.unusedSimpArgs false
open Go.RowKit

theorem own_zero (W0 : World) (E size : Nat) : (W0.alloc (.cells #[] E)).drew.ownsRow W0.heap.size E size (.slice (some ⟨W0.heap.size, 0, none⟩) 0 0) 0 [] := by
  refine ⟨by simp, .inr ⟨W0.heap.size, 0, #[], rfl, Nat.le_refl _, ?_, Nat.le_refl _, by simp, by simp, by simp⟩⟩
  show (W0.heap.push _)[W0.heap.size]? = _
  simp
/-- an append of what lies in memory to an empty slice that has just been built, as a step of a drawn region -/
theorem step_appz {P : Program} {T E size bytes : Nat} (ty : SlTy P T E size bytes) (W0 : World) {ops : Array Oper} {o : Oper} {a : Act} {K : Act → World → Prop} {Q : Exit → Act → World → Prop} {Ep : Prop}
    (hgd : o.guard = none) (s x : Operand) (ho : o.op = .call { callee := .builtin .append, args := #[s, x], argTypes := #[T, T] })
    (hs : a.eval s = .slice (some ⟨W0.heap.size, 0, none⟩) 0 0) (ad : Addr) (m c : Nat) (news : List Value)
    (hx : a.eval x = .slice (some ad) m c) (hl : news.length = m * size) (hc : ∀ j u, news[j]? = some u → W0.cell? (ad.add j) = some u) (hb : ad.block < W0.heap.size) (h1 : ∀ u ∈ news, u.oneCell' = true)
    (hm : 0 < m) (hby : m * bytes ≤ 140737488355328) (hn : m ≤ 140737488355328)
    (h : ∀ g cap w', w'.ownsRow W0.heap.size E size (.slice (some ⟨g, 0, none⟩) m cap) m news → W0.heap.size ≤ g → Below W0.heap.size W0 w' → g < w'.heap.size → K (a.put o.dst (.slice (some ⟨g, 0, none⟩) m cap)) w') :
    if Region.wanted o (yielded ops a.tmps) = true then Oper.wp P o a (W0.alloc (.cells #[] E)).drew K Q else Ep := by
  obtain ⟨hu, ⟨i, z, hi, hz, h2, h3, h4⟩, hp⟩ := ty
  have hb0 : Below W0.heap.size W0 (W0.alloc (.cells #[] E)).drew := ((Below.refl _ W0).alloc (Nat.le_refl _) _).drew
  refine step_append_lies _ hgd s x T ho W0.heap.size E i z size bytes hu hi hz h2 h3 h4 hp _ 0 [] hs (own_zero W0 E size) ad m c news hx hl (fun j u hj => ?_) h1 hm (by unfold maxLen; omega) (by rw [Nat.zero_add]; exact hby) (by simp) (W0.heap.size + 1) (by simp)
    fun g cap w' a1 a2 a3 a4 => ?_
  · have e1 : (ad.add j).block = ad.block := by unfold Addr.add; split <;> rfl
    exact (hb0.cell (p := ad.add j) (by rw [e1]; exact hb)).trans (hc j u hj)
  · rw [Nat.zero_add] at a1 ⊢
    rw [List.nil_append] at a1
    refine h g cap w' a1 ?_ ?_ a4
    · rcases a3 with a3 | a3
      · simp only [Value.ownBlock, Option.some.injEq] at a3; omega
      · omega
    · refine hb0.grown a2 (by simp) fun k hk => ?_
      simp only [Value.ownBlock, Option.some.injEq] at hk
      omega
/-- an append of nothing to an empty slice, as a step of a drawn region -/
theorem step_app00 {P : Program} {T E size bytes : Nat} (ty : SlTy P T E size bytes) (W : World) {ops : Array Oper} {o : Oper} {a : Act} {K : Act → World → Prop} {Q : Exit → Act → World → Prop} {Ep : Prop}
    (hgd : o.guard = none) (s x : Operand) (ho : o.op = .call { callee := .builtin .append, args := #[s, x], argTypes := #[T, T] }) (b : Nat) (ad : Option Addr) (c : Nat)
    (hs : a.eval s = .slice (some ⟨b, 0, none⟩) 0 0) (hx : a.eval x = .slice ad 0 c)
    (h : K (a.put o.dst (.slice (some ⟨b, 0, none⟩) 0 0)) W) :
    if Region.wanted o (yielded ops a.tmps) = true then Oper.wp P o a W K Q else Ep := by
  obtain ⟨hu, ⟨i, z, hi, hz, h2, h3, h4⟩, hp⟩ := ty
  have hw : Region.wanted o (yielded ops a.tmps) = true := by simp [Region.wanted, hgd]
  rw [if_pos hw]
  have hfc : (Builtin.firstCells i.size 0 (.slice ad 0 c)).run P W = .ok #[] W := by
    cases ad with
    | none => rfl
    | some ad => exact run_firstCells_some (P := P) W i.size 0 ad 0 c [] (by simp) (by simp)
  have hst : ∀ p : Addr, (storeCells p []).run P W = .ok () W := fun p => by simp [storeCells]
  have hrun : (Builtin.append_ #[T, T] o.type #[.slice (some ⟨b, 0, none⟩) 0 0, .slice ad 0 c]).run P W = .ok (.slice (some ⟨b, 0, none⟩) 0 0) W := by
    simp [Builtin.append_, run_underlying hu, sizeOf, typeInfo, hi, Builtin.lenOf, hfc, hst]
  unfold Oper.wp
  simp [execOp, ho, resolve, invoke, builtin, hs, hx, hrun, Result.andThen]
  exact h
theorem one9s (l : List Ck) : ∀ u ∈ cellsK ckL l, u.oneCell' = true := by
  intro u hu
  obtain ⟨c, _, hu⟩ := List.mem_flatMap.1 hu
  exact one9 c u hu
theorem cellsK_inv {α : Type} {enc : α → List Value} {k : Nat} (hk : ∀ x, (enc x).length = k) : ∀ (l : List α) (q : Nat) (u : Value), (cellsK enc l)[q]? = some u → ∃ i, ∃ h : i < l.length, ∃ j, q = i * k + j ∧ (enc l[i])[j]? = some u := by
  intro l
  induction l with
  | nil => intro q u h; simp [cellsK] at h
  | cons x l ih =>
    intro q u h
    unfold cellsK at h
    rw [List.flatMap_cons] at h
    by_cases hq : q < (enc x).length
    · rw [List.getElem?_append_left hq] at h
      exact ⟨0, by simp, q, by omega, h⟩
    · rw [List.getElem?_append_right (by omega)] at h
      obtain ⟨i, hi, j, h1, h2⟩ := ih _ _ h
      refine ⟨i + 1, by simpa using hi, j, ?_, by simpa using h2⟩
      rw [hk] at h1 hq
      rw [Nat.add_mul]
      omega
/-- the result of a function that gives a struct of two cells -/
theorem ret2_run {P : Program} {fn : Func} {q T : Nat} (hr : fn.results = #[.cell q T]) (hz : ∀ w, (Go.sizeOf T).run P w = .ok 2 w) (ha : ∀ w, (isAgg T).run P w = .ok true w) (tmps : Array Value) (W : World) (k : Nat) (a b : Value) (h2 : tmps.getD q undef = .pointer (some ⟨k, 0, none⟩)) (hA : AtL W k [a, b]) :
    (results fn tmps).run P W = .ok (.agg #[a, b]) W := by
  have c0 := hA.c 0 rfl
  have c1 := hA.c 1 rfl
  rw [Array.getD_eq_getD_getElem?] at h2
  simp [results, hr, h2, go_sem, hz, ha, c0, c1]
theorem add_none (b off j : Nat) : (⟨b, off, none⟩ : Addr).add j = ⟨b, off + j, none⟩ := by unfold Addr.add; split <;> simp_all
end Go.Proofs.YtjdhaacmlpegoaaGreatDoor

/- Cookies: storing where the jar has the cookie: it is replaced. -/
namespace Go.Proofs.YtjdhaacmlpegoaaGreatDoor
set_option linter.unusedVariables false
set_option linter.unusedSimpArgs false
open Go.RowKit

theorem own_set {w : World} {b e s n g cap : Nat} {xs : List Value} (h : w.ownsRow b e s (.slice (some ⟨g, 0, none⟩) n cap) n xs) (j : Nat) (u : Value) (hj : j < n * s) :
    (w.setCell ⟨g, j, none⟩ u).ownsRow b e s (.slice (some ⟨g, 0, none⟩) n cap) n (xs.set j u) := by
  obtain ⟨h1, h2⟩ := h
  refine ⟨by rw [List.length_set]; exact h1, .inr ?_⟩
  rcases h2 with ⟨h2, _⟩ | ⟨g', cap', cur, hv, hg, hh, hc, hm, hs, ht⟩
  · cases h2
  · injection hv with e1 e2 e3
    injection e1 with e1
    injection e1 with e1
    subst e1 e3
    refine ⟨g, cap, cur.setIfInBounds j u, rfl, hg, ?_, hc, hm, by simpa using hs, ?_⟩
    · show (w.heap.modify g _)[g]? = _
      rw [Array.getElem?_modify, if_pos rfl, hh]
      rfl
    · rw [Array.toList_setIfInBounds, List.take_set, ht]
theorem cellsK_split (l : List Ck) (k : Nat) (h : k < l.length) : cellsK ckL l = cellsK ckL (l.take k) ++ (ckL l[k] ++ cellsK ckL (l.drop (k + 1))) := by
  have e := List.take_append_drop k l
  rw [List.drop_eq_getElem_cons h] at e
  exact (congrArg (cellsK ckL) e.symm).trans (cellsK_app ckL _ _)
theorem set9_mid (A C : List Value) (n : Nat) (hn : A.length = n) (x0 x1 x2 x3 x4 x5 x6 x7 x8 y0 y1 y2 y3 y4 y5 y6 y7 y8 : Value) :
    ((((((((((A ++ ([x0, x1, x2, x3, x4, x5, x6, x7, x8] ++ C)).set (n + 0) y0).set (n + 1) y1).set (n + 2) y2).set (n + 3) y3).set (n + 4) y4).set (n + 5) y5).set (n + 6) y6).set (n + 7) y7).set (n + 8) y8) = A ++ ([y0, y1, y2, y3, y4, y5, y6, y7, y8] ++ C) := by
  subst hn
  simp [List.set_append]
theorem own_free {w : World} {b e s n g cap : Nat} {xs : List Value} (h : w.ownsRow b e s (.slice (some ⟨g, 0, none⟩) n cap) n xs) (j : Nat) : w.frozen? ⟨g, j, none⟩ = false := by
  rcases h.2 with ⟨h2, _⟩ | ⟨g', cap', cur, hv, hg, hh, hc, hm, hs, ht⟩
  · cases h2
  · injection hv with e1 e2 e3
    injection e1 with e1
    injection e1 with e1
    subst e1
    unfold World.frozen?
    rw [hh]; simp
abbrev put9 (W : World) (g o : Nat) (c : Ck) : World := ((((((((W.setCell ⟨g, o, none⟩ (.string c.n)).setCell ⟨g, o + 1, none⟩ (.string c.v)).setCell ⟨g, o + 2, none⟩ (.string c.d)).setCell ⟨g, o + 3, none⟩ (.string c.p)).setCell ⟨g, o + 4, none⟩ (.bool c.ho)).setCell ⟨g, o + 5, none⟩ (.bool c.se)).setCell ⟨g, o + 6, none⟩ (.bool c.hi)).setCell ⟨g, o + 7, none⟩ (.int .i64 c.ex)).setCell ⟨g, o + 8, none⟩ (.int .i64 c.cr)
theorem own_put9 {w : World} {b e g cap : Nat} {l : List Ck} (h : w.ownsRow b e 9 (.slice (some ⟨g, 0, none⟩) l.length cap) l.length (cellsK ckL l)) (k : Nat) (hk : k < l.length) (c : Ck) :
    (put9 w g (k * 9) c).ownsRow b e 9 (.slice (some ⟨g, 0, none⟩) l.length cap) l.length (cellsK ckL (l.set k c)) := by
  have hb : ∀ j, j < 9 → k * 9 + j < l.length * 9 := fun j hj => by omega
  have h9 := own_set (own_set (own_set (own_set (own_set (own_set (own_set (own_set (own_set h (k * 9 + 0) (.string c.n) (hb 0 (by omega))) (k * 9 + 1) (.string c.v) (hb 1 (by omega))) (k * 9 + 2) (.string c.d) (hb 2 (by omega))) (k * 9 + 3) (.string c.p) (hb 3 (by omega))) (k * 9 + 4) (.bool c.ho) (hb 4 (by omega))) (k * 9 + 5) (.bool c.se) (hb 5 (by omega))) (k * 9 + 6) (.bool c.hi) (hb 6 (by omega))) (k * 9 + 7) (.int .i64 c.ex) (hb 7 (by omega))) (k * 9 + 8) (.int .i64 c.cr) (hb 8 (by omega))
  have hA : (cellsK ckL (l.take k)).length = k * 9 := by rw [cellsK_len ckL_len, List.length_take, Nat.min_eq_left (by omega)]
  have hx := set9_mid (cellsK ckL (l.take k)) (cellsK ckL (l.drop (k + 1))) (k * 9) hA (.string l[k].n) (.string l[k].v) (.string l[k].d) (.string l[k].p) (.bool l[k].ho) (.bool l[k].se) (.bool l[k].hi) (.int .i64 l[k].ex) (.int .i64 l[k].cr) (.string c.n) (.string c.v) (.string c.d) (.string c.p) (.bool c.ho) (.bool c.se) (.bool c.hi) (.int .i64 c.ex) (.int .i64 c.cr)
  have hy : cellsK ckL (l.set k c) = cellsK ckL (l.take k) ++ (ckL c ++ cellsK ckL (l.drop (k + 1))) := by
    rw [cellsK_split (l.set k c) k (by simpa using hk)]
    simp [List.take_set_of_le, List.drop_set_of_lt]
  rw [hy, ← hx, ← cellsK_split l k hk]
  exact h9
end Go.Proofs.YtjdhaacmlpegoaaGreatDoor

/- Cookies: storing where the jar has the cookie: a secure one that may not be replaced. -/
namespace Go.Proofs.YtjdhaacmlpegoaaGreatDoor
set_option linter.unusedVariables false
set_option linter.unusedSimpArgs false
open Go.RowKit

end Go.Proofs.YtjdhaacmlpegoaaGreatDoor

/- Cookies: storing where the jar has the cookie: it is replaced. -/
namespace Go.Proofs.YtjdhaacmlpegoaaGreatDoor
set_option linter.unusedVariables false
set_option linter.unusedSimpArgs false
open Go.RowKit

end Go.Proofs.YtjdhaacmlpegoaaGreatDoor

/- Rows of structs: the builtin clear; a row that is cut short. -/
namespace Go.Proofs.YtjdhaacmlpegoaaGreatDoor
set_option linter.unusedVariables false
set_option linter.unusedSimpArgs false
open Go.RowKit

/-- cells written into an owned row behind o: a row again, the same up to o -/
theorem own_setCells {b e s n g cap : Nat} : ∀ (vs : List Value) (o : Nat) (w : World) (xs : List Value), w.ownsRow b e s (.slice (some ⟨g, 0, none⟩) n cap) n xs → o + vs.length ≤ n * s →
    ∃ xs', (w.setCells g o vs).ownsRow b e s (.slice (some ⟨g, 0, none⟩) n cap) n xs' ∧ xs'.take o = xs.take o := by
  intro vs
  induction vs with
  | nil => intro o w xs h _; exact ⟨xs, h, rfl⟩
  | cons v r ih =>
    intro o w xs h ho
    rw [List.length_cons] at ho
    obtain ⟨xs', h1, h2⟩ := ih (o + 1) _ _ (own_set h o v (by omega)) (by omega)
    refine ⟨xs', h1, ?_⟩
    have h3 := congrArg (List.take o) h2
    rw [List.take_take, List.take_take, Nat.min_eq_left (by omega), List.take_set, List.set_eq_of_length_le (by simp; omega)] at h3
    exact h3
/-- an owned row, cut to its first m elements -/
theorem own_cut {w : World} {b e s n g cap : Nat} {xs : List Value} (h : w.ownsRow b e s (.slice (some ⟨g, 0, none⟩) n cap) n xs) (m : Nat) (hm : m ≤ n) :
    w.ownsRow b e s (.slice (some ⟨g, 0, none⟩) m cap) m (xs.take (m * s)) := by
  obtain ⟨h1, h2⟩ := h
  have hms : m * s ≤ n * s := Nat.mul_le_mul_right s hm
  refine ⟨by rw [List.length_take, h1, Nat.min_eq_left hms], .inr ?_⟩
  rcases h2 with ⟨h2, _⟩ | ⟨g', cap', cur, hv, hg, hh, hc, hcm, hs, ht⟩
  · cases h2
  · injection hv with e1 e2 e3
    injection e1 with e1
    injection e1 with e1
    subst e1 e3
    exact ⟨g, cap, cur, rfl, hg, hh, Nat.le_trans hm hc, hcm, hs, by rw [← ht, List.take_take, Nat.min_eq_left hms]⟩
/-- clear on a slice of n > 0 structs -/
theorem run_clearK {P : Program} (w : World) (t e ty : TypeId) (z : Value) (k : Nat) (ht : P.underlying t = some (.slice e)) (hv : ∀ w, (zeroValue e).run P w = .ok z w) (hz : z.cells.size = k) (h1 : ∀ v ∈ z.cells.toList, v.oneCell' = true) (b o n c : Nat) (hn : 0 < n) (hk : 0 < k)
    (hc : ∀ j, j < n * k → (w.cell? ⟨b, o + j, none⟩).isSome = true) (hf : ∀ j, j < n * k → w.frozen? ⟨b, o + j, none⟩ = false) :
    ∃ vs : List Value, vs.length = n * k ∧ (Builtin.clear_ #[t] ty #[.slice (some ⟨b, o, none⟩) n c]).run P w = .ok (.tuple #[]) (w.setCells b o vs) := by
  refine ⟨(Builtin.zeroCells z.cells n).toList, by simp [Builtin.zeroCells, hz], ?_⟩
  have hl : (Builtin.zeroCells z.cells n).toList.length = n * k := by simp [Builtin.zeroCells, hz]
  have hst := run_storeCells_cells (P := P) b o (Builtin.zeroCells z.cells n).toList 0 w (by rw [hl]; simpa using hc) (by rw [hl]; simpa using hf) (by
    intro v hv'
    simp only [Builtin.zeroCells, Array.toList_map, List.mem_map] at hv'
    obtain ⟨i, _, rfl⟩ := hv'
    have hi : i % z.cells.size < z.cells.size := Nat.mod_lt _ (by omega)
    rw [getElem!_pos z.cells _ hi]
    exact h1 _ (by simp))
  simp only [Nat.add_zero] at hst
  obtain ⟨m, rfl⟩ : ∃ m, n = m + 1 := ⟨n - 1, by omega⟩
  simp [Builtin.clear_, run_underlying ht, hv, hst]
end Go.Proofs.YtjdhaacmlpegoaaGreatDoor

/- slices.DeleteFunc on an owned row of cookies, where something is to be deleted. -/
namespace Go.Proofs.YtjdhaacmlpegoaaGreatDoor
set_option linter.unusedVariables false
set_option linter.unusedSimpArgs false
open Go.RowKit

theorem own_row_cells {w : World} {b e g cap : Nat} {l : List Ck} (h : w.ownsRow b e 9 (.slice (some ⟨g, 0, none⟩) l.length cap) l.length (cellsK ckL l)) (h0 : 0 < l.length) : b ≤ g ∧ g < w.heap.size ∧ ∀ i (hi : i < l.length) j u, (ckL l[i])[j]? = some u → w.cell? ⟨g, i * 9 + j, none⟩ = some u := by
  obtain ⟨a, cap', hv, hc, hm, ha⟩ := own_reads h
  injection hv with e1 e2 e3
  rcases ha with ⟨rfl, h1⟩ | ⟨g', rfl, hg, hgw, hcell⟩
  · omega
  · injection e1 with e1
    injection e1 with e1
    subst e1
    exact ⟨hg, hgw, fun i hi j u hu => hcell _ _ (cellsK_get ckL_len l i hi j u hu)⟩
theorem filt_start (p : Ck → Bool) (l : List Ck) (k : Nat) (h : idxI p l = k) : ∃ hk : k < l.length, p l[k] = true ∧ (l.take (k + 1)).filter (fun c => !p c) = l.take k := by
  unfold idxI at h
  by_cases ha : l.any p
  · rw [if_pos ha] at h
    have hk : l.findIdx p = k := by omega
    have hlt : k < l.length := by
      rw [← hk]
      obtain ⟨x, hx, hp⟩ := List.any_eq_true.1 ha
      exact List.findIdx_lt_length_of_exists ⟨x, hx, hp⟩
    have h2 := (List.findIdx_eq hlt).1 hk
    refine ⟨hlt, h2.1, ?_⟩
    rw [List.take_succ_eq_append_getElem hlt, List.filter_append]
    have e1 : (l.take k).filter (fun c => !p c) = l.take k := by
      rw [List.filter_eq_self]
      intro a ha
      obtain ⟨i, hi, rfl⟩ := List.getElem_of_mem ha
      rw [List.length_take] at hi
      rw [List.getElem_take, h2.2 i (by omega)]
      rfl
    rw [e1]
    simp [h2.1]
  · rw [if_neg ha] at h
    omega
theorem zero_run {P : Program} {t : TypeId} {z : Value} (h : (P.info? t).map (fun i => i.zero) = some (some z)) (w : World) : (zeroValue t).run P w = .ok z w := by
  cases hi : P.info? t with
  | none => rw [hi] at h; cases h
  | some i =>
    rw [hi] at h
    have hz : i.zero = some z := by simpa using h
    simp [zeroValue, typeInfo, hi, hz]
theorem cellsK_take (l : List Ck) (i : Nat) (hi : i ≤ l.length) : (cellsK ckL l).take (i * 9) = cellsK ckL (l.take i) := by
  conv => lhs; rw [← List.take_append_drop i l, cellsK_app]
  rw [List.take_left' (by rw [cellsK_len ckL_len, List.length_take, Nat.min_eq_left hi])]
theorem BelowBut.setCells {B b : Nat} {W : World} : ∀ (vs : List Value) (o : Nat) (w : World), BelowBut B b W w → BelowBut B b W (w.setCells b o vs) := by
  intro vs
  induction vs with
  | nil => intro o w h; exact h
  | cons v r ih => intro o w h; exact ih (o + 1) _ (h.setCell ⟨b, o, none⟩ (Or.inl rfl) v)
end Go.Proofs.YtjdhaacmlpegoaaGreatDoor

/- Cookies: slices.Delete of the first cookies of an owned row. -/
namespace Go.Proofs.YtjdhaacmlpegoaaGreatDoor
set_option linter.unusedVariables false
set_option linter.unusedSimpArgs false
open Go.RowKit

theorem BelowBut.setRow {B b : Nat} {W w : World} (h : BelowBut B b W w) (cs : Array Value) : BelowBut B b W (w.setRow b cs) := by
  refine ⟨h.os, h.tape, h.output, by simp [World.setRow]; exact h.size, fun k hk hb => Eq.trans ?_ (h.block k hk hb)⟩
  show (w.heap.modify b _)[k]? = _
  rw [Array.getElem?_modify, if_neg (fun e => hb e.symm)]
/-- a row whose elements behind the first q are laid at its front -/
theorem own_shift {W : World} {B E size n cap g q : Nat} {xs : List Value} (h : W.ownsRow B E size (.slice (some ⟨g, 0, none⟩) n cap) n xs) (hq : q ≤ n) :
    ∃ cur, W.heap[g]? = some (.cells cur E (0, 0)) ∧ 0 * size + (xs.drop (q * size)).length ≤ cur.size ∧ n ≤ cap ∧ (xs.drop (q * size)).length = (n - q) * size ∧ ∃ ys, (W.setRow g (cur.toList.take (0 * size) ++ xs.drop (q * size) ++ cur.toList.drop (0 * size + (xs.drop (q * size)).length)).toArray).ownsRow B E size (.slice (some ⟨g, 0, none⟩) n cap) n ys ∧ ys.take ((n - q) * size) = xs.drop (q * size) := by
  obtain ⟨h1, h2⟩ := h
  rcases h2 with ⟨h2, _⟩ | ⟨g', cap', cur, hv, hg, hh, hc, hcm, hs, ht⟩
  · cases h2
  · injection hv with e1 e2 e3
    injection e1 with e1
    injection e1 with e1
    subst e1 e3
    have hnl : (xs.drop (q * size)).length = (n - q) * size := by rw [List.length_drop, h1, Nat.sub_mul]
    have h3 : (n - q) * size ≤ n * size := Nat.mul_le_mul_right _ (by omega)
    have h4 : n * size ≤ cap * size := Nat.mul_le_mul_right _ hc
    have hnew : (cur.toList.take (0 * size) ++ xs.drop (q * size) ++ cur.toList.drop (0 * size + (xs.drop (q * size)).length)) = xs.drop (q * size) ++ cur.toList.drop ((n - q) * size) := by
      rw [hnl]; simp
    have hlen : (xs.drop (q * size) ++ cur.toList.drop ((n - q) * size)).length = cap * size := by
      rw [List.length_append, hnl, List.length_drop, Array.length_toList, hs]; omega
    refine ⟨cur, hh, by rw [hnl, hs]; omega, hc, hnl, _, ⟨?_, .inr ⟨g, cap, _, rfl, hg, setRow_heap W g cur _ E (0, 0) hh, hc, hcm, ?_, rfl⟩⟩, ?_⟩
    · rw [hnew, List.length_take, hlen]; omega
    · rw [hnew, List.size_toArray, hlen]
    · rw [hnew, List.take_take, Nat.min_eq_left h3, List.take_left' hnl]
/-- append(s[:0], s[q:]...) on a row of its own, as a step of a drawn region -/
theorem step_shift {P : Program} {T E size bytes : Nat} (ty : SlTy P T E size bytes) (W : World) {ops : Array Oper} {o : Oper} {a : Act} {K : Act → World → Prop} {Q : Exit → Act → World → Prop} {Ep : Prop}
    (hgd : o.guard = none) (s x : Operand) (ho : o.op = .call { callee := .builtin .append, args := #[s, x], argTypes := #[T, T] })
    (B g n cap q c : Nat) (xs : List Value) (hown : W.ownsRow B E size (.slice (some ⟨g, 0, none⟩) n cap) n xs) (hq : q ≤ n)
    (hs : a.eval s = .slice (some ⟨g, 0, none⟩) 0 cap) (hx : a.eval x = .slice (some ⟨g, q * size, none⟩) (n - q) c) (h1 : ∀ u ∈ xs, u.oneCell' = true)
    (h : ∀ w' ys, w'.ownsRow B E size (.slice (some ⟨g, 0, none⟩) n cap) n ys → ys.take ((n - q) * size) = xs.drop (q * size) → BelowBut W.heap.size g W w' → K (a.put o.dst (.slice (some ⟨g, 0, none⟩) (n - q) cap)) w') :
    if Region.wanted o (yielded ops a.tmps) = true then Oper.wp P o a W K Q else Ep := by
  obtain ⟨hu, ⟨i, z, hi, hz, h2, h3, h4⟩, hp⟩ := ty
  have hw : Region.wanted o (yielded ops a.tmps) = true := by simp [Region.wanted, hgd]
  rw [if_pos hw]
  obtain ⟨cur, hh, hfit, hc, hnl, ys, hy1, hy2⟩ := own_shift hown hq
  have hcell : ∀ j u, (xs.drop (q * size))[j]? = some u → W.cell? ((⟨g, q * size, none⟩ : Addr).add j) = some u := fun j u hu => by
    rw [add_none]
    rw [List.getElem?_drop] at hu
    obtain ⟨a2, c2, hv2, _, _, ha2⟩ := own_reads hown
    injection hv2 with e1 _ _
    rcases ha2 with ⟨rfl, _⟩ | ⟨g', rfl, _, _, hcc⟩
    · cases e1
    · injection e1 with e1
      injection e1 with e1
      subst e1
      exact hcc _ _ hu
  have hrun := run_append_room (P := P) W T o.type E i hu hi g 0 cap cur hh ⟨g, q * size, none⟩ (n - q) c (xs.drop (q * size)) (by rw [h2]; exact hnl) hcell (fun u hu => h1 u (List.mem_of_mem_drop hu)) (by omega) (by rw [h2]; exact hfit)
  rw [h2, Nat.zero_add] at hrun
  have hk := h _ ys hy1 hy2 ((BelowBut.refl W.heap.size g W).setRow _)
  unfold Oper.wp
  simp [execOp, ho, resolve, invoke, builtin, hs, hx, hrun, Result.andThen]
  rw [Oper.upon_value]
  simpa using hk
theorem cellsK_drop (l : List Ck) (q : Nat) : (cellsK ckL l).drop (q * 9) = cellsK ckL (l.drop q) := by
  by_cases h : q ≤ l.length
  · conv => lhs; rw [← List.take_append_drop q l, cellsK_app]
    rw [List.drop_left' (by rw [cellsK_len ckL_len, List.length_take, Nat.min_eq_left h])]
  · rw [List.drop_eq_nil_of_le (by rw [cellsK_len ckL_len]; omega), List.drop_eq_nil_of_le (by omega)]; rfl
end Go.Proofs.YtjdhaacmlpegoaaGreatDoor
