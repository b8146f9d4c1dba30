/- Cookies: storing where the jar has the cookie: it is replaced. -/
import Derived.Test.YtgjooigolgdocaaGreatDoorCOA
namespace Go.Proofs.YtgjooigolgdocaaGreatDoor
set_option linter.unusedVariables false
set_option linter.unusedSimpArgs false
open Go.RowKit

theorem own_set {w : World} {b e s n g cap : Nat} {xs : List Value} (h : w.ownsRow b e s (.slice (some ⟨g, 0, none⟩) n cap) n xs) (j : Nat) (u : Value) (hj : j < n * s) :
    (w.setCell ⟨g, j, none⟩ u).ownsRow b e s (.slice (some ⟨g, 0, none⟩) n cap) n (xs.set j u) := by
  obtain ⟨h1, h2⟩ := h
  refine ⟨by rw [List.length_set]; exact h1, .inr ?_⟩
  rcases h2 with ⟨h2, _⟩ | ⟨g', cap', cur, hv, hg, hh, hc, hm, hs, ht⟩
  · cases h2
  · injection hv with e1 e2 e3
    injection e1 with e1
    injection e1 with e1
    subst e1 e3
    refine ⟨g, cap, cur.setIfInBounds j u, rfl, hg, ?_, hc, hm, by simpa using hs, ?_⟩
    · show (w.heap.modify g _)[g]? = _
      rw [Array.getElem?_modify, if_pos rfl, hh]
      rfl
    · rw [Array.toList_setIfInBounds, List.take_set, ht]
theorem cellsK_split (l : List Ck) (k : Nat) (h : k < l.length) : cellsK ckL l = cellsK ckL (l.take k) ++ (ckL l[k] ++ cellsK ckL (l.drop (k + 1))) := by
  have e := List.take_append_drop k l
  rw [List.drop_eq_getElem_cons h] at e
  exact (congrArg (cellsK ckL) e.symm).trans (cellsK_app ckL _ _)
theorem set9_mid (A C : List Value) (n : Nat) (hn : A.length = n) (x0 x1 x2 x3 x4 x5 x6 x7 x8 y0 y1 y2 y3 y4 y5 y6 y7 y8 : Value) :
    ((((((((((A ++ ([x0, x1, x2, x3, x4, x5, x6, x7, x8] ++ C)).set (n + 0) y0).set (n + 1) y1).set (n + 2) y2).set (n + 3) y3).set (n + 4) y4).set (n + 5) y5).set (n + 6) y6).set (n + 7) y7).set (n + 8) y8) = A ++ ([y0, y1, y2, y3, y4, y5, y6, y7, y8] ++ C) := by
  subst hn
  simp [List.set_append]
theorem own_free {w : World} {b e s n g cap : Nat} {xs : List Value} (h : w.ownsRow b e s (.slice (some ⟨g, 0, none⟩) n cap) n xs) (j : Nat) : w.frozen? ⟨g, j, none⟩ = false := by
  rcases h.2 with ⟨h2, _⟩ | ⟨g', cap', cur, hv, hg, hh, hc, hm, hs, ht⟩
  · cases h2
  · injection hv with e1 e2 e3
    injection e1 with e1
    injection e1 with e1
    subst e1
    unfold World.frozen?
    rw [hh]; simp
abbrev put9 (W : World) (g o : Nat) (c : Ck) : World := ((((((((W.setCell ⟨g, o, none⟩ (.string c.n)).setCell ⟨g, o + 1, none⟩ (.string c.v)).setCell ⟨g, o + 2, none⟩ (.string c.d)).setCell ⟨g, o + 3, none⟩ (.string c.p)).setCell ⟨g, o + 4, none⟩ (.bool c.ho)).setCell ⟨g, o + 5, none⟩ (.bool c.se)).setCell ⟨g, o + 6, none⟩ (.bool c.hi)).setCell ⟨g, o + 7, none⟩ (.int .i64 c.ex)).setCell ⟨g, o + 8, none⟩ (.int .i64 c.cr)
theorem own_put9 {w : World} {b e g cap : Nat} {l : List Ck} (h : w.ownsRow b e 9 (.slice (some ⟨g, 0, none⟩) l.length cap) l.length (cellsK ckL l)) (k : Nat) (hk : k < l.length) (c : Ck) :
    (put9 w g (k * 9) c).ownsRow b e 9 (.slice (some ⟨g, 0, none⟩) l.length cap) l.length (cellsK ckL (l.set k c)) := by
  have hb : ∀ j, j < 9 → k * 9 + j < l.length * 9 := fun j hj => by omega
  have h9 := own_set (own_set (own_set (own_set (own_set (own_set (own_set (own_set (own_set h (k * 9 + 0) (.string c.n) (hb 0 (by omega))) (k * 9 + 1) (.string c.v) (hb 1 (by omega))) (k * 9 + 2) (.string c.d) (hb 2 (by omega))) (k * 9 + 3) (.string c.p) (hb 3 (by omega))) (k * 9 + 4) (.bool c.ho) (hb 4 (by omega))) (k * 9 + 5) (.bool c.se) (hb 5 (by omega))) (k * 9 + 6) (.bool c.hi) (hb 6 (by omega))) (k * 9 + 7) (.int .i64 c.ex) (hb 7 (by omega))) (k * 9 + 8) (.int .i64 c.cr) (hb 8 (by omega))
  have hA : (cellsK ckL (l.take k)).length = k * 9 := by rw [cellsK_len ckL_len, List.length_take, Nat.min_eq_left (by omega)]
  have hx := set9_mid (cellsK ckL (l.take k)) (cellsK ckL (l.drop (k + 1))) (k * 9) hA (.string l[k].n) (.string l[k].v) (.string l[k].d) (.string l[k].p) (.bool l[k].ho) (.bool l[k].se) (.bool l[k].hi) (.int .i64 l[k].ex) (.int .i64 l[k].cr) (.string c.n) (.string c.v) (.string c.d) (.string c.p) (.bool c.ho) (.bool c.se) (.bool c.hi) (.int .i64 c.ex) (.int .i64 c.cr)
  have hy : cellsK ckL (l.set k c) = cellsK ckL (l.take k) ++ (ckL c ++ cellsK ckL (l.drop (k + 1))) := by
    rw [cellsK_split (l.set k c) k (by simpa using hk)]
    simp [List.take_set_of_le, List.drop_set_of_lt]
  rw [hy, ← hx, ← cellsK_split l k hk]
  exact h9
end Go.Proofs.YtgjooigolgdocaaGreatDoor
