/- An append to a row that the call owns, with where the new row lies: where the old one lay, or behind all that was there. -/
import Derived.Test.YtjdhaacmlpegoaaGreatDoorK
namespace Go.Proofs.YtjdhaacmlpegoaaGreatDoor
set_option linter.unusedVariables false
set_option linter.unusedSimpArgs false
open Go.RowKit

theorem run_append_where {P : Program} (w : World) (base : Nat) (t ty e : TypeId) (i : TypeInfo) (z : Value) (size bytes : Nat) (ht : P.underlying t = some (.slice e)) (hi : P.info? e = some i) (hz : i.zero = some z)
    (hsize : i.size = size) (hby : i.bytes = bytes) (hzs : z.cells.size = size) (hsz : 0 < size)
    (v : Value) (n : Nat) (xs : List Value) (hown : w.ownsRow base e size v n xs)
    (a : Addr) (m c : Nat) (news : List Value) (hl : news.length = m * size) (hnews : ∀ j u, news[j]? = some u → w.cell? (a.add j) = some u) (h1 : ∀ u ∈ news, u.oneCell' = true)
    (h63 : n + m ≤ maxLen) (hbytes : (n + m) * bytes ≤ 140737488355328) (hbase : base ≤ w.heap.size) (hm : 0 < m) :
    ∃ v' w', (Builtin.append_ #[t, t] ty #[v, .slice (some a) m c]).run P w = .ok v' w' ∧ w'.ownsRow base e size v' (n + m) (xs ++ news) ∧ w.grownBy w' v.ownBlock ∧
      ∃ g, v'.ownBlock = some g ∧ (v.ownBlock = some g ∨ w.heap.size ≤ g) := by
  obtain ⟨v', w', hr, h2, h3, _⟩ := run_append_own (P := P) w base t ty e i z size bytes ht hi hz hsize hby hzs hsz v n xs hown a m c news hl hnews h1 h63 hbytes hbase
  refine ⟨v', w', hr, h2, h3, ?_⟩
  subst hsize hby
  rcases hown.2 with ⟨rfl, rfl⟩ | ⟨g, cap, cur, rfl, hbg, hg, hnc, hcm, hcs, htake⟩
  · have hq := run_append_nil (P := P) w t ty e i z ht hi hz a m c news hl hnews hm (by unfold maxLen at h63; omega) (by simp only [Nat.zero_add] at hbytes; omega)
    rw [hq] at hr
    injection hr with hv _
    subst hv
    exact ⟨_, rfl, .inr (Nat.le_refl _)⟩
  · by_cases hroom : n + m ≤ cap
    · have hq := run_append_room (P := P) w t ty e i ht hi g n cap cur hg a m c news hl hnews h1 hroom (by rw [hl, hcs, ← Nat.add_mul]; exact Nat.mul_le_mul_right _ hroom)
      rw [hq] at hr
      injection hr with hv _
      subst hv
      exact ⟨_, rfl, .inl rfl⟩
    · have hq := run_append_grow (P := P) w t ty e i z ht hi hz ⟨g, 0, none⟩ n cap xs hown.1 (hown.cells (g := g) rfl) a m c news hl hnews (by omega) (by unfold maxLen at h63; omega) (growslice_fits (by omega) hbytes)
      rw [hq] at hr
      injection hr with hv _
      subst hv
      exact ⟨_, rfl, .inr (Nat.le_refl _)⟩

/-- append(s, x..) of elements that were just built in a block of their own -/
theorem app2 {P : Program} {T E size bytes : Nat} (ty : SlTy P T E size bytes) (W0 : World) {ops : Array Oper} {rest : List Oper} {o : Oper} {a : Act} {Q : Exit → Act → World → Prop}
    (hgd : o.guard = none) (s x : Operand) (ho : o.op = .call { callee := .builtin .append, args := #[s, x], argTypes := #[T, T] })
    (B : Nat) (v : Value) (n : Nat) (xs : List Value) (hs : a.eval s = v) (hown : W0.ownsRow B E size v n xs) (news : List Value) (m : Nat)
    (kk : Nat) (hx : a.eval x = .slice (some ⟨kk, 0, none⟩) m m) (hkk : kk = W0.heap.size) (hl : news.length = m * size) (h1 : ∀ u ∈ news, u.oneCell' = true)
    (hm : 0 < m) (hb : (n + m) * bytes ≤ 140737488355328) (hn : n + m ≤ 140737488355328) (hB : B ≤ W0.heap.size)
    (h : ∀ v' w', w'.ownsRow B E size v' (n + m) (xs ++ news) → W0.grownBy w' v.ownBlock → (∃ g, v'.ownBlock = some g ∧ (v.ownBlock = some g ∨ W0.heap.size < g)) → wpList P ops Q rest (a.put o.dst v') w') :
    wpList P ops Q (o :: rest) a (W0.alloc (.cells news.toArray E)) := by
  subst hkk
  obtain ⟨hu, ⟨i, z, hi, hz, h2, h3, h4⟩, hp⟩ := ty
  refine wpList_plain hgd fun K hK => ?_
  obtain ⟨v', w', hr, k2, k3, g, k4, k5⟩ := run_append_where (P := P) (W0.alloc (.cells news.toArray E)) B T o.type E i z size bytes hu hi hz h2 h3 h4 hp v n xs (hown.alloc _) ⟨W0.heap.size, 0, none⟩ m m news hl (cells_new W0 news E) h1
    (by unfold maxLen; omega) hb (by simp; omega) hm
  unfold Oper.wp execOp
  simp only [ho, resolve, invoke, builtin, Sem.run_bind, Sem.run_pure, Result.andThen_ok, List.map_toArray, List.map_cons, List.map_nil, hs, hx, hr]
  exact hK _ _ (h v' w' k2 (grownBy_trans_alloc k3) ⟨g, k4, k5.imp id (by simp; omega)⟩)
end Go.Proofs.YtjdhaacmlpegoaaGreatDoor
