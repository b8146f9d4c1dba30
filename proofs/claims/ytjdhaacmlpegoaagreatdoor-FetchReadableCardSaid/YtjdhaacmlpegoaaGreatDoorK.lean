/- Small laws of memory: an append of freshly built elements to a row that the call owns; what stays beside it. -/
import Derived.WalkKit
import Derived.WalkLawsBesides
import Derived.Lib.OthersKept
import Derived.Maps.AppendAt
namespace Go.Proofs.YtjdhaacmlpegoaaGreatDoor
set_option linter.unusedVariables false
set_option linter.unusedSimpArgs false
open Go.RowKit

/-- a slice type with its element type's cells and bytes -/
structure SlTy (P : Program) (T E : TypeId) (size bytes : Nat) : Prop where
  und : P.underlying T = some (.slice E)
  info : ∃ i z, P.info? E = some i ∧ i.zero = some z ∧ i.size = size ∧ i.bytes = bytes ∧ z.cells.size = size
  pos : 0 < size
theorem SlTy.mk' {P : Program} {T E : TypeId} {size bytes : Nat} {z : Value} (hu : P.underlying T = some (.slice E))
    (h : (P.info? E).map (fun i => (i.zero, i.size, i.bytes)) = some (some z, size, bytes)) (hz : z.cells.size = size) (hp : 0 < size) : SlTy P T E size bytes :=
  let ⟨i, a, b, c, d⟩ := info_parts h
  ⟨hu, ⟨i, z, a, b, c, d, hz⟩, hp⟩

theorem grownBy_trans_alloc {w w' : World} {o : Obj} {row : Option Nat} (h : (w.alloc o).grownBy w' row) : w.grownBy w' row :=
  ⟨h.os, h.tape, h.output, Nat.le_trans (by simp) h.size, fun k hk hne => (h.block k (by simp; omega) hne).trans (Below.heap_alloc w o k hk)⟩

theorem cells_new (w : World) (news : List Value) (t : TypeId) : ∀ j u, news[j]? = some u → (w.alloc (.cells news.toArray t)).cell? ((⟨w.heap.size, 0, none⟩ : Addr).add j) = some u := by
  intro j u h
  have hadd : (⟨w.heap.size, 0, none⟩ : Addr).add j = ⟨w.heap.size, j, none⟩ := by unfold Addr.add; split <;> simp_all
  rw [hadd, cell_of_row _ w.heap.size j news.toArray t (0, 0) (heap_alloc_new w _)]
  simpa using h

/-- append(s, x..) where the elements were just built in a block of their own -/
theorem app {P : Program} {T E size bytes : Nat} (ty : SlTy P T E size bytes) (W0 : World) {ops : Array Oper} {rest : List Oper} {o : Oper} {a : Act} {Q : Exit → Act → World → Prop}
    (hgd : o.guard = none) (s x : Operand) (ho : o.op = .call { callee := .builtin .append, args := #[s, x], argTypes := #[T, T] })
    (B : Nat) (v : Value) (n : Nat) (xs : List Value) (hs : a.eval s = v) (hown : W0.ownsRow B E size v n xs) (news : List Value) (m : Nat)
    (hx : a.eval x = .slice (some ⟨W0.heap.size, 0, none⟩) m m) (hl : news.length = m * size) (h1 : ∀ u ∈ news, u.oneCell' = true)
    (hm : 0 < m) (hb : (n + m) * bytes ≤ 140737488355328) (hn : n + m ≤ 140737488355328) (hB : B ≤ W0.heap.size)
    (h : ∀ v' w', w'.ownsRow B E size v' (n + m) (xs ++ news) → W0.grownBy w' v.ownBlock → wpList P ops Q rest (a.put o.dst v') w') :
    wpList P ops Q (o :: rest) a (W0.alloc (.cells news.toArray E)) := by
  obtain ⟨hu, ⟨i, z, hi, hz, h2, h3, h4⟩, hp⟩ := ty
  exact wpList_append_own _ hgd s x T ho B E i z size bytes hu hi hz h2 h3 h4 hp v n xs hs (hown.alloc _) ⟨W0.heap.size, 0, none⟩ m m news hx hl (cells_new W0 news E) h1
    (by unfold maxLen; omega) hb (by simp; omega) fun v' w' a1 a2 _ => h v' w' a1 (grownBy_trans_alloc a2)

/-- what an append to one row leaves of a row of another element type -/
theorem own_other {w w' : World} {b1 b2 e1 e2 s1 s2 n1 n2 : Nat} {v1 v2 : Value} {xs1 xs2 : List Value} (h1 : w.ownsRow b1 e1 s1 v1 n1 xs1) (h2 : w.ownsRow b2 e2 s2 v2 n2 xs2) (hne : e1 ≠ e2)
    (hg : w.grownBy w' v1.ownBlock) : w'.ownsRow b2 e2 s2 v2 n2 xs2 := by
  refine h2.kept hg ?_
  rcases h2.2 with ⟨rfl, _⟩ | ⟨g2, c2, cur2, rfl, _, hh2, _⟩
  · exact .inl rfl
  · right
    rcases h1.2 with ⟨rfl, _⟩ | ⟨g1, c1, cur1, rfl, _, hh1, _⟩
    · simp [Value.ownBlock]
    · intro e
      simp only [Value.ownBlock, Option.some.injEq] at e
      subst e
      rw [hh1] at hh2
      injection hh2 with hh2
      injection hh2 with _ hh2
      exact hne hh2
/-- what an append leaves of a block below the row's base -/
theorem block_kept {w w' : World} {b e s n : Nat} {v : Value} {xs : List Value} (h : w.ownsRow b e s v n xs) (hg : w.grownBy w' v.ownBlock) {k : Nat} (hk : k < b) (hkw : k < w.heap.size) : w'.heap[k]? = w.heap[k]? := by
  refine hg.block k hkw ?_
  intro e
  have := h.lt k e.symm
  omega
theorem below_own {w w' W : World} {b B e s n : Nat} {v : Value} {xs : List Value} (hb : Below B W w) (h : w.ownsRow b e s v n xs) (hg : w.grownBy w' v.ownBlock) (hBw : B ≤ w.heap.size) (hB : B ≤ b) : Below B W w' :=
  hb.grown hg hBw fun k hk => by have := h.lt k hk; omega
theorem own_mono {w : World} {b b' e s n : Nat} {v : Value} {xs : List Value} (h : w.ownsRow b e s v n xs) (hb : b' ≤ b) : w.ownsRow b' e s v n xs := by
  refine ⟨h.1, ?_⟩
  rcases h.2 with h2 | ⟨g, cap, cur, hv, hg, r⟩
  · exact .inl h2
  · exact .inr ⟨g, cap, cur, hv, by omega, r⟩
/-- a row stays owned where all blocks from its base on and below a size stay -/
theorem own_below {w w' : World} {b B e s n : Nat} {v : Value} {xs : List Value} (h : w.ownsRow b e s v n xs) (hb : Below B w w') (hB : w.heap.size ≤ B) : w'.ownsRow b e s v n xs := by
  refine ⟨h.1, ?_⟩
  rcases h.2 with h2 | ⟨g, cap, cur, hv, hg, hh, r⟩
  · exact .inl h2
  · exact .inr ⟨g, cap, cur, hv, hg, by rw [hb.block g (by have := (Array.getElem?_eq_some_iff.1 hh).1; omega)]; exact hh, r⟩

/-- a slice value that reads as a list of cells -/
def Reads (w : World) (size : Nat) (v : Value) (n : Nat) (xs : List Value) : Prop :=
  xs.length = n * size ∧ ∃ a cap, v = .slice a n cap ∧ n ≤ cap ∧ cap ≤ maxLen ∧ ((a = none ∧ n = 0) ∨ ∃ b off, a = some ⟨b, off, none⟩ ∧ b < w.heap.size ∧ ∀ j u, xs[j]? = some u → w.cell? ⟨b, off + j, none⟩ = some u)
theorem Reads.of_own {w : World} {b e s n : Nat} {v : Value} {xs : List Value} (h : w.ownsRow b e s v n xs) : Reads w s v n xs := by
  refine ⟨h.1, ?_⟩
  rcases h.2 with ⟨rfl, h2⟩ | ⟨g, cap, cur, rfl, hg, hh, hc, hm, hs, ht⟩
  · subst h2; exact ⟨none, 0, rfl, Nat.le_refl _, by simp [maxLen], .inl ⟨rfl, rfl⟩⟩
  · refine ⟨some ⟨g, 0, none⟩, cap, rfl, hc, hm, .inr ⟨g, 0, rfl, (Array.getElem?_eq_some_iff.1 hh).1, fun j u hu => ?_⟩⟩
    have := h.cells (g := g) rfl j u hu
    have hadd : (⟨g, 0, none⟩ : Addr).add j = ⟨g, 0 + j, none⟩ := by unfold Addr.add; split <;> simp_all
    rwa [hadd] at this
theorem Reads.below {w w' : World} {s n B : Nat} {v : Value} {xs : List Value} (h : Reads w s v n xs) (hb : Below B w w') (hB : w.heap.size ≤ B) : Reads w' s v n xs := by
  obtain ⟨h1, a, cap, h2, h3, h3', h4⟩ := h
  refine ⟨h1, a, cap, h2, h3, h3', ?_⟩
  rcases h4 with h4 | ⟨b, off, h5, h6, h7⟩
  · exact .inl h4
  · exact .inr ⟨b, off, h5, Nat.lt_of_lt_of_le h6 hb.size, fun j u hu => by rw [hb.cell (p := ⟨b, off + j, none⟩) (by show b < B; omega)]; exact h7 j u hu⟩

/-- below a block number, but for one block, the world is as it was -/
structure BelowBut (B b : Nat) (w w' : World) : Prop where
  os : w'.os = w.os
  tape : w'.tape = w.tape
  output : w'.output = w.output
  size : w.heap.size ≤ w'.heap.size
  block : ∀ k, k < B → k ≠ b → w'.heap[k]? = w.heap[k]?
theorem BelowBut.refl (B b : Nat) (w : World) : BelowBut B b w w := ⟨rfl, rfl, rfl, Nat.le_refl _, fun _ _ _ => rfl⟩
theorem BelowBut.below {B b B' : Nat} {W w w' : World} (h : BelowBut B b W w) (k : Below B' w w') (hB : B ≤ B') : BelowBut B b W w' :=
  ⟨k.os.trans h.os, k.tape.trans h.tape, k.output.trans h.output, Nat.le_trans h.size k.size, fun i hi hb => (k.block i (by omega)).trans (h.block i hi hb)⟩
theorem BelowBut.alloc {B b : Nat} {W w : World} (h : BelowBut B b W w) (hB : B ≤ w.heap.size) (o : Obj) : BelowBut B b W (w.alloc o) := h.below ((Below.refl _ w).alloc hB o) (Nat.le_refl _)
theorem BelowBut.setCell {B b : Nat} {W w : World} (h : BelowBut B b W w) (p : Addr) (hp : p.block = b ∨ B ≤ p.block) (u : Value) : BelowBut B b W (w.setCell p u) :=
  ⟨h.os, h.tape, h.output, by simp [World.setCell]; exact h.size, fun k hk hb => (Below.heap_setCell w p u k (by omega)).trans (h.block k hk hb)⟩
theorem BelowBut.grown {B b e s n : Nat} {W w w' : World} {v : Value} {xs : List Value} (h : BelowBut B b W w) (ho : w.ownsRow B e s v n xs) (hg : w.grownBy w' v.ownBlock) (hB : B ≤ w.heap.size) : BelowBut B b W w' :=
  h.below (below_own (Below.refl _ w) ho hg hB (Nat.le_refl _)) (Nat.le_refl _)
theorem BelowBut.cell {B b : Nat} {w w' : World} (h : BelowBut B b w w') {p : Addr} (hp : p.block < B) (hb : p.block ≠ b) : w'.cell? p = w.cell? p := World.cell?_of_block (w := w) (h.block p.block hp hb)
theorem BelowBut.to_below {B b B' : Nat} {W w w' : World} (h : BelowBut B b w w') (k : Below B' W w) (hB : B' ≤ B) (hb : B' ≤ b) : Below B' W w' :=
  k.trans ⟨h.os, h.tape, h.output, h.size, fun i hi => h.block i (by omega) (by omega)⟩

/-- the shape of an owned row, and its cells -/
theorem own_reads {w : World} {b e s n : Nat} {v : Value} {xs : List Value} (h : w.ownsRow b e s v n xs) :
    ∃ a cap, v = .slice a n cap ∧ n ≤ cap ∧ cap ≤ maxLen ∧ ((a = none ∧ n = 0) ∨ ∃ g, a = some ⟨g, 0, none⟩ ∧ b ≤ g ∧ g < w.heap.size ∧ ∀ j u, xs[j]? = some u → w.cell? ⟨g, j, none⟩ = some u) := by
  rcases h.2 with ⟨rfl, h2⟩ | ⟨g, cap, cur, rfl, hg, hh, hc, hm, hs, ht⟩
  · subst h2; exact ⟨none, 0, rfl, Nat.le_refl _, by simp [maxLen], .inl ⟨rfl, rfl⟩⟩
  · refine ⟨some ⟨g, 0, none⟩, cap, rfl, hc, hm, .inr ⟨g, rfl, hg, (Array.getElem?_eq_some_iff.1 hh).1, fun j u hu => ?_⟩⟩
    have := h.cells (g := g) rfl j u hu
    have hadd : (⟨g, 0, none⟩ : Addr).add j = ⟨g, j, none⟩ := by unfold Addr.add; split <;> simp_all
    rwa [hadd] at this
end Go.Proofs.YtjdhaacmlpegoaaGreatDoor
