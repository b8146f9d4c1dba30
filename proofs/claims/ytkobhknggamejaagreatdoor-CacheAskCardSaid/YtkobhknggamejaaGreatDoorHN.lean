/- Cache: a cache in memory; slices.Delete of one entry; move. -/
import Derived.Test.YtkobhknggamejaaGreatDoorHM
namespace Go.Proofs.YtkobhknggamejaaGreatDoor
set_option linter.unusedVariables false
set_option linter.unusedSimpArgs false
open Go.RowKit

theorem slE : SlTy Tryz.prog 33 40 6 96 := .mk' (z := eeA ee0) Tryz.underlying33 (by kernel_rfl) rfl (by decide)
/-- a row lies where another lay, or behind all that was there -/
def RowTo (v v' : Value) (n : Nat) : Prop := ∀ g, v'.ownBlock = some g → v.ownBlock = some g ∨ n ≤ g
theorem RowTo.refl (v : Value) (n : Nat) : RowTo v v n := fun _ h => .inl h
theorem rowto_k {v : Value} {K g : Nat} (h : v.ownBlock = some g ∨ K ≤ g) (n cap : Nat) : RowTo v (.slice (some ⟨g, 0, none⟩) n cap) K := fun g' e => by
  simp only [Value.ownBlock, Option.some.injEq] at e
  subst e; exact h
/-- a slice of headers that does not lie in a block, nor in a row -/
def FarV (hs : List Hd) (u : Value) (jb : Nat) (o : Option Nat) : Prop := hs ≠ [] → ∀ b off n c, u = .slice (some ⟨b, off, none⟩) n c → b ≠ jb ∧ o ≠ some b
theorem slk_row {hs : List Hd} {u : Value} {n jb : Nat} {o : Option Nat} {w w' : World} (h : SlK hdC 2 w u hs) (hr : RowBut n jb o w w') (hn : w.heap.size ≤ n) (hf : FarV hs u jb o) : SlK hdC 2 w' u hs := by
  rcases h with h | ⟨h0, b, off, cap, hv, e2, e3, h4, h5⟩
  · exact .inl h
  · obtain ⟨f1, f2⟩ := hf h0 b off _ _ hv
    exact .inr ⟨h0, b, off, cap, hv, e2, e3, Nat.lt_of_lt_of_le h4 hr.size, fun i hi j u hu => (World.cell?_of_block (w := w) (a := ⟨b, off + i * 2 + j, none⟩) (hr.block b (by omega) f1 f2)).trans (h5 i hi j u hu)⟩
theorem FarV.to {hs : List Hd} {u v v' : Value} {n jb : Nat} {w : World} (hf : FarV hs u jb v.ownBlock) (h : SlK hdC 2 w u hs) (ht : RowTo v v' n) (hn : w.heap.size ≤ n) : FarV hs u jb v'.ownBlock := by
  intro h0 b off m c hu
  obtain ⟨f1, f2⟩ := hf h0 b off m c hu
  refine ⟨f1, fun e => ?_⟩
  rcases ht b e with h1 | h1
  · exact f2 h1
  · rcases h with ⟨h2, _⟩ | ⟨_, b2, off2, cap, hv, _, _, h4, _⟩
    · exact h0 h2
    · rw [hv] at hu
      injection hu with e1 _ _
      injection e1 with e1
      injection e1 with e1
      omega
structure FarE (x : Ee) (jb : Nat) (o : Option Nat) : Prop where
  va : FarV x.2.va x.1.vv jb o
  hd : FarV x.2.hd x.1.hv jb o
theorem Rd.row {x : Ee} {n jb : Nat} {o : Option Nat} {w w' : World} (h : Rd w x.1 x.2) (hr : RowBut n jb o w w') (hn : w.heap.size ≤ n) (hf : FarE x jb o) : Rd w' x.1 x.2 :=
  ⟨h.u, h.st, h.bo, h.ti, slk_row h.va hr hn hf.va, slk_row h.hd hr hn hf.hd⟩
theorem FarE.to {x : Ee} {v v' : Value} {n jb : Nat} {w : World} (hf : FarE x jb v.ownBlock) (h : Rd w x.1 x.2) (ht : RowTo v v' n) (hn : w.heap.size ≤ n) : FarE x jb v'.ownBlock := ⟨hf.va.to h.va ht hn, hf.hd.to h.hd ht hn⟩
/-- a cache: a block with the slice of its entries, an owned row, and what the entries read as -/
structure CaIn (w : World) (jb B : Nat) (v : Value) (l : List Ee) : Prop where
  at_ : AtL w jb [v]
  own : w.ownsRow B 40 6 v l.length (cellsK eeC l)
  ne : v.ownBlock ≠ some jb
  le : B ≤ w.heap.size
  rd : ∀ x ∈ l, Rd w x.1 x.2
  far : ∀ x ∈ l, FarE x jb v.ownBlock
theorem CaIn.reads {w : World} {jb B : Nat} {v : Value} {l : List Ee} (h : CaIn w jb B v l) : SlK eeC 6 w v l := SlK.of_own eelen h.own
theorem CaIn.below {w w' : World} {jb B n : Nat} {v : Value} {l : List Ee} (h : CaIn w jb B v l) (hb : Below n w w') (hn : w.heap.size ≤ n) : CaIn w' jb B v l :=
  ⟨h.at_.below hb (Nat.lt_of_lt_of_le h.at_.1 hn), own_below h.own hb hn, h.ne, Nat.le_trans h.le hb.size, fun x hx => (h.rd x hx).below hb hn, h.far⟩
/-- what a cache has become, and what stays beside it -/
def CaTo (w : World) (jb B : Nat) (v : Value) (l' : List Ee) (w' : World) : Prop := (∃ v', CaIn w' jb B v' l' ∧ RowTo v v' w.heap.size) ∧ RowBut w.heap.size jb v.ownBlock w w'
theorem CaTo.refl {w : World} {jb B : Nat} {v : Value} {l : List Ee} (h : CaIn w jb B v l) : CaTo w jb B v l w := ⟨⟨v, h, RowTo.refl _ _⟩, RowBut.refl _ _ _ _⟩
theorem CaTo.out {w w' : World} {jb B : Nat} {v : Value} {l' : List Ee} (h : CaTo w jb B v l' w') : ∃ a c, CaIn w' jb B (.slice a l'.length c) l' ∧ RowTo v (.slice a l'.length c) w.heap.size ∧ RowBut w.heap.size jb v.ownBlock w w' := by
  obtain ⟨⟨v', h1, h2⟩, h3⟩ := h
  obtain ⟨a, c, rfl, _⟩ := own_reads h1.own
  exact ⟨a, c, h1, h2, h3⟩
theorem CaTo.size {w w' : World} {jb B : Nat} {v : Value} {l' : List Ee} (h : CaTo w jb B v l' w') : w.heap.size ≤ w'.heap.size := h.2.size
theorem CaTo.below {w w' w2 : World} {jb B : Nat} {v : Value} {l' : List Ee} (h : CaTo w jb B v l' w') (hb : Below w'.heap.size w' w2) : CaTo w jb B v l' w2 := by
  obtain ⟨⟨v', h1, h2⟩, h3⟩ := h
  exact ⟨⟨v', h1.below hb (Nat.le_refl _), h2⟩, h3.below hb h3.size⟩
theorem CaTo.pre {w w' w2 : World} {jb B : Nat} {v : Value} {l' : List Ee} (hb : Below w.heap.size w w') (h : CaTo w' jb B v l' w2) : CaTo w jb B v l' w2 := by
  obtain ⟨⟨v', h1, h2⟩, h3⟩ := h
  refine ⟨⟨v', h1, fun g e => (h2 g e).imp id (fun h => Nat.le_trans hb.size h)⟩, ?_⟩
  exact ((RowBut.refl w.heap.size jb v.ownBlock w).below hb (Nat.le_refl _)).trans (h3.mono hb.size)
theorem CaTo.trans {w w' w2 : World} {jb B : Nat} {v v' : Value} {l l2 : List Ee} (hv : RowTo v v' w.heap.size) (hr : RowBut w.heap.size jb v.ownBlock w w') (h : CaTo w' jb B v' l2 w2) : CaTo w jb B v l2 w2 := by
  obtain ⟨⟨v2, h1, h2⟩, h3⟩ := h
  refine ⟨⟨v2, h1, fun g e => ?_⟩, hr.trans ⟨h3.os, h3.tape, h3.output, h3.size, fun k hk hj ho => h3.block k (Nat.lt_of_lt_of_le hk hr.size) hj (fun e => ?_)⟩⟩
  · rcases h2 g e with h4 | h4
    · exact hv g h4
    · exact .inr (Nat.le_trans hr.size h4)
  · rcases hv k e with h4 | h4
    · exact ho h4
    · omega
/-- the entries behind a change of the cache's own memory -/
theorem CaIn.rds {w w' : World} {jb B : Nat} {v v' : Value} {l : List Ee} (h : CaIn w jb B v l) (hr : RowBut w.heap.size jb v.ownBlock w w') (hv : RowTo v v' w.heap.size) : (∀ x ∈ l, Rd w' x.1 x.2) ∧ (∀ x ∈ l, FarE x jb v'.ownBlock) :=
  ⟨fun x hx => (h.rd x hx).row hr (Nat.le_refl _) (h.far x hx), fun x hx => (h.far x hx).to (h.rd x hx) hv (Nat.le_refl _)⟩
/-- a row whose elements behind the first q are laid behind its first i -/
theorem own_shiftG {W : World} {B E size n cap g q i : Nat} {xs : List Value} (h : W.ownsRow B E size (.slice (some ⟨g, 0, none⟩) n cap) n xs) (hi : i ≤ q) (hq : q ≤ n) :
    ∃ cur, W.heap[g]? = some (.cells cur E (0, 0)) ∧ i * size + (xs.drop (q * size)).length ≤ cur.size ∧ n ≤ cap ∧ (xs.drop (q * size)).length = (n - q) * size ∧ ∃ ys, (W.setRow g (cur.toList.take (i * size) ++ xs.drop (q * size) ++ cur.toList.drop (i * size + (xs.drop (q * size)).length)).toArray).ownsRow B E size (.slice (some ⟨g, 0, none⟩) n cap) n ys ∧ ys.take ((i + (n - q)) * size) = xs.take (i * size) ++ xs.drop (q * size) := by
  obtain ⟨h1, h2⟩ := h
  rcases h2 with ⟨h2, _⟩ | ⟨g', cap', cur, hv, hg, hh, hc, hcm, hs, ht⟩
  · cases h2
  · injection hv with e1 e2 e3
    injection e1 with e1
    injection e1 with e1
    subst e1 e3
    have hnl : (xs.drop (q * size)).length = (n - q) * size := by rw [List.length_drop, h1, Nat.sub_mul]
    have h3 : i * size + (n - q) * size ≤ n * size := by rw [← Nat.add_mul]; exact Nat.mul_le_mul_right _ (by omega)
    have h4 : n * size ≤ cap * size := Nat.mul_le_mul_right _ hc
    have h5 : i * size ≤ n * size := Nat.mul_le_mul_right _ (by omega)
    have htk : cur.toList.take (i * size) = xs.take (i * size) := by rw [← ht, List.take_take, Nat.min_eq_left h5]
    have hxl : (xs.take (i * size)).length = i * size := by rw [List.length_take, h1, Nat.min_eq_left h5]
    have hlen : (xs.take (i * size) ++ xs.drop (q * size) ++ cur.toList.drop (i * size + (n - q) * size)).length = cap * size := by
      rw [List.length_append, List.length_append, hnl, hxl, List.length_drop, Array.length_toList, hs]; omega
    refine ⟨cur, hh, by rw [hnl, hs]; omega, hc, hnl, _, ⟨?_, .inr ⟨g, cap, _, rfl, hg, setRow_heap W g cur _ E (0, 0) hh, hc, hcm, ?_, rfl⟩⟩, ?_⟩
    · rw [htk, hnl, List.length_take, hlen]; omega
    · rw [htk, hnl, List.size_toArray, hlen]
    · rw [htk, hnl, List.take_take, Nat.min_eq_left (by rw [Nat.add_mul]; omega), List.take_left' (by rw [List.length_append, hxl, hnl, Nat.add_mul])]
/-- append(s[:i], s[q:]...) on a row of its own, as a step of a drawn region -/
theorem step_shiftG {P : Program} {T E size bytes : Nat} (ty : SlTy P T E size bytes) (W : World) {ops : Array Oper} {o : Oper} {a : Act} {K : Act → World → Prop} {Q : Exit → Act → World → Prop} {Ep : Prop}
    (hgd : o.guard = none) (s x : Operand) (ho : o.op = .call { callee := .builtin .append, args := #[s, x], argTypes := #[T, T] })
    (B g n cap i q r : Nat) (xs : List Value) (hown : W.ownsRow B E size (.slice (some ⟨g, 0, none⟩) n cap) n xs) (hi : i ≤ q) (hq : q ≤ n)
    (m c : Nat) (ad : Addr) (hs : a.eval s = .slice (some ⟨g, 0, none⟩) i cap) (hx : a.eval x = .slice (some ad) m c) (hm : n - q = m) (hrr : i + m = r) (had : m = 0 ∨ ad = ⟨g, q * size, none⟩) (h1 : ∀ u ∈ xs, u.oneCell' = true)
    (h : ∀ w' ys, w'.ownsRow B E size (.slice (some ⟨g, 0, none⟩) n cap) n ys → ys.take (r * size) = xs.take (i * size) ++ xs.drop (q * size) → BelowBut W.heap.size g W w' → K (a.put o.dst (.slice (some ⟨g, 0, none⟩) r cap)) w') :
    if Region.wanted o (yielded ops a.tmps) = true then Oper.wp P o a W K Q else Ep := by
  subst hm hrr
  obtain ⟨hu, ⟨ii, z, hii, hz, h2, h3, h4⟩, hp⟩ := ty
  have hw : Region.wanted o (yielded ops a.tmps) = true := by simp [Region.wanted, hgd]
  rw [if_pos hw]
  obtain ⟨cur, hh, hfit, hc, hnl, ys, hy1, hy2⟩ := own_shiftG hown hi hq
  have hcell : ∀ j u, (xs.drop (q * size))[j]? = some u → W.cell? (ad.add j) = some u := fun j u hu => by
    rcases had with h0 | rfl
    · have hj := (List.getElem?_eq_some_iff.1 hu).1
      rw [hnl, h0, Nat.zero_mul] at hj
      omega
    rw [add_none]
    rw [List.getElem?_drop] at hu
    obtain ⟨a2, c2, hv2, _, _, ha2⟩ := own_reads hown
    injection hv2 with e1 _ _
    rcases ha2 with ⟨rfl, _⟩ | ⟨g', rfl, _, _, hcc⟩
    · cases e1
    · injection e1 with e1
      injection e1 with e1
      subst e1
      exact hcc _ _ hu
  have hrun := run_append_room (P := P) W T o.type E ii hu hii g i cap cur hh ad (n - q) c (xs.drop (q * size)) (by rw [h2]; exact hnl) hcell (fun u hu => h1 u (List.mem_of_mem_drop hu)) (by omega) (by rw [h2]; exact hfit)
  rw [h2] at hrun
  have hk := h _ ys hy1 hy2 ((BelowBut.refl W.heap.size g W).setRow _)
  unfold Oper.wp
  simp [execOp, ho, resolve, invoke, builtin, hs, hx, hrun, Result.andThen]
  rw [Oper.upon_value]
  simpa using hk
theorem one6 (x : Ee) (h : eeShp x) : ∀ u ∈ eeC x, u.oneCell' = true := by
  obtain ⟨⟨a1, n1, k1, e1⟩, a2, n2, k2, e2⟩ := h
  intro u hu
  simp [e1, e2] at hu
  rcases hu with rfl | rfl | rfl | rfl | rfl | rfl <;> rfl
theorem one6s (l : List Ee) (h : ∀ x ∈ l, eeShp x) : ∀ u ∈ cellsK eeC l, u.oneCell' = true := by
  intro u hu
  obtain ⟨c, hc, hu⟩ := List.mem_flatMap.1 hu
  exact one6 c (h c hc) u hu
theorem erase_cells (l : List Ee) (i : Nat) (hi : i < l.length) : (cellsK eeC l).take (i * 6) ++ (cellsK eeC l).drop ((i + 1) * 6) = cellsK eeC (l.eraseIdx i) := by
  rw [cellsG_take eelen l i (by omega), cellsG_drop eelen l (i + 1) (by omega), ← cellsK_app, List.eraseIdx_eq_take_drop_succ]
set_option maxRecDepth 20000 in
set_option maxHeartbeats 4000000 in
theorem del_at (l : List Ee) (g n cap i r : Nat) (w : World) (B : Nat) (hsh : ∀ x ∈ l, eeShp x) (hln : l.length = n) (hown : w.ownsRow B 40 6 (.slice (some ⟨g, 0, none⟩) n cap) n (cellsK eeC l)) (hi : i < n) (hr : n = r + 1) (hn : n ≤ 1000) :
    Calls Tryz.prog 77 #[.slice (some ⟨g, 0, none⟩) n cap, .int .i64 i, .int .i64 ((i : Int) + 1)] w fun e w' => e = .returned (.slice (some ⟨g, 0, none⟩) r cap) ∧ w'.ownsRow B 40 6 (.slice (some ⟨g, 0, none⟩) r cap) r (cellsK eeC (l.eraseIdx i)) ∧ BelowBut w.heap.size g w w' := by
  have hcap : n ≤ cap := by
    obtain ⟨a2, c2, hv2, hc2, _, _⟩ := own_reads hown
    injection hv2 with _ _ e3
    omega
  have hec := erase_cells l i (by omega)
  have hone := Lib.hid (one6s l hsh)
  have hq1 : ((i : Int) == (i : Int) + 1) = false := beq_eq_false_iff_ne.2 (by omega)
  have hq0 : (0 : Int) ≤ (i : Int) := by omega
  have hq2 : (i : Int) + 1 ≤ (n : Int) := by omega
  have hq3 : (n : Int) ≤ (cap : Int) := by omega
  have hq4 : (i : Int) + 1 ≤ (cap : Int) := by omega
  have hq6 : ¬ n = i := by omega
  have hq7 : ¬ cap = i := by omega
  have hq8 : (i : Int) ≤ (cap : Int) := by omega
  have hrn : (r : Int) ≤ (n : Int) := by omega
  have hrc : (r : Int) ≤ (cap : Int) := by omega
  have hrc' : ¬ cap = r := by omega
  have hnr1 : n - r = 1 := by omega
  have hr1 : r + 1 = n := by omega
  have HR := Lib.hid hr
  have HR1 := Lib.hid hr1
  have HL := Lib.hid hln
  have ho1 := Lib.hid hown
  have HEC := Lib.hid hec
  have hz : ((i : Int) + 1).toNat = i + 1 := by omega
  have hy1 : (i : Int) ≤ (i : Int) + 1 := by omega
  have hy2 : (0 : Int) ≤ (i : Int) + 1 := by omega
  clear hown hr hln hr1 hec
  by_cases hcq : cap = i + 1
  · subst hcq
    go_enter Tryz.func77, Tryz.ntmps77
    go_wp2_with fail
    go_region_law (refine step_shiftG slE w.drew (by rfl) (.tmp 22) (.tmp 25) (by rfl) B g n (i + 1) i (i + 1) r (cellsK eeC l) ho1.out.drew (by omega) (by omega) _ _ _ (by rfl) (by rfl) (by have := HR.out; omega) (by have := HR.out; omega) (by first | (right; rfl) | (left; have := HR.out; omega)) hone.out ?_; intro w5 ys hown5 hys hbb5)
    all_goals
      have hce : ∀ j, j < 1 * 6 → (w5.cell? ⟨g, r * 6 + j, none⟩).isSome = true := fun j hj => by
        obtain ⟨a2, c2, hv2, _, _, ha2⟩ := own_reads hown5
        injection hv2 with e1 _ _
        rcases ha2 with ⟨rfl, _⟩ | ⟨g', rfl, _, _, hcc⟩
        · cases e1
        · injection e1 with e1
          injection e1 with e1
          subst e1
          have hlt : r * 6 + j < ys.length := by rw [hown5.1]; have := HR.out; omega
          rw [hcc _ _ (List.getElem?_eq_getElem hlt)]; rfl
      have hfr : ∀ j, j < 1 * 6 → w5.frozen? ⟨g, r * 6 + j, none⟩ = false := fun j _ => own_free hown5 _
      obtain ⟨zs, hzl, hcl⟩ := run_clearK (P := Tryz.prog) w5 33 40 0 (eeA ee0) 6 Tryz.underlying33 (zero_run (by kernel_rfl)) rfl eezone g (r * 6) 1 (i + 1 - r) (by decide) (by decide) hce hfr
      obtain ⟨xs', hx1, hx2⟩ := own_setCells zs (r * 6) w5 ys hown5 (by rw [hzl]; have := HR.out; omega)
      have hcut := own_cut hx1 r (by have := HR.out; omega)
      rw [hx2, hys, HEC.out] at hcut
      have hbz := BelowBut.setCells zs (r * 6) w5 hbb5
      clear hx1 hx2 hfr hce hzl hys hown5 hbb5
      go_wp2_with fail
      go_ret
      exact ⟨rfl, hcut, ⟨hbz.os, hbz.tape, hbz.output, hbz.size, hbz.block⟩⟩
  · have hcq' : i + 1 < cap := by omega
    go_enter Tryz.func77, Tryz.ntmps77
    go_wp2_with fail
    go_region_law (refine step_shiftG slE w.drew (by rfl) (.tmp 22) (.tmp 25) (by rfl) B g n cap i (i + 1) r (cellsK eeC l) ho1.out.drew (by omega) (by omega) _ _ _ (by rfl) (by rfl) (by have := HR.out; omega) (by have := HR.out; omega) (by first | (right; rfl) | (left; have := HR.out; omega)) hone.out ?_; intro w5 ys hown5 hys hbb5)
    all_goals
      have hce : ∀ j, j < 1 * 6 → (w5.cell? ⟨g, r * 6 + j, none⟩).isSome = true := fun j hj => by
        obtain ⟨a2, c2, hv2, _, _, ha2⟩ := own_reads hown5
        injection hv2 with e1 _ _
        rcases ha2 with ⟨rfl, _⟩ | ⟨g', rfl, _, _, hcc⟩
        · cases e1
        · injection e1 with e1
          injection e1 with e1
          subst e1
          have hlt : r * 6 + j < ys.length := by rw [hown5.1]; have := HR.out; omega
          rw [hcc _ _ (List.getElem?_eq_getElem hlt)]; rfl
      have hfr : ∀ j, j < 1 * 6 → w5.frozen? ⟨g, r * 6 + j, none⟩ = false := fun j _ => own_free hown5 _
      obtain ⟨zs, hzl, hcl⟩ := run_clearK (P := Tryz.prog) w5 33 40 0 (eeA ee0) 6 Tryz.underlying33 (zero_run (by kernel_rfl)) rfl eezone g (r * 6) 1 (cap - r) (by decide) (by decide) hce hfr
      obtain ⟨xs', hx1, hx2⟩ := own_setCells zs (r * 6) w5 ys hown5 (by rw [hzl]; have := HR.out; omega)
      have hcut := own_cut hx1 r (by have := HR.out; omega)
      rw [hx2, hys, HEC.out] at hcut
      have hbz := BelowBut.setCells zs (r * 6) w5 hbb5
      clear hx1 hx2 hfr hce hzl hys hown5 hbb5
      go_wp2_with fail
      go_ret
      exact ⟨rfl, hcut, ⟨hbz.os, hbz.tape, hbz.output, hbz.size, hbz.block⟩⟩
end Go.Proofs.YtkobhknggamejaaGreatDoor
