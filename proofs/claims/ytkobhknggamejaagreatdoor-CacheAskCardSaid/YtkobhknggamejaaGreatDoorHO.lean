/- Cache: the row of a cache's entries beside its block; move. -/
import Derived.Test.YtkobhknggamejaaGreatDoorHN
namespace Go.Proofs.YtkobhknggamejaaGreatDoor
set_option linter.unusedVariables false
set_option linter.unusedSimpArgs false
open Go.RowKit

/-- the row of entries that a cache has, or is to have -/
structure RowIn (w : World) (jb B : Nat) (v : Value) (l : List Ee) : Prop where
  own : w.ownsRow B 40 6 v l.length (cellsK eeC l)
  ne : v.ownBlock ≠ some jb
  le : B ≤ w.heap.size
  rd : ∀ x ∈ l, Rd w x.1 x.2
  far : ∀ x ∈ l, FarE x jb v.ownBlock
theorem CaIn.row {w : World} {jb B : Nat} {v : Value} {l : List Ee} (h : CaIn w jb B v l) : RowIn w jb B v l := ⟨h.own, h.ne, h.le, h.rd, h.far⟩
theorem RowIn.below {w w' : World} {jb B n : Nat} {v : Value} {l : List Ee} (h : RowIn w jb B v l) (hb : Below n w w') (hn : w.heap.size ≤ n) : RowIn w' jb B v l :=
  ⟨own_below h.own hb hn, h.ne, Nat.le_trans h.le hb.size, fun x hx => (h.rd x hx).below hb hn, h.far⟩
theorem RowIn.al {w : World} {jb B : Nat} {v : Value} {l : List Ee} (h : RowIn w jb B v l) (o : Obj) : RowIn (w.alloc o) jb B v l := h.below ((Below.refl _ w).alloc (Nat.le_refl _) o) (Nat.le_refl _)
theorem RowIn.dr {w : World} {jb B : Nat} {v : Value} {l : List Ee} (h : RowIn w jb B v l) : RowIn w.drew jb B v l := h.below (Below.refl _ w).drew (Nat.le_refl _)
/-- fewer entries, in the same place -/
theorem RowIn.less {w w' : World} {jb B : Nat} {v v' : Value} {l l' : List Ee} (h : RowIn w jb B v l) (own' : w'.ownsRow B 40 6 v' l'.length (cellsK eeC l')) (sub : ∀ y ∈ l', y ∈ l) (hb : RowBut w.heap.size jb v.ownBlock w w') (ho : v'.ownBlock = v.ownBlock) : RowIn w' jb B v' l' :=
  ⟨own', by rw [ho]; exact h.ne, Nat.le_trans h.le hb.size, fun x hx => (h.rd x (sub x hx)).row hb (Nat.le_refl _) (h.far x (sub x hx)), fun x hx => by rw [ho]; exact h.far x (sub x hx)⟩
theorem RowBut.of_grown {jb : Nat} {o : Option Nat} {w w' : World} (hg : w.grownBy w' o) : RowBut w.heap.size jb o w w' := (RowBut.refl w.heap.size jb o w).grown hg (Nat.le_refl _)
/-- one entry more -/
theorem RowIn.app {W w5 : World} {jb B g' cap' n : Nat} {v : Value} {l : List Ee} {x : Ee} (h : RowIn W jb B v l) (hx : Rd W x.1 x.2) (hfx : FarE x jb v.ownBlock) (hjb : jb < W.heap.size) (hn : n = l.length + 1)
    (h5 : w5.ownsRow B 40 6 (.slice (some ⟨g', 0, none⟩) n cap') n (cellsK eeC l ++ eeC x)) (hg : W.grownBy w5 v.ownBlock) (hat : v.ownBlock = some g' ∨ g' = W.heap.size) :
    RowIn w5 jb B (.slice (some ⟨g', 0, none⟩) n cap') (l ++ [x]) ∧ RowTo v (.slice (some ⟨g', 0, none⟩) n cap') W.heap.size := by
  have ht : RowTo v (.slice (some ⟨g', 0, none⟩) n cap') W.heap.size := rowto_k (hat.imp id (fun e => by omega)) n cap'
  have hrb := RowBut.of_grown (jb := jb) hg
  refine ⟨⟨own_eq h5 (by rw [hn]; simp) (by rw [cellsK_app]; simp [cellsK]), ?_, Nat.le_trans h.le hg.size, fun y hy => ?_, fun y hy => ?_⟩, ht⟩
  · intro e
    rcases ht jb e with h1 | h1
    · exact h.ne h1
    · omega
  · rcases List.mem_append.1 hy with h1 | h1
    · exact (h.rd y h1).row hrb (Nat.le_refl _) (h.far y h1)
    · obtain rfl := List.mem_singleton.1 h1
      exact hx.row hrb (Nat.le_refl _) hfx
  · rcases List.mem_append.1 hy with h1 | h1
    · exact (h.far y h1).to (h.rd y h1) ht (Nat.le_refl _)
    · obtain rfl := List.mem_singleton.1 h1
      exact hfx.to hx ht (Nat.le_refl _)
theorem slk_far {hs : List Hd} {u : Value} {w : World} {jb : Nat} {o : Option Nat} {x : Value} (h : SlK hdC 2 w u hs) (hf : FarV hs u jb o) : SlK hdC 2 (w.setCell ⟨jb, 0, none⟩ x) u hs :=
  slk_row h ((RowBut.refl w.heap.size jb o w).setCell ⟨jb, 0, none⟩ (Or.inl rfl) x) (Nat.le_refl _) hf
/-- the row is laid in the cache's block -/
theorem RowIn.store {w : World} {jb B : Nat} {u v : Value} {l : List Ee} (h : RowIn w jb B v l) (hA : AtL w jb [u]) : CaIn (w.setCell ⟨jb, 0, none⟩ v) jb B v l := by
  have hrb := (RowBut.refl w.heap.size jb v.ownBlock w).setCell ⟨jb, 0, none⟩ (Or.inl rfl) v
  exact ⟨hA.set 0 v, ownsRow_setCell_other (a := ⟨jb, 0, none⟩) h.own h.ne v, h.ne, by rw [World.size_setCell]; exact h.le, fun x hx => (h.rd x hx).row hrb (Nat.le_refl _) (h.far x hx), h.far⟩
theorem AtL.row {n jb k : Nat} {o : Option Nat} {w w' : World} {vs : List Value} (hA : AtL w k vs) (h : RowBut n jb o w w') (hk : k < n) (h1 : k ≠ jb) (h2 : o ≠ some k) : AtL w' k vs := by
  have hh := h.block k hk h1 h2
  exact ⟨Nat.lt_of_lt_of_le hA.1 h.size, fun j v hv => ⟨(World.cell?_of_block (w := w) hh).trans (hA.c j hv), (World.frozen?_of_block (w := w) hh).trans (hA.f j hv)⟩⟩
/-- an append of what lies in a block, as a step of a drawn region -/
theorem step_appG {P : Program} {T E size bytes : Nat} (ty : SlTy P T E size bytes) (W : World) {ops : Array Oper} {o : Oper} {a : Act} {K : Act → World → Prop} {Q : Exit → Act → World → Prop} {Ep : Prop}
    (hgd : o.guard = none) (s x : Operand) (ho : o.op = .call { callee := .builtin .append, args := #[s, x], argTypes := #[T, T] })
    (B : Nat) (v : Value) (n : Nat) (xs : List Value) (hs : a.eval s = v) (hown : W.ownsRow B E size v n xs) (news : List Value) (m : Nat)
    (kk : Nat) (hx : a.eval x = .slice (some ⟨kk, 0, none⟩) m m) (hA : AtL W kk news) (hl : news.length = m * size) (h1 : ∀ u ∈ news, u.oneCell' = true)
    (hm : 0 < m) (hb : (n + m) * bytes ≤ 140737488355328) (hn : n + m ≤ 140737488355328) (hB : B ≤ W.heap.size)
    (h : ∀ g cap w', w'.ownsRow B E size (.slice (some ⟨g, 0, none⟩) (n + m) cap) (n + m) (xs ++ news) → W.grownBy w' v.ownBlock → (v.ownBlock = some g ∨ g = W.heap.size) → g < w'.heap.size → K (a.put o.dst (.slice (some ⟨g, 0, none⟩) (n + m) cap)) w') :
    if Region.wanted o (yielded ops a.tmps) = true then Oper.wp P o a W K Q else Ep := by
  obtain ⟨hu, ⟨i, z, hi, hz, h2, h3, h4⟩, hp⟩ := ty
  exact step_append_lies _ hgd s x T ho B E i z size bytes hu hi hz h2 h3 h4 hp v n xs hs hown ⟨kk, 0, none⟩ m m news hx hl (fun j u hu => by rw [add_none, Nat.zero_add]; exact hA.c j hu) h1 hm (by unfold maxLen; omega) hb hB W.heap.size rfl h
theorem erase_mem (l : List Ee) (i : Nat) (hi : i < l.length) : ∀ y ∈ l.eraseIdx i ++ [l[i]], y ∈ l := by
  intro y hy
  rcases List.mem_append.1 hy with h | h
  · exact List.mem_of_mem_eraseIdx h
  · obtain rfl := List.mem_singleton.1 h; exact List.getElem_mem hi
/-- what slices.Delete leaves of a row -/
theorem RowIn.del {w w' : World} {jb B g n r cap : Nat} {l l' : List Ee} (h : RowIn w jb B (.slice (some ⟨g, 0, none⟩) n cap) l) (hr : l'.length = r) (own' : w'.ownsRow B 40 6 (.slice (some ⟨g, 0, none⟩) r cap) r (cellsK eeC l')) (sub : ∀ y ∈ l', y ∈ l) (hb : BelowBut w.heap.size g w w') : RowIn w' jb B (.slice (some ⟨g, 0, none⟩) r cap) l' := by
  subst hr
  exact h.less own' sub (hb.toRow jb) rfl
theorem BelowBut.of {n g : Nat} {w w1 w2 : World} (h : Below n w w1) (k : BelowBut w1.heap.size g w1 w2) (hn : n ≤ w1.heap.size) : BelowBut n g w w2 :=
  ⟨k.os.trans h.os, k.tape.trans h.tape, k.output.trans h.output, Nat.le_trans h.size k.size, fun x hx hne => (k.block x (by omega) hne).trans (h.block x hx)⟩
set_option maxRecDepth 20000 in
set_option maxHeartbeats 4000000 in
theorem move_is (jb B : Nat) (v : Value) (l : List Ee) (w : World) (hJ : CaIn w jb B v l) (i : Nat) (hi : i < l.length) (hl : l.length ≤ 1000) (x : Ee) (hx : l[i] = x) :
    Calls Tryz.prog 57 #[.pointer (some ⟨jb, 0, none⟩), .int .i64 i] w fun e w' => e = .returned (.tuple #[]) ∧ CaTo w jb B v (l.eraseIdx i ++ [x]) w' := by
  obtain ⟨a, cap, rfl, hcap, hcm, ha⟩ := own_reads hJ.own
  rcases ha with ⟨_, h0⟩ | ⟨g, rfl, hBg, hgw, hcell⟩
  · omega
  have hmem : ∀ y ∈ l.eraseIdx i ++ [x], y ∈ l := by rw [← hx]; exact erase_mem l i hi
  have hrd := hJ.rd x (hmem x (by simp))
  have hfar := hJ.far x (hmem x (by simp))
  have hshp := hrd.shp
  have hshl : ∀ y ∈ l, eeShp y := fun y hy => (hJ.rd y hy).shp
  obtain ⟨n, hn⟩ : ∃ n, l.length = n := ⟨_, rfl⟩
  obtain ⟨r, hr⟩ : ∃ r, n = r + 1 := ⟨n - 1, by omega⟩
  have hlr : (l.eraseIdx i).length = r := by rw [List.length_eraseIdx, if_pos hi]; omega
  have cc : ∀ j u, (eeC x)[j]? = some u → w.cell? ⟨g, i * 6 + j, none⟩ = some u := fun j u hu => hcell _ _ (cellsK_get eelen l i hi j u (by rw [hx]; exact hu))
  have one := one6 x hshp
  have hgj : g ≠ jb := fun e => hJ.ne (by rw [e]; rfl)
  rw [hn] at hJ hcap hi hl
  have CD := Lib.hid (fun (w : World) (hown : w.ownsRow B 40 6 (.slice (some ⟨g, 0, none⟩) n cap) n (cellsK eeC l)) => del_at l g n cap i r w B hshl hn hown hi hr (by omega))
  have hown : w.ownsRow B 40 6 (.slice (some ⟨g, 0, none⟩) n cap) n (cellsK eeC l) := own_eq hJ.own hn rfl
  obtain ⟨⟨u, vv, st, hh, bo, ti⟩, xe⟩ := x
  obtain ⟨⟨a1, n1, k1, e1⟩, a2, n2, k2, e2⟩ := hshp
  have e1 : vv = .slice a1 n1 k1 := e1
  have e2 : hh = .slice a2 n2 k2 := e2
  subst e1 e2
  have c0 := cc 0 _ rfl
  have c1 := cc 1 _ rfl
  have c2 := cc 2 _ rfl
  have c3 := cc 3 _ rfl
  have c4 := cc 4 _ rfl
  have c5 := cc 5 _ rfl
  simp only [Nat.add_zero] at c0
  have hii : (i : Int) < (n : Int) := by omega
  have hi0 : (0 : Int) ≤ (i : Int) := by omega
  have j0 := hJ.at_.c 0 rfl
  have jl := hJ.at_.lt
  have K1 := AtL.new w (eeC (⟨u, .slice a1 n1 k1, st, .slice a2 n2 k2, bo, ti⟩, xe)) 40
  have hb1 : Below w.heap.size w (w.alloc (.cells (eeC (⟨u, .slice a1 n1 k1, st, .slice a2 n2 k2, bo, ti⟩, xe)).toArray 40)) := (Below.refl _ w).alloc (Nat.le_refl _) _
  have J1 := hJ.below hb1 (Nat.le_refl _)
  have hKg : w.heap.size ≠ g := by omega
  have hKj : w.heap.size ≠ jb := by omega
  have hown1 := own_below hown hb1 (Nat.le_refl _)
  have HMEM := Lib.hid hmem
  have HLR := Lib.hid hlr
  have HONE := Lib.hid one
  have HJ := Lib.hid hJ
  have HN := Lib.hid hn
  have HR := Lib.hid hr
  have HX := Lib.hid hx
  clear hmem hlr one hshl cc hcell hx hJ hn hr hown
  go_enter Tryz.func57, Tryz.ntmps57
  go_wp2_with fail
  obtain ⟨w1, hw1⟩ : ∃ w1 : World, w.alloc (.cells (eeC (⟨u, .slice a1 n1 k1, st, .slice a2 n2 k2, bo, ti⟩, xe)).toArray 40) = w1 := ⟨_, rfl⟩
  obtain ⟨K, hK⟩ : ∃ K, w.heap.size = K := ⟨_, rfl⟩
  rw [hw1] at K1 hb1 J1 hown1
  rw [hK] at K1 hKg hKj
  rw [hw1, hK]
  have HK := Lib.hid hK
  clear hw1 hK c0 c1 c2 c3 c4 c5
  have z0 := K1.c 0 rfl; have z1 := K1.c 1 rfl; have z2 := K1.c 2 rfl; have z3 := K1.c 3 rfl; have z4 := K1.c 4 rfl; have z5 := K1.c 5 rfl
  have q0 := J1.at_.c 0 rfl
  have f0 := J1.at_.f 0 rfl
  have kl := K1.lt
  have jl1 := J1.at_.lt
  clear j0
  have R1 := J1.row
  have rb1 : RowBut K jb (some g) w w1 := (RowBut.refl K jb (some g) w).below hb1 (Nat.le_of_eq HK.out.symm)
  have hK1 : K ≤ w1.heap.size := Nat.le_of_lt kl
  have hB1 := J1.le
  have hg1 : w1.heap.size ≠ g := by have := hb1.size; omega
  have R1 : RowIn w1 jb B (.slice (some ⟨g, 0, none⟩) n cap) l := by have := HN.out; subst this; exact R1
  have hX1 : Rd w1 ⟨u, .slice a1 n1 k1, st, .slice a2 n2 k2, bo, ti⟩ xe := R1.rd _ (HMEM.out _ (List.mem_append.2 (.inr (List.mem_singleton.2 rfl))))
  have hwr : IntKind.i64.wrap ((i : Int) + 1) = (i : Int) + 1 := IntWalk.i64_in _ (by omega)
  have hrl : r + 1 ≤ 1000 := by have := HR.out; omega
  have RB0 := Lib.hid rb1
  have HX1 := Lib.hid hX1
  have HF := Lib.hid hfar
  have HR1 := Lib.hid R1
  have HJ1 := Lib.hid J1
  clear rb1 hX1 hfar hrd R1 J1
  go_region_law (first
    | (go_simp; go_at_call 77; (with_reducible refine (CD.out w1.drew hown1.drew).mono ?_); rintro e wD ⟨rfl, hownD, hbD⟩; have hb9 := BelowBut.of (n := w1.heap.size) (Below.refl _ w1).drew hbD (Nat.le_refl _); have KD := K1.but hb9 kl hKg; have JD := HJ1.out.at_.but hb9 jl1 (Ne.symm hgj); have RD := HR1.out.dr.del HLR.out hownD (fun y hy => HMEM.out y (List.mem_append.2 (.inl hy))) hbD; have rbD := RB0.out.trans ((hb9.toRow jb).mono hK1); have XD := HX1.out.row (x := (⟨u, .slice a1 n1 k1, st, .slice a2 n2 k2, bo, ti⟩, xe)) (hb9.toRow jb) (Nat.le_refl _) HF.out; have y0 := KD.c 0 rfl; have y1 := KD.c 1 rfl; have y2 := KD.c 2 rfl; have y3 := KD.c 3 rfl; have y4 := KD.c 4 rfl; have y5 := KD.c 5 rfl; have t0 := JD.c 0 rfl; have u0 := JD.f 0 rfl; have klD := KD.lt; have jlD := JD.lt; have hDz := hb9.size)
    | (go_simp; go_at_call 77; (with_reducible refine (CD.out (w1.alloc (.cells #[.string u, .slice a1 n1 k1, .int .i64 st, .slice a2 n2 k2, .string bo, .int .i64 ti] 40)).drew (hown1.alloc _).drew).mono ?_); rintro e wD ⟨rfl, hownD, hbD⟩; have hb9 := BelowBut.of (n := w1.heap.size) ((Below.refl _ w1).alloc (Nat.le_refl _) (.cells #[.string u, .slice a1 n1 k1, .int .i64 st, .slice a2 n2 k2, .string bo, .int .i64 ti] 40)).drew hbD (by simp); have NA := (AtL.new w1 (eeC (⟨u, .slice a1 n1 k1, st, .slice a2 n2 k2, bo, ti⟩, xe)) 40).drew.but hbD (by simp) hg1; have KD := K1.but hb9 kl hKg; have JD := HJ1.out.at_.but hb9 jl1 (Ne.symm hgj); have RD := (HR1.out.al _).dr.del HLR.out hownD (fun y hy => HMEM.out y (List.mem_append.2 (.inl hy))) hbD; have rbD := RB0.out.trans ((hb9.toRow jb).mono hK1); have XD := HX1.out.row (x := (⟨u, .slice a1 n1 k1, st, .slice a2 n2 k2, bo, ti⟩, xe)) (hb9.toRow jb) (Nat.le_refl _) HF.out; have y0 := KD.c 0 rfl; have y1 := KD.c 1 rfl; have y2 := KD.c 2 rfl; have y3 := KD.c 3 rfl; have y4 := KD.c 4 rfl; have y5 := KD.c 5 rfl; have t0 := JD.c 0 rfl; have u0 := JD.f 0 rfl; have klD := KD.lt; have jlD := JD.lt; have hDz := hb9.size)
    | (refine step_appG slE wD (by rfl) (.tmp 20) (.tmp 22) (by rfl) B _ r (cellsK eeC (l.eraseIdx i)) (by rfl) hownD (eeC (⟨u, .slice a1 n1 k1, st, .slice a2 n2 k2, bo, ti⟩, xe)) 1 w1.heap.size (by rfl) NA rfl HONE.out (by decide) (by omega) (by omega) (Nat.le_trans hB1 hDz) ?_; intro g5 cap5 w5 hown5 hgrow hat hlt; have F5 := RowIn.app RD XD HF.out jlD (by rw [HLR.out]) hown5 hgrow hat; have rb5 := rbD.grown hgrow (Nat.le_trans hK1 hDz); have J5 := JD.grown hgrow (fun e => hgj (Option.some.inj e)); have t5 := J5.c 0 rfl; have u5 := J5.f 0 rfl; have jl5 := J5.lt)
    | (refine step_appG slE (wD.alloc (.cells #[.string u, .slice a1 n1 k1, .int .i64 st, .slice a2 n2 k2, .string bo, .int .i64 ti] 40)) (by rfl) (.tmp 20) (.tmp 22) (by rfl) B _ r (cellsK eeC (l.eraseIdx i)) (by rfl) (hownD.alloc _) (eeC (⟨u, .slice a1 n1 k1, st, .slice a2 n2 k2, bo, ti⟩, xe)) 1 wD.heap.size (by rfl) (AtL.new wD (eeC (⟨u, .slice a1 n1 k1, st, .slice a2 n2 k2, bo, ti⟩, xe)) 40) rfl HONE.out (by decide) (by omega) (by omega) (by simp; have := Nat.le_trans hB1 hDz; omega) ?_; intro g5 cap5 w5 hown5 hgrow hat hlt; have F5 := RowIn.app (RD.al _) (XD.below ((Below.refl _ wD).alloc (Nat.le_refl _) _) (Nat.le_refl _)) HF.out (by simp; omega) (by rw [HLR.out]) hown5 hgrow hat; have rb5 := (rbD.below ((Below.refl _ wD).alloc (Nat.le_refl _) _) (Nat.le_trans hK1 hDz)).grown hgrow (by simp; have := Nat.le_trans hK1 hDz; omega); have J5 := (JD.alloc _).grown hgrow (fun e => hgj (Option.some.inj e)); have t5 := J5.c 0 rfl; have u5 := J5.f 0 rfl; have jl5 := J5.lt))
  all_goals
    clear hwr
    go_wp2_with fail
    go_end0
    obtain ⟨F1, F2⟩ := F5
    refine ⟨rfl, ⟨_, F1.store J5, ?_⟩, ?_⟩
    · rw [HK.out]
      exact fun g' e => (F2 g' e).imp id (fun h => by first | (simp at h; omega) | omega)
    · rw [HK.out]
      exact rb5.setCell ⟨jb, 0, none⟩ (Or.inl rfl) _
end Go.Proofs.YtkobhknggamejaaGreatDoor
