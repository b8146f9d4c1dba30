/- CookieSet: the law. -/
import Derived.Test.YtgjooigolgdocaaGreatDoorDX
import Derived.Deep.CutRange
namespace Go.Proofs.YtgjooigolgdocaaGreatDoor
set_option linter.unusedVariables false
set_option linter.unusedSimpArgs false
open Go.RowKit

theorem but_row {n jb k : Nat} {o : Option Nat} {w w' : World} {vs : List Value} (h : RowBut n jb o w w') (hA : AtL w k vs) (hk : k < n) (h1 : k ≠ jb) (h2 : o ≠ some k) : AtL w' k vs := by
  have hh := h.block k hk h1 h2
  exact ⟨Nat.lt_of_lt_of_le hA.1 h.size, fun j v hv => ⟨(World.cell?_of_block (w := w) hh).trans (hA.c j hv), (World.frozen?_of_block (w := w) hh).trans (hA.f j hv)⟩⟩
theorem own_row {n jb b e s m : Nat} {o : Option Nat} {w w' : World} {v : Value} {xs : List Value} (h : RowBut n jb o w w') (hO : w.ownsRow b e s v m xs) (hn : w.heap.size ≤ n) (h1 : v.ownBlock ≠ some jb) (h2 : ∀ g, v.ownBlock = some g → o ≠ some g) : w'.ownsRow b e s v m xs := by
  refine ⟨hO.1, ?_⟩
  rcases hO.2 with h3 | ⟨g, cap, cur, rfl, hg, hh, r⟩
  · exact .inl h3
  · have hgw := (Array.getElem?_eq_some_iff.1 hh).1
    exact .inr ⟨g, cap, cur, rfl, hg, by rw [h.block g (by omega) (fun e => h1 (by rw [e]; rfl)) (h2 g rfl)]; exact hh, r⟩
/-- two jars that share nothing -/
structure Apart (w : World) (X Y : Nat) (vx vy : Value) : Prop where
  xy : X ≠ Y
  xv : vy.ownBlock ≠ some X
  yv : vx.ownBlock ≠ some Y
  vv : ∀ g, vx.ownBlock = some g → vy.ownBlock ≠ some g
  yl : Y < w.heap.size
  vl : ∀ g, vy.ownBlock = some g → g < w.heap.size
theorem own_lt2 {w : World} {b e s n : Nat} {v : Value} {xs : List Value} (h : w.ownsRow b e s v n xs) : ∀ g, v.ownBlock = some g → g < w.heap.size := by
  intro g hg
  rcases h.2 with ⟨rfl, _⟩ | ⟨g', cap, cur, rfl, hb, hh, _⟩
  · simp [Value.ownBlock] at hg
  · simp only [Value.ownBlock, Option.some.injEq] at hg
    subst hg
    exact (Array.getElem?_eq_some_iff.1 hh).1
/-- the jar y behind what was done to the jar x -/
theorem JarIn.other {w w' : World} {X Y B : Nat} {vx vy : Value} {l : List Ck} {nx : Int} (h : RowBut w.heap.size X vx.ownBlock w w') (hJ : JarIn w Y B vy l nx) (ha : Apart w X Y vx vy) : JarIn w' Y B vy l nx :=
  ⟨but_row h hJ.at_ hJ.at_.lt (Ne.symm ha.xy) ha.yv, own_row h hJ.own (Nat.le_refl _) ha.xv (fun g hg e => ha.vv g e hg), hJ.ne, Nat.le_trans hJ.le h.size⟩
theorem SlK.ofRow {α : Type} {enc : α → List Value} {k n jb B : Nat} {o : Option Nat} {w w' : World} {v : Value} {l : List α} (h : SlK enc k w v l) (hr : RowBut n jb o w w') (hb : ∀ b off, (∃ n c, v = .slice (some ⟨b, off, none⟩) n c) → b < B) (hB : B ≤ n) (h1 : B ≤ jb) (h2 : ∀ g, o = some g → B ≤ g) : SlK enc k w' v l := by
  rcases h with h | ⟨h0, b, off, cap, hv, e2, e3, h4, h5⟩
  · exact .inl h
  · have hbB := hb b off ⟨_, _, hv⟩
    exact .inr ⟨h0, b, off, cap, hv, e2, e3, Nat.lt_of_lt_of_le h4 hr.size, fun i hi j u hu => (World.cell?_of_block (w := w) (a := ⟨b, off + i * k + j, none⟩) (hr.block b (by omega) (by omega) (fun e => by have := h2 b e; omega))).trans (h5 i hi j u hu)⟩
theorem SlK.len {α : Type} {enc : α → List Value} {k : Nat} {w : World} {v : Value} {l : List α} (h : SlK enc k w v l) : l.length ≤ maxLen := by
  rcases h with ⟨rfl, _⟩ | ⟨h0, b, off, cap, hv, e2, e3, h4, h5⟩
  · simp
  · omega
theorem bl_alloc {W w : World} (h : Below W.heap.size W w) (o : Obj) : Below W.heap.size W (w.alloc o) := h.alloc h.size o
theorem bl_drew {W w : World} (h : Below W.heap.size W w) : Below W.heap.size W w.drew := h.drew
theorem bl_set {W w : World} (h : Below W.heap.size W w) (p : Addr) (hp : W.heap.size ≤ p.block) (u : Value) : Below W.heap.size W (w.setCell p u) := h.setCell hp u
theorem sj_mk {W w' : World} {J : Nat} {a b : Value} (h : AtL W J [a, b]) (hb : Below W.heap.size W w') : w'.cell? ⟨J, 0, none⟩ = some a ∧ w'.cell? ⟨J, 1, none⟩ = some b ∧ Below W.heap.size W w' :=
  ⟨(brl hb _ _ h.lt).trans (h.c 0 rfl), (brl hb _ _ h.lt).trans (h.c 1 rfl), hb⟩
theorem atl_new1 (w : World) (o : Obj) (vs : List Value) (T : TypeId) : AtL ((w.alloc o).alloc (.cells vs.toArray T)) (w.heap.size + 1) vs := by
  have := AtL.new (w.alloc o) vs T
  rwa [show (w.alloc o).heap.size = w.heap.size + 1 by simp] at this
abbrev OwnC (w : World) (B : Nat) (v : Value) (l : List Ck) : Prop := w.ownsRow B 29 9 v l.length (cellsK ckL l)
abbrev TwoJ (w : World) (B K1 K2 : Nat) (v1 v2 : Value) (l : List Ck) (nx : Int) : Prop := JarIn w K1 B v1 l nx ∧ JarIn w K2 B v2 l nx ∧ Apart w K1 K2 v1 v2 ∧ Apart w K2 K1 v2 v1
theorem two_sets {w : World} {B K1 K2 : Nat} {v1 v2 : Value} {l : List Ck} {nx : Int} {a b c d : Value} (h1 : AtL w K1 [a, b]) (h2 : AtL w K2 [c, d]) (hk : K1 ≠ K2) (o1 : OwnC w B v1 l) (o2 : OwnC w B v2 l) (n11 : v1.ownBlock ≠ some K1) (n12 : v1.ownBlock ≠ some K2) (n21 : v2.ownBlock ≠ some K1) (n22 : v2.ownBlock ≠ some K2) (hd : ∀ g, v1.ownBlock = some g → v2.ownBlock ≠ some g) (hB : B ≤ w.heap.size) :
    TwoJ ((((w.setCell ⟨K1, 0, none⟩ v1).setCell ⟨K1, 1, none⟩ (.int .i64 nx)).setCell ⟨K2, 0, none⟩ v2).setCell ⟨K2, 1, none⟩ (.int .i64 nx)) B K1 K2 v1 v2 l nx := by
  have a1 : AtL ((((w.setCell ⟨K1, 0, none⟩ v1).setCell ⟨K1, 1, none⟩ (.int .i64 nx)).setCell ⟨K2, 0, none⟩ v2).setCell ⟨K2, 1, none⟩ (.int .i64 nx)) K1 [v1, .int .i64 nx] := (((h1.set 0 v1).set 1 (.int .i64 nx)).far ⟨K2, 0, none⟩ v2 (Ne.symm hk)).far ⟨K2, 1, none⟩ (.int .i64 nx) (Ne.symm hk)
  have a2 : AtL ((((w.setCell ⟨K1, 0, none⟩ v1).setCell ⟨K1, 1, none⟩ (.int .i64 nx)).setCell ⟨K2, 0, none⟩ v2).setCell ⟨K2, 1, none⟩ (.int .i64 nx)) K2 [v2, .int .i64 nx] := (((h2.far ⟨K1, 0, none⟩ v1 hk).far ⟨K1, 1, none⟩ (.int .i64 nx) hk).set 0 v2).set 1 (.int .i64 nx)
  have p1 := ownsRow_setCell_other (a := ⟨K2, 1, none⟩) (ownsRow_setCell_other (a := ⟨K2, 0, none⟩) (ownsRow_setCell_other (a := ⟨K1, 1, none⟩) (ownsRow_setCell_other (a := ⟨K1, 0, none⟩) o1 n11 v1) n11 (.int .i64 nx)) n12 v2) n12 (.int .i64 nx)
  have p2 := ownsRow_setCell_other (a := ⟨K2, 1, none⟩) (ownsRow_setCell_other (a := ⟨K2, 0, none⟩) (ownsRow_setCell_other (a := ⟨K1, 1, none⟩) (ownsRow_setCell_other (a := ⟨K1, 0, none⟩) o2 n21 v1) n21 (.int .i64 nx)) n22 v2) n22 (.int .i64 nx)
  have hs : B ≤ ((((w.setCell ⟨K1, 0, none⟩ v1).setCell ⟨K1, 1, none⟩ (.int .i64 nx)).setCell ⟨K2, 0, none⟩ v2).setCell ⟨K2, 1, none⟩ (.int .i64 nx)).heap.size := by simp only [World.size_setCell]; exact hB
  exact ⟨⟨a1, p1, n11, hs⟩, ⟨a2, p2, n22, hs⟩, ⟨hk, n21, n12, hd, a2.lt, own_lt2 p2⟩, ⟨Ne.symm hk, n12, n21, fun g h e => hd g e h, a1.lt, own_lt2 p1⟩⟩
theorem two_mix {w : World} {B K1 : Nat} {v1 v2 : Value} {l : List Ck} {nx : Int} {a b : Value} (h1 : AtL w K1 [a, b]) (o1 : OwnC w B v1 l) (o2 : OwnC w B v2 l) (n11 : v1.ownBlock ≠ some K1) (n21 : v2.ownBlock ≠ some K1) (hd : ∀ g, v1.ownBlock = some g → v2.ownBlock ≠ some g) (hB : B ≤ w.heap.size) :
    TwoJ (((w.setCell ⟨K1, 0, none⟩ v1).setCell ⟨K1, 1, none⟩ (.int .i64 nx)).alloc (.cells #[v2, .int .i64 nx] 38)) B K1 w.heap.size v1 v2 l nx := by
  have a1 : AtL (((w.setCell ⟨K1, 0, none⟩ v1).setCell ⟨K1, 1, none⟩ (.int .i64 nx)).alloc (.cells #[v2, .int .i64 nx] 38)) K1 [v1, .int .i64 nx] := ((h1.set 0 v1).set 1 (.int .i64 nx)).alloc _
  have a2 : AtL (((w.setCell ⟨K1, 0, none⟩ v1).setCell ⟨K1, 1, none⟩ (.int .i64 nx)).alloc (.cells #[v2, .int .i64 nx] 38)) w.heap.size [v2, .int .i64 nx] := by
    have := AtL.new ((w.setCell ⟨K1, 0, none⟩ v1).setCell ⟨K1, 1, none⟩ (.int .i64 nx)) [v2, .int .i64 nx] 38
    rwa [World.size_setCell, World.size_setCell] at this
  have p1 := (ownsRow_setCell_other (a := ⟨K1, 1, none⟩) (ownsRow_setCell_other (a := ⟨K1, 0, none⟩) o1 n11 v1) n11 (.int .i64 nx)).alloc (.cells #[v2, .int .i64 nx] 38)
  have p2 := (ownsRow_setCell_other (a := ⟨K1, 1, none⟩) (ownsRow_setCell_other (a := ⟨K1, 0, none⟩) o2 n21 v1) n21 (.int .i64 nx)).alloc (.cells #[v2, .int .i64 nx] 38)
  have n12 : v1.ownBlock ≠ some w.heap.size := fun e => by have := own_lt2 o1 _ e; omega
  have n22 : v2.ownBlock ≠ some w.heap.size := fun e => by have := own_lt2 o2 _ e; omega
  have hs : B ≤ (((w.setCell ⟨K1, 0, none⟩ v1).setCell ⟨K1, 1, none⟩ (.int .i64 nx)).alloc (.cells #[v2, .int .i64 nx] 38)).heap.size := by have := a2.lt; omega
  have hk : K1 ≠ w.heap.size := Nat.ne_of_lt h1.lt
  exact ⟨⟨a1, p1, n11, hs⟩, ⟨a2, p2, n22, hs⟩, ⟨hk, n21, n12, hd, a2.lt, own_lt2 p2⟩, ⟨Ne.symm hk, n12, n21, fun g h e => hd g e h, a1.lt, own_lt2 p1⟩⟩
theorem two_new {w : World} {B : Nat} {v1 v2 : Value} {l : List Ck} {nx : Int} (o1 : OwnC w B v1 l) (o2 : OwnC w B v2 l) (hd : ∀ g, v1.ownBlock = some g → v2.ownBlock ≠ some g) (hB : B ≤ w.heap.size) :
    TwoJ ((w.alloc (.cells #[v1, .int .i64 nx] 38)).alloc (.cells #[v2, .int .i64 nx] 38)) B w.heap.size (w.heap.size + 1) v1 v2 l nx := by
  have a1 : AtL ((w.alloc (.cells #[v1, .int .i64 nx] 38)).alloc (.cells #[v2, .int .i64 nx] 38)) w.heap.size [v1, .int .i64 nx] := (AtL.new w [v1, .int .i64 nx] 38).alloc _
  have a2 : AtL ((w.alloc (.cells #[v1, .int .i64 nx] 38)).alloc (.cells #[v2, .int .i64 nx] 38)) (w.heap.size + 1) [v2, .int .i64 nx] := atl_new1 w _ [v2, .int .i64 nx] 38
  have p1 := (o1.alloc (.cells #[v1, .int .i64 nx] 38)).alloc (.cells #[v2, .int .i64 nx] 38)
  have p2 := (o2.alloc (.cells #[v1, .int .i64 nx] 38)).alloc (.cells #[v2, .int .i64 nx] 38)
  have n11 : v1.ownBlock ≠ some w.heap.size := fun e => by have := own_lt2 o1 _ e; omega
  have n22 : v2.ownBlock ≠ some (w.heap.size + 1) := fun e => by have := own_lt2 o2 _ e; omega
  have n12 : v1.ownBlock ≠ some (w.heap.size + 1) := fun e => by have := own_lt2 o1 _ e; omega
  have n21 : v2.ownBlock ≠ some w.heap.size := fun e => by have := own_lt2 o2 _ e; omega
  have hs : B ≤ ((w.alloc (.cells #[v1, .int .i64 nx] 38)).alloc (.cells #[v2, .int .i64 nx] 38)).heap.size := by have := a2.lt; omega
  have hk : w.heap.size ≠ w.heap.size + 1 := by omega
  exact ⟨⟨a1, p1, n11, hs⟩, ⟨a2, p2, n22, hs⟩, ⟨hk, n21, n12, hd, a2.lt, own_lt2 p2⟩, ⟨Ne.symm hk, n12, n21, fun g h e => hd g e h, a1.lt, own_lt2 p1⟩⟩
theorem mix_below {W w : World} (h : Below W.heap.size W w) {K1 : Nat} (hk : W.heap.size ≤ K1) (u1 u2 : Value) (o : Obj) : Below W.heap.size W (((w.setCell ⟨K1, 0, none⟩ u1).setCell ⟨K1, 1, none⟩ u2).alloc o) := bl_alloc (bl_set (bl_set h ⟨K1, 0, none⟩ hk u1) ⟨K1, 1, none⟩ hk u2) o
theorem sets_below {W w : World} (h : Below W.heap.size W w) {K1 K2 : Nat} (hk : W.heap.size ≤ K1) (hk2 : W.heap.size ≤ K2) (u1 u2 u3 u4 : Value) : Below W.heap.size W ((((w.setCell ⟨K1, 0, none⟩ u1).setCell ⟨K1, 1, none⟩ u2).setCell ⟨K2, 0, none⟩ u3).setCell ⟨K2, 1, none⟩ u4) := bl_set (bl_set (bl_set (bl_set h ⟨K1, 0, none⟩ hk u1) ⟨K1, 1, none⟩ hk u2) ⟨K2, 0, none⟩ hk2 u3) ⟨K2, 1, none⟩ hk2 u4
theorem setq_open {w : World} {jb B : Nat} {v : Value} {l' : List Ck} {nx' er : Int} {x : Ending} {w' : World} (h : SetQ w jb B v l' nx' er x w') : x = .returned (.int .i64 er) ∧ (∃ v', JarIn w' jb B v' l' nx' ∧ OldNew v v' w.heap.size) ∧ RowBut w.heap.size jb v.ownBlock w w' := h
theorem rsq_open {w : World} {l' : List Ck} {nx' er : Int} {x : Ending} {w' : World} (h : RsQ w l' nx' er x w') : ∃ a c, x = .returned (.tuple #[.agg #[.slice a l'.length c, .int .i64 nx'], .int .i64 er]) ∧ SlK ckL 9 w' (.slice a l'.length c) l' ∧ Below w.heap.size w w' := by
  obtain ⟨v', rfl, h1, h2⟩ := h
  obtain ⟨a, c, rfl, _⟩ := h1.shape
  exact ⟨a, c, rfl, h1, h2⟩
theorem sa_mk {W w' : World} {A : Nat} {a b c d e f g : Value} (h : AtL W A [a, b, c, d, e, f, g]) (hb : Below W.heap.size W w') : w'.cell? ⟨A, 0, none⟩ = some a ∧ w'.cell? ⟨A, 1, none⟩ = some b ∧ w'.cell? ⟨A, 2, none⟩ = some c ∧ w'.cell? ⟨A, 3, none⟩ = some d ∧ w'.cell? ⟨A, 4, none⟩ = some e ∧ w'.cell? ⟨A, 5, none⟩ = some f ∧ w'.cell? ⟨A, 6, none⟩ = some g :=
  ⟨(brl hb _ _ h.lt).trans (h.c 0 rfl), (brl hb _ _ h.lt).trans (h.c 1 rfl), (brl hb _ _ h.lt).trans (h.c 2 rfl), (brl hb _ _ h.lt).trans (h.c 3 rfl), (brl hb _ _ h.lt).trans (h.c 4 rfl), (brl hb _ _ h.lt).trans (h.c 5 rfl), (brl hb _ _ h.lt).trans (h.c 6 rfl)⟩
/-- what was done to a jar of one's own leaves all that lay before -/
theorem row_below {W w w' : World} {jb : Nat} {v : Value} {l : List Ck} {nx : Int} (hb : Below W.heap.size W w) (hJ : JarIn w jb W.heap.size v l nx) (hj : W.heap.size ≤ jb) (hr : RowBut w.heap.size jb v.ownBlock w w') : Below W.heap.size W w' :=
  (hr.but hJ.own hb.size).to_below hb (Nat.le_refl _) hj
/-- behind the first jar's turn the second is apart from what the first is now -/
theorem apart_turn {w w' : World} {X Y B : Nat} {vx vy vx' : Value} {l l' : List Ck} {nx nx' : Int} (ha : Apart w X Y vx vy) (hJ : JarIn w' X B vx' l' nx') (ho : OldNew vx vx' w.heap.size) : Apart w' Y X vy vx' :=
  ⟨Ne.symm ha.xy, fun e => (ho _ e).elim (fun h => ha.yv h) (fun h => by have := ha.yl; omega), ha.xv, fun g h e => (ho g e).elim (fun h2 => ha.vv g h2 h) (fun h2 => by have := ha.vl g h; omega), hJ.at_.lt, own_lt2 hJ.own⟩
theorem fewq_open {l : List Ck} {nx : Int} {w : World} {x : Ending} {w' : World} (h : FewQ l nx w x w') : ∃ R : Bool, x = .returned (.bool R) ∧ (R = true → l.length ≤ 202 ∧ nx < 1152921504606846976 ∧ nx > -1152921504606846976) ∧ Below w.heap.size w w' := h
set_option maxRecDepth 20000 in
set_option maxHeartbeats 4000000 in
theorem cookieset_law (l : List Ck) (v : Value) (nx : Int) (s a b cc d e f : ByteArray) (now : Int) (w : World) (hM : MaxAt w) (hv : SlK ckL 9 w v l) :
    Calls Tryz.prog 9 #[.agg #[v, .int .i64 nx], .string s, askA a b cc d e f now] w fun x w' => x = .returned (.bool true) ∧ Below w.heap.size w w' := by
  have J0 := (AtL.new w [v, .int .i64 nx] 38).alloc (.cells (askL a b cc d e f now).toArray 25)
  have A0 := AtL.new (w.alloc (.cells [v, .int .i64 nx].toArray 38)) (askL a b cc d e f now) 25
  rw [show (w.alloc (.cells [v, .int .i64 nx].toArray 38)).heap.size = w.heap.size + 1 by simp] at A0
  have hB0 : Below w.heap.size w ((w.alloc (.cells [v, .int .i64 nx].toArray 38)).alloc (.cells (askL a b cc d e f now).toArray 25)) := ((Below.refl _ w).alloc (Nat.le_refl _) _).alloc (by simp) _
  have hM0 := hM.below hB0 (Nat.le_refl _)
  have hv0 := hv.below hB0 (Nat.le_refl _)
  have CF := Lib.hid (fit_any _ hM0)
  have hlen := hv.len
  unfold maxLen at hlen
  have CW := Lib.hid (fun w hv => cfew_wild l v nx w hv (by omega))
  have cS := fun w => asmall_any a b cc d e f now w
  have HV := Lib.hid hv
  have CC := Lib.hid (fun (w : World) (hv : SlK ckL 9 w v l) (hl : l.length ≤ 1000) => clone_is l v nx w hv hl)
  obtain ⟨sa, sl, rfl, _⟩ := hv.shape
  by_cases hs : s.size ≤ 400
  · have hsi : ¬ (s.size : Int) > 400 := by omega
    cases hS : shortB a b cc d e f with
    | false =>
      rw [hS] at cS
      have CS := Lib.hid cS
      clear cS hM hM0 hS CC hv hlen
      go_enter Tryz.func9, Tryz.ntmps9
      go_wp2_with (first
        | (go_at_call 10; with_reducible refine CF.out.mono ?_; rintro x w1 ⟨rfl, hb1⟩; have J1 := J0.next hb1; have A1 := A0.next hb1; have hB1 := hB0.trans (hb1.mono hB0.size); have hv1 := hv0.below hb1 (Nat.le_refl _); have j0 := J1.c 0 rfl; have j1 := J1.c 1 rfl; have z0 := A1.c 0 rfl; have z1 := A1.c 1 rfl; have z2 := A1.c 2 rfl; have z3 := A1.c 3 rfl; have z4 := A1.c 4 rfl; have z5 := A1.c 5 rfl; have z6 := A1.c 6 rfl; have jl1 := J1.lt; have al1 := A1.lt)
        | (go_at_call 22; with_reducible refine (CW.out _ hv1).mono ?_; rintro x w2 hq; obtain ⟨R, rfl, hR, hb2⟩ := fewq_open hq; clear hq hR; have A2 := A1.next hb2; have hB2 := hB1.trans (hb2.mono hB1.size); have y0 := A2.c 0 rfl; have y1 := A2.c 1 rfl; have y2 := A2.c 2 rfl; have y3 := A2.c 3 rfl; have y4 := A2.c 4 rfl; have y5 := A2.c 5 rfl; have y6 := A2.c 6 rfl; have al2 := A2.lt)
        | (go_at_call 11; with_reducible refine (CS.out _).mono ?_; rintro x w3 ⟨rfl, hb3⟩))
      all_goals
        go_ret
        first
          | exact ⟨rfl, hB2.trans (hb3.mono hB2.size)⟩
          | exact ⟨rfl, hB2⟩
    | true =>
      rw [hS] at cS
      have CS := Lib.hid cS
      have hz := short_size hS
      have HZ := Lib.hid hz
      have HS400 := Lib.hid hs
      clear cS hM hS hz hv hlen hs
      go_enter Tryz.func9, Tryz.ntmps9
      go_upto_region 5 with (first
        | (go_at_call 10; with_reducible refine CF.out.mono ?_; rintro x w1 ⟨rfl, hb1⟩; have A1 := A0.next hb1; have J1 := J0.next hb1; have hB1 := hB0.trans (hb1.mono hB0.size); have hM1 := hM0.below hb1 (Nat.le_refl _); have hv1 := hv0.below hb1 (Nat.le_refl _); have z0 := A1.c 0 rfl; have z1 := A1.c 1 rfl; have z2 := A1.c 2 rfl; have z3 := A1.c 3 rfl; have z4 := A1.c 4 rfl; have z5 := A1.c 5 rfl; have z6 := A1.c 6 rfl; have j0 := J1.c 0 rfl; have j1 := J1.c 1 rfl; have hl1 := A1.lt; have jl1 := J1.lt)
        | (go_at_call 22; with_reducible refine (CW.out _ hv1).mono ?_; rintro x w2 hq; obtain ⟨R, rfl, hR, hb2⟩ := fewq_open hq; clear hq; have HR := Lib.hid hR; clear hR; have A2 := A1.next hb2; have J2 := J1.next hb2; have hB2 := hB1.trans (hb2.mono hB1.size); have hM2 := hM1.below hb2 (Nat.le_refl _); have hv2 := hv1.below hb2 (Nat.le_refl _); have y0 := A2.c 0 rfl; have y1 := A2.c 1 rfl; have y2 := A2.c 2 rfl; have y3 := A2.c 3 rfl; have y4 := A2.c 4 rfl; have y5 := A2.c 5 rfl; have y6 := A2.c 6 rfl; have i0 := J2.c 0 rfl; have i1 := J2.c 1 rfl; have hl2 := A2.lt; have jl2 := J2.lt)
        | (go_at_call 11; with_reducible refine (CS.out _).mono ?_; rintro x w3 ⟨rfl, hb3⟩; have A3 := A2.next hb3; have J3 := J2.next hb3; have hB3 := hB2.trans (hb3.mono hB2.size); have hM3 := hM2.below hb3 (Nat.le_refl _); have hv3 := hv2.below hb3 (Nat.le_refl _); have hl3 := A3.lt; have jl3 := J3.lt))
      rotate_left
      · go_ret
        exact ⟨rfl, hB2⟩
      obtain ⟨hl202, hn2, hn1⟩ := HR.out (by assumption)
      have hl1000 : l.length ≤ 1000 := by omega
      obtain ⟨J, hJ⟩ : ∃ J, w.heap.size = J := ⟨_, rfl⟩
      obtain ⟨A, hA⟩ : ∃ A, w.heap.size + 1 = A := ⟨_, rfl⟩
      rw [hA] at A3
      rw [hJ] at J3
      rw [hA, hJ]
      have HJ := Lib.hid hJ
      have HA := Lib.hid hA
      have hJl := J3.lt
      have hAl := A3.lt
      clear hJ hA A0 A1 A2 J0 J1 J2 hB0 hB1 hB2 hM0 hM1 hM2 hv0 hv1 hv2 CF CW CS hb1 hb2 hb3 HR z0 z1 z2 z3 z4 z5 z6 y0 y1 y2 y3 y4 y5 y6 j0 j1 i0 i1 hl1 hl2 jl1 jl2 hl3 jl3
      go_upto_region 5 with fail
      go_cut [7, 8] from 30 to 33 (fun p7 p8 wx => ∃ (X Y : Nat) (vx vy : Value), p7 = .pointer (some ⟨X, 0, none⟩) ∧ p8 = .pointer (some ⟨Y, 0, none⟩) ∧ w3.heap.size ≤ X ∧ w3.heap.size ≤ Y ∧ JarIn wx X w3.heap.size vx l nx ∧ JarIn wx Y w3.heap.size vy l nx ∧ Apart wx X Y vx vy ∧ Below w3.heap.size w3 wx)
      case first =>
        go_region_held3 (fun w' => w'.cell? ⟨J, 0, none⟩ = some (.slice sa l.length sl) ∧ w'.cell? ⟨J, 1, none⟩ = some (.int .i64 nx) ∧ Below w3.heap.size w3 w')
          (first
            | (refine sj_mk J3 ?_; (repeat (first | assumption | with_reducible exact Below.refl _ _ | with_reducible apply bl_drew | with_reducible apply bl_alloc | (refine bl_set ?_ _ (by first | (simp; done) | (simp; omega) | (have := hB4.size; simp; omega) | (have := hB4.size; have := hB5.size; simp; omega)) _))); done)
            | go_keep)
          (first
            | (go_at_call 23; refine (CC.out _ (hv3.below (by first | exact (Below.refl _ w3).drew | exact bl_alloc ((Below.refl _ w3).drew) _ | exact bl_alloc (bl_alloc ((Below.refl _ w3).drew) _) _) (Nat.le_refl _)) hl1000).mono ?_; rintro x w4 ⟨vx, rfl, hox, hbx⟩; obtain ⟨a4, c4, rfl, _, _, _⟩ := own_reads hox; obtain ⟨hc4, hf4⟩ := bcell hbx; have hz4 : w3.heap.size < w4.heap.size + 1 := (by have := hbx.size; (try simp at this); omega); (try (have n40 : ¬ w3.heap.size = w4.heap.size := (by have := hbx.size; simp at this; omega))); (try (have n41 : ¬ w3.heap.size + 1 = w4.heap.size := (by have := hbx.size; simp at this; omega))); (try (have m40 : w3.heap.size < w4.heap.size := (by have := hbx.size; simp at this; omega))); (try (have m41 : w3.heap.size + 1 < w4.heap.size := (by have := hbx.size; simp at this; omega))); have hB4 : Below w3.heap.size w3 w4 := (by first | exact (Below.refl _ w3).drew.trans hbx | exact (bl_alloc ((Below.refl _ w3).drew) _).trans (hbx.mono (by simp)) | exact (bl_alloc (bl_alloc ((Below.refl _ w3).drew) _) _).trans (hbx.mono (by simp; omega))))
            | (go_at_call 23; refine (CC.out _ (hv3.below (by first | exact hB4 | exact bl_alloc hB4 _ | exact bl_alloc (bl_alloc hB4 _) _) (Nat.le_refl _)) hl1000).mono ?_; rintro x w5 ⟨vy, rfl, hoy, hby⟩; obtain ⟨a5, c5, rfl, _, _, _⟩ := own_reads hoy; obtain ⟨hc5, hf5⟩ := bcell hby; have hb45 : Below w4.heap.size w4 w5 := (by first | exact hby | exact (bl_alloc (Below.refl _ w4) _).trans (hby.mono (by simp)) | exact (bl_alloc (bl_alloc (Below.refl _ w4) _) _).trans (hby.mono (by simp; omega))); (try (have n50 : ¬ w3.heap.size = w5.heap.size := (by have := hby.size; (try simp at this); omega))); (try (have n51 : ¬ w3.heap.size + 1 = w5.heap.size := (by have := hby.size; (try simp at this); omega))); (try (have n52 : ¬ w4.heap.size = w5.heap.size := (by have := hby.size; (try simp at this); omega))); (try (have n53 : ¬ w4.heap.size + 1 = w5.heap.size := (by have := hby.size; (try simp at this); omega))); (try (have m50 : w3.heap.size < w5.heap.size := (by have := hby.size; (try simp at this); omega))); (try (have m51 : w3.heap.size + 1 < w5.heap.size := (by have := hby.size; (try simp at this); omega))); (try (have m52 : w4.heap.size < w5.heap.size := (by have := hby.size; (try simp at this); omega))); (try (have m53 : w4.heap.size + 1 < w5.heap.size := (by have := hby.size; (try simp at this); omega)));  have hB5 : Below w3.heap.size w3 w5 := (by first | exact hB4.trans (hby.mono hB4.size) | exact (bl_alloc hB4 _).trans (hby.mono (by have := hB4.size; simp; omega)) | exact (bl_alloc (bl_alloc hB4 _) _).trans (hby.mono (by have := hB4.size; simp; omega)))))
        all_goals
          have o1 : OwnC w5 w3.heap.size (.slice a4 l.length c4) l := own_mono (own_below hox hb45 (Nat.le_refl _)) (by first | exact Nat.le_refl _ | (simp; done) | (simp; omega))
          have o2 : OwnC w5 w3.heap.size (.slice a5 l.length c5) l := own_mono hoy (by have := hB4.size; first | exact this | (simp; omega))
          have hd : ∀ g, (Value.slice a4 l.length c4).ownBlock = some g → (Value.slice a5 l.length c5).ownBlock ≠ some g := fun g h1 h2 => by
            have e1 := own_lt2 hox g h1
            have e2 := own_base hoy h2
            first | omega | (simp at e2; omega)
          have hd' : ∀ g, (Value.slice a5 l.length c5).ownBlock = some g → (Value.slice a4 l.length c4).ownBlock ≠ some g := fun g h1 h2 => hd g h2 h1
          have hs4 := hB4.size
          have hs5 := hB5.size
          have hs45 := hb45.size
          have hx1 := hbx.size
          have hy1 := hby.size
          (try simp at hx1)
          (try simp at hy1)
          try (have at4 : AtL w5 w4.heap.size [.slice none 0 0, .int .i64 0] := (by first | exact (AtL.new w4 [.slice none 0 0, .int .i64 0] 38).next hby | exact ((AtL.new w4 [.slice none 0 0, .int .i64 0] 38).alloc _).next hby))
          try (have at41 : AtL w5 (w4.heap.size + 1) [.slice none 0 0, .int .i64 0] := (atl_new1 w4 _ [.slice none 0 0, .int .i64 0] 38).next hby)
          try (have at3 : AtL w5 w3.heap.size [.slice none 0 0, .int .i64 0] := (by first | exact ((AtL.new w3.drew [.slice none 0 0, .int .i64 0] 38).next hbx).next hby | exact (((AtL.new w3.drew [.slice none 0 0, .int .i64 0] 38).alloc _).next hbx).next hby | exact (((AtL.new w3.drew [.slice none 0 0, .int .i64 0] 38).next hbx).alloc _).next hby))
          try (have at31 : AtL w5 (w3.heap.size + 1) [.slice none 0 0, .int .i64 0] := ((atl_new1 w3.drew _ [.slice none 0 0, .int .i64 0] 38).next hbx).next hby)
          try (have p4 : (Value.slice a4 l.length c4).ownBlock ≠ some (w4.heap.size) := (fun e => by have h8 := own_lt2 hox _ e; have h9 := own_base hox e; first | omega | (simp at h9; done) | (simp at h9; omega)))
          try (have q4 : (Value.slice a5 l.length c5).ownBlock ≠ some (w4.heap.size) := (fun e => by have h9 := own_base hoy e; first | omega | (simp at h9; done) | (simp at h9; omega)))
          try (have p41 : (Value.slice a4 l.length c4).ownBlock ≠ some (w4.heap.size + 1) := (fun e => by have h8 := own_lt2 hox _ e; have h9 := own_base hox e; first | omega | (simp at h9; done) | (simp at h9; omega)))
          try (have q41 : (Value.slice a5 l.length c5).ownBlock ≠ some (w4.heap.size + 1) := (fun e => by have h9 := own_base hoy e; first | omega | (simp at h9; done) | (simp at h9; omega)))
          try (have p3 : (Value.slice a4 l.length c4).ownBlock ≠ some (w3.heap.size) := (fun e => by have h8 := own_lt2 hox _ e; have h9 := own_base hox e; first | omega | (simp at h9; done) | (simp at h9; omega)))
          try (have q3 : (Value.slice a5 l.length c5).ownBlock ≠ some (w3.heap.size) := (fun e => by have h9 := own_base hoy e; first | omega | (simp at h9; done) | (simp at h9; omega)))
          try (have p31 : (Value.slice a4 l.length c4).ownBlock ≠ some (w3.heap.size + 1) := (fun e => by have h8 := own_lt2 hox _ e; have h9 := own_base hox e; first | omega | (simp at h9; done) | (simp at h9; omega)))
          try (have q31 : (Value.slice a5 l.length c5).ownBlock ≠ some (w3.heap.size + 1) := (fun e => by have h9 := own_base hoy e; first | omega | (simp at h9; done) | (simp at h9; omega)))
          go_wp2_with fail
          go_meet
          case rel =>
            first
              | exact ⟨_, _, _, _, rfl, rfl, by omega, by omega, (two_new o1 o2 hd hs5).1, (two_new o1 o2 hd hs5).2.1, (two_new o1 o2 hd hs5).2.2.1, bl_alloc (bl_alloc hB5 _) _⟩
              | exact ⟨_, _, _, _, rfl, rfl, by omega, by omega, (two_new o2 o1 hd' hs5).2.1, (two_new o2 o1 hd' hs5).1, (two_new o2 o1 hd' hs5).2.2.2, bl_alloc (bl_alloc hB5 _) _⟩
              | exact ⟨_, _, _, _, rfl, rfl, by omega, by omega, (two_mix at4 o1 o2 p4 q4 hd hs5).1, (two_mix at4 o1 o2 p4 q4 hd hs5).2.1, (two_mix at4 o1 o2 p4 q4 hd hs5).2.2.1, mix_below hB5 (by omega) _ _ _⟩
              | exact ⟨_, _, _, _, rfl, rfl, by omega, by omega, (two_mix at4 o2 o1 q4 p4 hd' hs5).2.1, (two_mix at4 o2 o1 q4 p4 hd' hs5).1, (two_mix at4 o2 o1 q4 p4 hd' hs5).2.2.2, mix_below hB5 (by omega) _ _ _⟩
              | exact ⟨_, _, _, _, rfl, rfl, by omega, by omega, (two_mix at3 o1 o2 p3 q3 hd hs5).1, (two_mix at3 o1 o2 p3 q3 hd hs5).2.1, (two_mix at3 o1 o2 p3 q3 hd hs5).2.2.1, mix_below hB5 (by omega) _ _ _⟩
              | exact ⟨_, _, _, _, rfl, rfl, by omega, by omega, (two_mix at3 o2 o1 q3 p3 hd' hs5).2.1, (two_mix at3 o2 o1 q3 p3 hd' hs5).1, (two_mix at3 o2 o1 q3 p3 hd' hs5).2.2.2, mix_below hB5 (by omega) _ _ _⟩
              | exact ⟨_, _, _, _, rfl, rfl, by omega, by omega, (two_sets at4 at41 (by omega) o1 o2 p4 p41 q4 q41 hd hs5).1, (two_sets at4 at41 (by omega) o1 o2 p4 p41 q4 q41 hd hs5).2.1, (two_sets at4 at41 (by omega) o1 o2 p4 p41 q4 q41 hd hs5).2.2.1, sets_below hB5 (by omega) (by omega) _ _ _ _⟩
              | exact ⟨_, _, _, _, rfl, rfl, by omega, by omega, (two_sets at41 at4 (by omega) o1 o2 p41 p4 q41 q4 hd hs5).1, (two_sets at41 at4 (by omega) o1 o2 p41 p4 q41 q4 hd hs5).2.1, (two_sets at41 at4 (by omega) o1 o2 p41 p4 q41 q4 hd hs5).2.2.1, sets_below hB5 (by omega) (by omega) _ _ _ _⟩
              | exact ⟨_, _, _, _, rfl, rfl, by omega, by omega, (two_sets at3 at4 (by omega) o1 o2 p3 p4 q3 q4 hd hs5).1, (two_sets at3 at4 (by omega) o1 o2 p3 p4 q3 q4 hd hs5).2.1, (two_sets at3 at4 (by omega) o1 o2 p3 p4 q3 q4 hd hs5).2.2.1, sets_below hB5 (by omega) (by omega) _ _ _ _⟩
              | exact ⟨_, _, _, _, rfl, rfl, by omega, by omega, (two_sets at4 at3 (by omega) o1 o2 p4 p3 q4 q3 hd hs5).1, (two_sets at4 at3 (by omega) o1 o2 p4 p3 q4 q3 hd hs5).2.1, (two_sets at4 at3 (by omega) o1 o2 p4 p3 q4 q3 hd hs5).2.2.1, sets_below hB5 (by omega) (by omega) _ _ _ _⟩
              | exact ⟨_, _, _, _, rfl, rfl, by omega, by omega, (two_sets at3 at31 (by omega) o1 o2 p3 p31 q3 q31 hd hs5).1, (two_sets at3 at31 (by omega) o1 o2 p3 p31 q3 q31 hd hs5).2.1, (two_sets at3 at31 (by omega) o1 o2 p3 p31 q3 q31 hd hs5).2.2.1, sets_below hB5 (by omega) (by omega) _ _ _ _⟩
              | exact ⟨_, _, _, _, rfl, rfl, by omega, by omega, (two_sets at31 at3 (by omega) o1 o2 p31 p3 q31 q3 hd hs5).1, (two_sets at31 at3 (by omega) o1 o2 p31 p3 q31 q3 hd hs5).2.1, (two_sets at31 at3 (by omega) o1 o2 p31 p3 q31 q3 hd hs5).2.2.1, sets_below hB5 (by omega) (by omega) _ _ _ _⟩
      case rest =>
        obtain ⟨X, Y, vx, vy, rfl, rfl, hX, hY, JX, JY, hap, hbc⟩ := hcut
        obtain ⟨l1, n1, e1, hl1, RF, SF⟩ := jar_f s a b cc d e f now (by have := HS400.out; omega) HZ.out l nx hl202 (by omega) (by omega)
        obtain ⟨l2, n2, e2, hl2, RT, ST⟩ := jar_t s a b cc d e f now (by have := HS400.out; omega) HZ.out l nx hl202 (by omega) (by omega)
        have HRF := Lib.hid RF
        have HSF := Lib.hid SF
        have HRT := Lib.hid RT
        have HST := Lib.hid ST
        have CSm := Lib.hid (fun (l : List Ck) (v v2 : Value) (nx : Int) (w : World) hv hv2 hl => same_true l v v2 nx w hv hv2 hl)
        clear RF SF RT ST CC
        have hM3d := hM3.below hbc.drew (Nat.le_refl _)
        have JXd := JX.below (Below.refl _ wc).drew (Nat.le_refl _)
        have JYd := JY.below (Below.refl _ wc).drew (Nat.le_refl _)
        have hapd : Apart wc.drew X Y vx vy := ⟨hap.xy, hap.xv, hap.yv, hap.vv, hap.yl, hap.vl⟩
        have Ac := A3.below hbc hAl
        have Jc := J3.below hbc hJl
        have z0 := Ac.c 0 rfl; have z1 := Ac.c 1 rfl; have z2 := Ac.c 2 rfl; have z3 := Ac.c 3 rfl; have z4 := Ac.c 4 rfl; have z5 := Ac.c 5 rfl; have z6 := Ac.c 6 rfl
        have j0 := Jc.c 0 rfl; have j1 := Jc.c 1 rfl
        have acl := Ac.lt
        have jcl := Jc.lt
        go_wp2_with fail
        go_region_held3 (fun w' => w'.cell? ⟨A, 0, none⟩ = some (.string a) ∧ w'.cell? ⟨A, 1, none⟩ = some (.string b) ∧ w'.cell? ⟨A, 2, none⟩ = some (.string cc) ∧ w'.cell? ⟨A, 3, none⟩ = some (.string d) ∧ w'.cell? ⟨A, 4, none⟩ = some (.string e) ∧ w'.cell? ⟨A, 5, none⟩ = some (.string f) ∧ w'.cell? ⟨A, 6, none⟩ = some (.int .i64 now))
          (first | exact sa_mk A3 hbc.drew | exact sa_mk A3 hb5 | exact sa_mk A3 hb6 | go_keep)
          (first
            | (go_at_call 20; refine (HSF.out _ X w3.heap.size vx hM3d JXd).mono ?_; rintro x w5 hq; obtain ⟨rfl, ⟨vx', JX5, hox⟩, hr5⟩ := setq_open hq; clear hq; have hb5 := row_below hbc.drew JXd hX hr5; have JY5 := JarIn.other hr5 JYd hapd; have hap5 : Apart w5 Y X vy vx' := apart_turn (l := l) (nx := nx) hapd JX5 hox; have hM5 := hM3.below hb5 (Nat.le_refl _))
            | (go_at_call 31; refine (HST.out _ Y w3.heap.size vy hM5 JY5).mono ?_; rintro x w6 hq; obtain ⟨rfl, ⟨vy', JY6, hoy⟩, hr6⟩ := setq_open hq; clear hq; have hb6 := row_below hb5 JY5 hY hr6; have JX6 := JarIn.other hr6 JX5 hap5; have hM6 := hM3.below hb6 (Nat.le_refl _); have hv6 := hv3.below hb6 (Nat.le_refl _)))
        have A6 := A3.below hb6 hAl
        have J6 := J3.below hb6 hJl
        clear z0 z1 z2 z3 z4 z5 z6 j0 j1 acl jcl hr5 hr6 hox hoy
        have z0 := A6.c 0 rfl; have z1 := A6.c 1 rfl; have z2 := A6.c 2 rfl; have z3 := A6.c 3 rfl; have z4 := A6.c 4 rfl; have z5 := A6.c 5 rfl; have z6 := A6.c 6 rfl
        have j0 := J6.c 0 rfl; have j1 := J6.c 1 rfl
        have al6 := A6.lt
        have jl6 := J6.lt
        go_wp2_with (first
          | (go_at_call 32; with_reducible refine (HRF.out _ _ hM6 hv6).mono ?_; rintro x w7 hq; obtain ⟨a7, c7, rfl, hs7, hb7⟩ := rsq_open hq; clear hq; have hal7 : Below w6.heap.size w6 (w7.alloc (.cells #[.slice a7 l1.length c7, .int .i64 n1] 46)) := hb7.alloc hb7.size _; have hb8 := hb6.trans (hal7.mono hb6.size); have A8 := A3.below hb8 hAl; have J8 := J3.below hb8 hJl; have JX8 := JX6.below hal7 (Nat.le_refl _); have JY8 := JY6.below hal7 (Nat.le_refl _); have P8 := AtL.new w7 [.slice a7 l1.length c7, .int .i64 n1] 46; have hs8 := hs7.below ((Below.refl _ w7).alloc (Nat.le_refl _) (.cells #[.slice a7 l1.length c7, .int .i64 n1] 46)) (Nat.le_refl _); have hM8 := hM3.below hb8 (Nat.le_refl _); have hv8 := hv3.below hb8 (Nat.le_refl _); have z0 := A8.c 0 rfl; have z1 := A8.c 1 rfl; have z2 := A8.c 2 rfl; have z3 := A8.c 3 rfl; have z4 := A8.c 4 rfl; have z5 := A8.c 5 rfl; have z6 := A8.c 6 rfl; have j0 := J8.c 0 rfl; have j1 := J8.c 1 rfl; have al8 := A8.lt; have jl8 := J8.lt)
          | (go_at_call 32; with_reducible refine (HRT.out _ _ hM8 hv8).mono ?_; rintro x w9 hq; obtain ⟨a9, c9, rfl, hs9, hb9⟩ := rsq_open hq; clear hq; have hal9 := hb9.alloc hb9.size (.cells #[.slice a9 l2.length c9, .int .i64 n2] 46); have hb10 := hb8.trans (hal9.mono hb8.size); have JX10 := JX8.below hal9 (Nat.le_refl _); have JY10 := JY8.below hal9 (Nat.le_refl _); have P10 := P8.next hal9; have Q10 := AtL.new w9 [.slice a9 l2.length c9, .int .i64 n2] 46; have hs10 := hs8.below hal9 (Nat.le_refl _); have ht10 := hs9.below ((Below.refl _ w9).alloc (Nat.le_refl _) (.cells #[.slice a9 l2.length c9, .int .i64 n2] 46)) (Nat.le_refl _); have p0 := P10.c 0 rfl; have p1 := P10.c 1 rfl; have q0 := Q10.c 0 rfl; have q1 := Q10.c 1 rfl; have x0 := JX10.at_.c 0 rfl; have x1 := JX10.at_.c 1 rfl; have y0 := JY10.at_.c 0 rfl; have y1 := JY10.at_.c 1 rfl; have pl := P10.lt; have ql := Q10.lt; have xl := JX10.at_.lt; have yl := JY10.at_.lt)
          | (go_at_call 28; with_reducible refine (CSm.out _ _ _ _ _ JX10.reads hs10 (by omega)).mono ?_; rintro x w11 ⟨rfl, hb11⟩; have JY11 := JY10.below hb11 (Nat.le_refl _); have Q11 := Q10.next hb11; have ht11 := ht10.below hb11 (Nat.le_refl _); have hb12 := hb10.trans (hb11.mono hb10.size); have q0 := Q11.c 0 rfl; have q1 := Q11.c 1 rfl; have y0 := JY11.at_.c 0 rfl; have y1 := JY11.at_.c 1 rfl; have ql11 := Q11.lt; have yl11 := JY11.at_.lt)
          | (go_at_call 28; with_reducible refine (CSm.out _ _ _ _ _ JY11.reads ht11 (by omega)).mono ?_; rintro x w13 ⟨rfl, hb13⟩))
        go_ret
        exact ⟨rfl, hB3.trans ((hb12.trans (hb13.mono hb12.size)).mono hB3.size)⟩
  · have hsi : (s.size : Int) > 400 := by omega
    clear cS hM hM0 CC hv hlen
    go_enter Tryz.func9, Tryz.ntmps9
    go_wp2_with (first
      | (go_at_call 10; with_reducible refine CF.out.mono ?_; rintro x w1 ⟨rfl, hb1⟩; have J1 := J0.next hb1; have hB1 := hB0.trans (hb1.mono hB0.size); have hv1 := hv0.below hb1 (Nat.le_refl _); have j0 := J1.c 0 rfl; have j1 := J1.c 1 rfl; have jl1 := J1.lt)
      | (go_at_call 22; with_reducible refine (CW.out _ hv1).mono ?_; rintro x w2 hq; obtain ⟨R, rfl, hR, hb2⟩ := fewq_open hq; clear hq hR; have hB2 := hB1.trans (hb2.mono hB1.size)))
    all_goals
      go_ret
      exact ⟨rfl, hB2⟩
end Go.Proofs.YtgjooigolgdocaaGreatDoor
