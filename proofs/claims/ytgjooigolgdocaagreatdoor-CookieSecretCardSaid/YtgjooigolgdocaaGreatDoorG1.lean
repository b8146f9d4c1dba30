import Derived.Test.YtgjooigolgdocaaGreatDoorCOA
import Derived.Shelf.SlicesQ.IndexFunc
import Derived.Deep.LoopGhost
import Derived.Deep.QuietTactic
import Derived.BigQuiet
import Derived.Test.YtgjooigolgdocaaGreatDoorG3
import Derived.OneCell
import Derived.Deep.RegionHeld3
import Derived.Deep.RegionLaw
import Derived.Deep.AppendLies
/- Slices of structs: reading; slices.IndexFunc over cookies. -/
namespace Go.Proofs.YtgjooigolgdocaaGreatDoor
set_option linter.unusedVariables false
set_option linter.unusedSimpArgs false
open Go.RowKit

set_option maxRecDepth 20000 in
set_option maxHeartbeats 2000000 in
theorem idxf_any (p : Ck → Bool) (g : Nat) (cb : Array Value) (eg : ∀ args w, (callFunc g args).run Tryz.prog w = .ok (.enter g args) w) (l : List Ck) (b off cap : Nat) (w : World)
    (hp : PredBelow Tryz.prog g cb ckA p w) (hn : l.length ≤ 1000000) (hb : b < w.heap.size) (hc : ∀ i (h : i < l.length) j u, (ckL l[i])[j]? = some u → w.cell? ⟨b, off + i * 9 + j, none⟩ = some u) (R : Int) (hR : idxI p l = R) :
    Calls Tryz.prog 69 #[.slice (some ⟨b, off, none⟩) l.length cap, .func (.func g) #[] cb] w fun e w' => e = .returned (.int .i64 R) ∧ Below w.heap.size w w' := by
  have HR := Lib.hid hR
  have HC := Lib.hid hc
  have HP := Lib.hid hp
  clear hR hc hp
  go_enter Tryz.func69, Tryz.ntmps69
  go_wp2
  go_loopw [5, 8] (fun _ s8 wr => ∃ kk : Nat, kk ≤ l.length ∧ s8 = .int .i64 kk ∧ Below w.heap.size w wr ∧ ∀ j (h : j < l.length), j < kk → p l[j] = false) (fun _ s8 _ => l.length - (intOf s8).toNat)
  case atStart => exact ⟨0, Nat.zero_le _, rfl, Below.refl _ w, fun j _ hj => absurd hj (Nat.not_lt_zero _)⟩
  case round =>
    obtain ⟨kk, hkk, rfl, BW, A⟩ := hrel
    have HA := Lib.hid A
    clear A
    by_cases hlt : kk < l.length
    · have hltz : (kk : Int) < (l.length : Int) := by omega
      have hcc := HC.out kk hlt
      have cc : ∀ j u, (ckL l[kk])[j]? = some u → wr.cell? ⟨b, off + kk * 9 + j, none⟩ = some u := fun j u hu => (BW.cell (p := ⟨b, off + kk * 9 + j, none⟩) hb).trans (hcc j u hu)
      have hcall := HP.out wr l[kk] BW
      obtain ⟨y, hy⟩ : ∃ y, l[kk] = y := ⟨_, rfl⟩
      rw [hy] at cc hcall
      have HY := Lib.hid hy
      have c0 := cc 0 _ rfl
      have c1 := cc 1 _ rfl
      have c2 := cc 2 _ rfl
      have c3 := cc 3 _ rfl
      have c4 := cc 4 _ rfl
      have c5 := cc 5 _ rfl
      have c6 := cc 6 _ rfl
      have c7 := cc 7 _ rfl
      have c8 := cc 8 _ rfl
      simp only [Nat.add_zero] at c0
      clear cc hcc hy
      cases hq : p y with
      | true =>
        rw [hq] at hcall
        have HQ := Lib.hid hq
        have HCall := Lib.hid hcall
        clear hq hcall
        go_wp2_with (go_at_fn g; refine HCall.out.mono ?_; rintro e w' ⟨rfl, hb'⟩)
        go_ret
        exact ⟨ret_int (by rw [← HR.out]; exact (idxI_hit p l kk hlt (by rw [HY.out]; exact HQ.out) (fun j hj => HA.out j (by omega) hj)).symm), hb'⟩
      | false =>
        rw [hq] at hcall
        have HQ := Lib.hid hq
        have HCall := Lib.hid hcall
        clear hq hcall
        go_wp2_with (go_at_fn g; refine HCall.out.mono ?_; rintro e w' ⟨rfl, hb'⟩)
        go_roundw
        case rel =>
          refine ⟨kk + 1, by omega, by go_num, hb', fun j h hj => ?_⟩
          by_cases e : j = kk
          · subst e; rw [HY.out]; exact HQ.out
          · exact HA.out j h (by omega)
        case measure => simp [intOf]; omega
    · obtain rfl : kk = l.length := by omega
      go_wp2
      go_ret
      exact ⟨ret_int (by rw [← HR.out]; exact (idxI_miss p l (fun j hj => HA.out j hj hj)).symm), BW⟩
theorem idxf_nil (p : Ck → Bool) (fv : Value) (a : Option Addr) (cap : Nat) (w : World) :
    Calls Tryz.prog 69 #[.slice a 0 cap, fv] w fun e w' => e = .returned (.int .i64 (-1)) ∧ w = w' := by
  go_enter Tryz.func69, Tryz.ntmps69
  go_wp2
  refine wp_loop_rounds 1 ?_
  rw [rounds_succ]
  go_wp2
  go_ret
  exact ⟨rfl, rfl⟩
end Go.Proofs.YtgjooigolgdocaaGreatDoor

/- Cookies: expired, same. -/
namespace Go.Proofs.YtgjooigolgdocaaGreatDoor
set_option linter.unusedVariables false
set_option linter.unusedSimpArgs false
open Go.RowKit

def exB (c : Ck) (now : Int) : Bool := decide (0 ≤ c.ex) && decide (c.ex ≤ clockI now)
set_option maxRecDepth 20000 in
theorem expired_is (c : Ck) (now : Int) (R : Bool) (hR : exB c now = R) (w : World) :
    Calls Tryz.prog 60 #[ckA c, .int .i64 now] w fun e w' => e = .returned (.bool R) ∧ Below w.heap.size w w' := by
  obtain ⟨cn, cv, cd, cp, cho, cse, chi, cex, ccr⟩ := c
  have cK := fun w => (clock_any now w).mono fun e w' ⟨h1, h2⟩ => (⟨h1, h2.symm⟩ : _ ∧ w' = w)
  unfold exB at hR
  obtain ⟨Cn, hCn⟩ : ∃ Cn, clockI now = Cn := ⟨_, rfl⟩
  rw [hCn] at hR cK
  have HR := Lib.hid hR
  have CK := Lib.hid cK
  clear hR cK hCn
  by_cases h0 : 0 ≤ cex
  · have hd : decide (0 ≤ cex) = true := decide_eq_true h0
    go_enter Tryz.func60, Tryz.ntmps60
    go_wp2_with fail
    go_quiet ((go_at_call 40; exact Calls.quiet_of_same (CK.out _)))
    go_wp2_with fail
    go_ret
    exact ⟨ret_bool (by rw [← HR.out]; rw [hd, Bool.true_and]), below_drewN ((Below.refl _ w).alloc (Nat.le_refl _) _) _⟩
  · have hd : decide (0 ≤ cex) = false := decide_eq_false h0
    go_enter Tryz.func60, Tryz.ntmps60
    go_wp2_with fail
    go_quiet ((go_at_call 40; exact Calls.quiet_of_same (CK.out _)))
    go_wp2_with fail
    go_ret
    exact ⟨ret_bool (by rw [← HR.out]; rw [hd, Bool.false_and]), below_drewN ((Below.refl _ w).alloc (Nat.le_refl _) _) _⟩
set_option maxRecDepth 20000 in
theorem rexpired_is (c : Ck) (now : Int) (R : Bool) (hR : exB c now = R) (w : World) :
    Calls Tryz.prog 29 #[ckA c, .int .i64 now] w fun e w' => e = .returned (.bool R) ∧ Below w.heap.size w w' := by
  obtain ⟨cn, cv, cd, cp, cho, cse, chi, cex, ccr⟩ := c
  have cK := fun w => (rtime_any now w).mono fun e w' ⟨h1, h2⟩ => (⟨h1, h2.symm⟩ : _ ∧ w' = w)
  unfold exB at hR
  obtain ⟨Cn, hCn⟩ : ∃ Cn, clockI now = Cn := ⟨_, rfl⟩
  rw [hCn] at hR cK
  have HR := Lib.hid hR
  have CK := Lib.hid cK
  clear hR cK hCn
  by_cases h0 : 0 ≤ cex
  · have hd : decide (0 ≤ cex) = true := decide_eq_true h0
    go_enter Tryz.func29, Tryz.ntmps29
    go_wp2_with fail
    go_quiet ((go_at_call 50; exact Calls.quiet_of_same (CK.out _)))
    go_wp2_with fail
    go_ret
    exact ⟨ret_bool (by rw [← HR.out]; rw [hd, Bool.true_and]), below_drewN ((Below.refl _ w).alloc (Nat.le_refl _) _) _⟩
  · have hd : decide (0 ≤ cex) = false := decide_eq_false h0
    go_enter Tryz.func29, Tryz.ntmps29
    go_wp2_with fail
    go_quiet ((go_at_call 50; exact Calls.quiet_of_same (CK.out _)))
    go_wp2_with fail
    go_ret
    exact ⟨ret_bool (by rw [← HR.out]; rw [hd, Bool.false_and]), below_drewN ((Below.refl _ w).alloc (Nat.le_refl _) _) _⟩
/-- two cookies are the same -/
def sameB (c d : Ck) : Bool := (c.n.toList == d.n.toList) && (c.d.toList == d.d.toList) && (c.p.toList == d.p.toList)
theorem same_is (c : Ck) (w : World) :
    Calls Tryz.prog 70 #[ckA c] w fun e w' => e = .returned (.func (.func 97) #[] #[.pointer (some ⟨w.heap.size, 0, none⟩)]) ∧ Below w.heap.size w w' ∧ AtL w' w.heap.size (ckL c) := by
  go_enter Tryz.func70, Tryz.ntmps70
  go_wp2_with fail
  go_ret
  exact ⟨rfl, (Below.refl _ w).alloc (Nat.le_refl _) _, AtL.new w (ckL c) 29⟩
theorem same_pred (c : Ck) (B : Nat) (w : World) (hA : AtL w B (ckL c)) : PredBelow Tryz.prog 97 #[.pointer (some ⟨B, 0, none⟩)] ckA (sameB c) w := by
  intro W d hb
  obtain ⟨R, hR⟩ : ∃ R, sameB c d = R := ⟨_, rfl⟩
  rw [hR]
  have A := hA.next hb
  have c0 := A.c 0 rfl
  have c2 := A.c 2 rfl
  have c3 := A.c 3 rfl
  have hB := A.lt
  have hR2 : ((c.n.toList == d.n.toList) && (c.d.toList == d.d.toList) && (c.p.toList == d.p.toList)) = R := hR
  clear hR
  have HR := Lib.hid hR2
  show Calls Tryz.prog 97 #[ckA d, .pointer (some ⟨B, 0, none⟩)] W _
  clear hR2 hA A
  by_cases h1 : c.n.toList = d.n.toList <;> by_cases h2 : c.d.toList = d.d.toList <;> by_cases h3 : c.p.toList = d.p.toList
  all_goals
    go_enter Tryz.func97, Tryz.ntmps97
    go_wp2_with fail
    go_ret
    exact ⟨ret_bool (by rw [← HR.out]; simp [*]), hb.alloc hb.size _⟩
end Go.Proofs.YtgjooigolgdocaaGreatDoor

/- Cookies: storing into a jar: a new cookie; one that has expired and is not there. -/
namespace Go.Proofs.YtgjooigolgdocaaGreatDoor
set_option linter.unusedVariables false
set_option linter.unusedSimpArgs false
open Go.RowKit

theorem slC : SlTy Tryz.prog 36 29 9 88 := .mk' (z := ckA ck0) Tryz.underlying36 (by kernel_rfl) rfl (by decide)
theorem AtL.grown {w w' : World} {k : Nat} {vs : List Value} {row : Option Nat} (h : AtL w k vs) (hg : w.grownBy w' row) (hr : row ≠ some k) : AtL w' k vs := by
  have hh := hg.block k h.1 (fun e => hr e.symm)
  exact ⟨Nat.lt_of_lt_of_le h.1 hg.size, fun j v hv => ⟨(World.cell?_of_block (w := w) hh).trans (h.c j hv), (World.frozen?_of_block (w := w) hh).trans (h.f j hv)⟩⟩
theorem atL_drewk {w wA : World} {vs : List Value} (h : AtL w wA.drew.heap.size vs) : AtL w wA.heap.size vs := h
theorem own_fresh {w : World} {b e s n : Nat} {v : Value} {xs : List Value} (h : w.ownsRow b e s v n xs) : v.ownBlock ≠ some w.heap.size := by
  rcases h.2 with ⟨rfl, _⟩ | ⟨g, cap, cur, rfl, hg, hh, _⟩
  · simp [Value.ownBlock]
  · intro e
    simp only [Value.ownBlock, Option.some.injEq] at e
    have := (Array.getElem?_eq_some_iff.1 hh).1
    omega
theorem own_eq {w : World} {b e s n n' : Nat} {v : Value} {xs xs' : List Value} (h : w.ownsRow b e s v n xs) (hn : n = n') (hx : xs = xs') : w.ownsRow b e s v n' xs' := by subst hn hx; exact h
/-- slices.IndexFunc over a slice that reads as a list of cookies -/
theorem idxs_is (p : Ck → Bool) (g : Nat) (cb : Array Value) (eg : ∀ args w, (callFunc g args).run Tryz.prog w = .ok (.enter g args) w) (l : List Ck) (v : Value) (w : World)
    (hv : SlK ckL 9 w v l) (hp : PredBelow Tryz.prog g cb ckA p w) (hn : l.length ≤ 1000000) (R : Int) (hR : idxI p l = R) :
    Calls Tryz.prog 69 #[v, .func (.func g) #[] cb] w fun e w' => e = .returned (.int .i64 R) ∧ Below w.heap.size w w' := by
  rcases hv with ⟨rfl, a, cap, rfl, h2⟩ | ⟨h0, b, off, cap, rfl, h2, h3, h4, h5⟩
  · subst hR
    refine (idxf_nil p _ a cap w).mono ?_
    rintro e w' ⟨rfl, rfl⟩
    exact ⟨rfl, Below.refl _ _⟩
  · exact idxf_any p g cb eg l b off cap w hp hn h4 h5 R hR
/-- behind a jar's own memory -/
structure JarIn (w : World) (jb B : Nat) (v : Value) (l : List Ck) (nx : Int) : Prop where
  at_ : AtL w jb [v, .int .i64 nx]
  own : w.ownsRow B 29 9 v l.length (cellsK ckL l)
  ne : v.ownBlock ≠ some jb
  le : B ≤ w.heap.size
theorem JarIn.reads {w : World} {jb B : Nat} {v : Value} {l : List Ck} {nx : Int} (h : JarIn w jb B v l nx) : SlK ckL 9 w v l := SlK.of_own ckL_len h.own
theorem JarIn.below {w w' : World} {jb B n : Nat} {v : Value} {l : List Ck} {nx : Int} (h : JarIn w jb B v l nx) (hb : Below n w w') (hn : w.heap.size ≤ n) : JarIn w' jb B v l nx :=
  ⟨h.at_.below hb (Nat.lt_of_lt_of_le h.at_.1 hn), own_below h.own hb hn, h.ne, Nat.le_trans h.le hb.size⟩
/-- a jar's slice and a cookie's nine cells, as a drawn region asks for them -/
def S10 (jb K : Nat) (v : Value) (c : Ck) (wa w' : World) : Prop := w'.cell? ⟨jb, 0, none⟩ = some v ∧ w'.cell? ⟨K, 0, none⟩ = some (.string c.n) ∧ w'.cell? ⟨K, 1, none⟩ = some (.string c.v) ∧ w'.cell? ⟨K, 2, none⟩ = some (.string c.d) ∧ w'.cell? ⟨K, 3, none⟩ = some (.string c.p) ∧ w'.cell? ⟨K, 4, none⟩ = some (.bool c.ho) ∧ w'.cell? ⟨K, 5, none⟩ = some (.bool c.se) ∧ w'.cell? ⟨K, 6, none⟩ = some (.bool c.hi) ∧ w'.cell? ⟨K, 7, none⟩ = some (.int .i64 c.ex) ∧ w'.cell? ⟨K, 8, none⟩ = some (.int .i64 c.cr) ∧ Below wa.heap.size wa w'
theorem s10_start {jb K : Nat} {v nx : Value} {c : Ck} {wa : World} (hj : AtL wa jb [v, nx]) (hk : AtL wa K (ckL c)) : S10 jb K v c wa wa :=
  ⟨hj.c 0 rfl, hk.c 0 rfl, hk.c 1 rfl, hk.c 2 rfl, hk.c 3 rfl, hk.c 4 rfl, hk.c 5 rfl, hk.c 6 rfl, hk.c 7 rfl, hk.c 8 rfl, Below.refl _ _⟩
theorem s10_next {jb K : Nat} {v : Value} {c : Ck} {wa wX w3 : World} (hj : jb < wa.heap.size) (hk : K < wa.heap.size) (h : S10 jb K v c wa wX) (h3 : Below wX.heap.size wX w3) : S10 jb K v c wa w3 := by
  obtain ⟨a0, a1, a2, a3, a4, a5, a6, a7, a8, a9, hb⟩ := h
  have h1 := Nat.lt_of_lt_of_le hj hb.size
  have h2 := Nat.lt_of_lt_of_le hk hb.size
  have r := brl h3
  exact ⟨(r jb 0 h1).trans a0, (r K 0 h2).trans a1, (r K 1 h2).trans a2, (r K 2 h2).trans a3, (r K 3 h2).trans a4, (r K 4 h2).trans a5, (r K 5 h2).trans a6, (r K 6 h2).trans a7, (r K 7 h2).trans a8, (r K 8 h2).trans a9, hb.trans (h3.mono hb.size)⟩
theorem s10_below {jb K : Nat} {v : Value} {c : Ck} {wa wX : World} (h : S10 jb K v c wa wX) : Below wa.heap.size wa wX := h.2.2.2.2.2.2.2.2.2.2
theorem grownBy_of_drew {w w' : World} {row : Option Nat} (h : w.drew.grownBy w' row) : w.grownBy w' row := ⟨h.os, h.tape, h.output, h.size, h.block⟩
/-- an append of freshly built elements, as a step of a drawn region: where the new row lies -/
theorem step_app {P : Program} {T E size bytes : Nat} (ty : SlTy P T E size bytes) (W0 : World) {ops : Array Oper} {o : Oper} {a : Act} {K : Act → World → Prop} {Q : Exit → Act → World → Prop} {Ep : Prop}
    (hgd : o.guard = none) (s x : Operand) (ho : o.op = .call { callee := .builtin .append, args := #[s, x], argTypes := #[T, T] })
    (B : Nat) (v : Value) (n : Nat) (xs : List Value) (hs : a.eval s = v) (hown : W0.ownsRow B E size v n xs) (news : List Value) (m : Nat)
    (kk : Nat) (hx : a.eval x = .slice (some ⟨kk, 0, none⟩) m m) (hkk : kk = W0.heap.size) (hl : news.length = m * size) (h1 : ∀ u ∈ news, u.oneCell' = true)
    (hm : 0 < m) (hb : (n + m) * bytes ≤ 140737488355328) (hn : n + m ≤ 140737488355328) (hB : B ≤ W0.heap.size)
    (h : ∀ g cap w', w'.ownsRow B E size (.slice (some ⟨g, 0, none⟩) (n + m) cap) (n + m) (xs ++ news) → W0.grownBy w' v.ownBlock → (v.ownBlock = some g ∨ g = W0.heap.size + 1) → g < w'.heap.size → K (a.put o.dst (.slice (some ⟨g, 0, none⟩) (n + m) cap)) w') :
    if Region.wanted o (yielded ops a.tmps) = true then Oper.wp P o a (W0.alloc (.cells news.toArray E)).drew K Q else Ep := by
  subst hkk
  obtain ⟨hu, ⟨i, z, hi, hz, h2, h3, h4⟩, hp⟩ := ty
  exact step_append_lies _ hgd s x T ho B E i z size bytes hu hi hz h2 h3 h4 hp v n xs hs (hown.alloc _).drew ⟨W0.heap.size, 0, none⟩ m m news hx hl (fun j u hu => cells_new W0 news E j u hu) h1 hm (by unfold maxLen; omega) hb (by simp; omega) (W0.heap.size + 1) (by simp)
    fun g cap w' a1 a2 a3 a4 => h g cap w' a1 (grownBy_trans_alloc (grownBy_of_drew a2)) a3 a4
theorem one9 (c : Ck) : ∀ u ∈ ckL c, u.oneCell' = true := by
  intro u hu
  simp at hu
  rcases hu with rfl | rfl | rfl | rfl | rfl | rfl | rfl | rfl | rfl <;> rfl
/-- the same cells without a world to come from: what stays of them behind an append -/
def S2 (jb K : Nat) (v : Value) (c : Ck) (w' : World) : Prop := w'.cell? ⟨jb, 0, none⟩ = some v ∧ w'.cell? ⟨K, 0, none⟩ = some (.string c.n) ∧ w'.cell? ⟨K, 1, none⟩ = some (.string c.v) ∧ w'.cell? ⟨K, 2, none⟩ = some (.string c.d) ∧ w'.cell? ⟨K, 3, none⟩ = some (.string c.p) ∧ w'.cell? ⟨K, 4, none⟩ = some (.bool c.ho) ∧ w'.cell? ⟨K, 5, none⟩ = some (.bool c.se) ∧ w'.cell? ⟨K, 6, none⟩ = some (.bool c.hi) ∧ w'.cell? ⟨K, 7, none⟩ = some (.int .i64 c.ex) ∧ w'.cell? ⟨K, 8, none⟩ = some (.int .i64 c.cr)
theorem s2_start {jb K : Nat} {v nx : Value} {c : Ck} {wa : World} (hj : AtL wa jb [v, nx]) (hk : AtL wa K (ckL c)) : S2 jb K v c wa :=
  ⟨hj.c 0 rfl, hk.c 0 rfl, hk.c 1 rfl, hk.c 2 rfl, hk.c 3 rfl, hk.c 4 rfl, hk.c 5 rfl, hk.c 6 rfl, hk.c 7 rfl, hk.c 8 rfl⟩
theorem s2_of {jb K : Nat} {v : Value} {c : Ck} {w w' : World} (h : S2 jb K v c w) (r : ∀ b o u, b = jb ∨ b = K → w.cell? ⟨b, o, none⟩ = some u → w'.cell? ⟨b, o, none⟩ = some u) : S2 jb K v c w' := by
  obtain ⟨a0, a1, a2, a3, a4, a5, a6, a7, a8, a9⟩ := h
  exact ⟨r _ _ _ (.inl rfl) a0, r _ _ _ (.inr rfl) a1, r _ _ _ (.inr rfl) a2, r _ _ _ (.inr rfl) a3, r _ _ _ (.inr rfl) a4, r _ _ _ (.inr rfl) a5, r _ _ _ (.inr rfl) a6, r _ _ _ (.inr rfl) a7, r _ _ _ (.inr rfl) a8, r _ _ _ (.inr rfl) a9⟩
theorem s2_alloc {jb K : Nat} {v : Value} {c : Ck} {w : World} (o : Obj) (h : S2 jb K v c w) : S2 jb K v c (w.alloc o) := s2_of h fun b o' u _ hu => (brl ((Below.refl _ w).alloc (Nat.le_refl _) o) b o' (cell_lt hu)).trans hu
theorem s2_drew {jb K : Nat} {v : Value} {c : Ck} {w : World} (h : S2 jb K v c w) : S2 jb K v c w.drew := h
theorem s2_adrew {jb K : Nat} {v : Value} {c : Ck} {w : World} (o : Obj) (h : S2 jb K v c w.drew) : S2 jb K v c (w.alloc o).drew := s2_drew (s2_alloc o h)
theorem s2_grown {jb K : Nat} {v : Value} {c : Ck} {w w' : World} {row : Option Nat} (h : S2 jb K v c w) (hg : w.grownBy w' row) (h1 : row ≠ some jb) (h2 : row ≠ some K) : S2 jb K v c w' :=
  s2_of h fun b o u hb hu => (World.cell?_of_block (w := w) (a := ⟨b, o, none⟩) (hg.block b (cell_lt hu) (by rintro e; rcases hb with rfl | rfl; exact h1 e.symm; exact h2 e.symm))).trans hu
/-- of the blocks that lay there, all but one and a row's own are as they were -/
structure RowBut (n jb : Nat) (o : Option Nat) (w w' : World) : Prop where
  os : w'.os = w.os
  tape : w'.tape = w.tape
  output : w'.output = w.output
  size : w.heap.size ≤ w'.heap.size
  block : ∀ k, k < n → k ≠ jb → o ≠ some k → w'.heap[k]? = w.heap[k]?
theorem RowBut.refl (n jb : Nat) (o : Option Nat) (w : World) : RowBut n jb o w w := ⟨rfl, rfl, rfl, Nat.le_refl _, fun _ _ _ _ => rfl⟩
theorem RowBut.below {n jb B' : Nat} {o : Option Nat} {W w w' : World} (h : RowBut n jb o W w) (k : Below B' w w') (hB : n ≤ B') : RowBut n jb o W w' :=
  ⟨k.os.trans h.os, k.tape.trans h.tape, k.output.trans h.output, Nat.le_trans h.size k.size, fun i hi hb ho => (k.block i (by omega)).trans (h.block i hi hb ho)⟩
theorem RowBut.setCell {n jb : Nat} {o : Option Nat} {W w : World} (h : RowBut n jb o W w) (p : Addr) (hp : p.block = jb ∨ o = some p.block ∨ n ≤ p.block) (u : Value) : RowBut n jb o W (w.setCell p u) :=
  ⟨h.os, h.tape, h.output, by simp [World.setCell]; exact h.size, fun k hk hb ho => by
    have hne : k ≠ p.block := by
      rcases hp with hp | hp | hp
      · omega
      · exact fun e => ho (by rw [hp, e])
      · omega
    exact (Below.heap_setCell w p u k hne).trans (h.block k hk hb ho)⟩
theorem RowBut.grown {n jb : Nat} {o : Option Nat} {W w w' : World} (h : RowBut n jb o W w) (hg : w.grownBy w' o) (hn : n ≤ w.heap.size) : RowBut n jb o W w' :=
  ⟨hg.os.trans h.os, hg.tape.trans h.tape, hg.output.trans h.output, Nat.le_trans h.size hg.size, fun k hk hb ho => (hg.block k (by omega) (fun e => ho e.symm)).trans (h.block k hk hb ho)⟩
theorem RowBut.mono {n n' jb : Nat} {o : Option Nat} {w w' : World} (h : RowBut n jb o w w') (hn : n' ≤ n) : RowBut n' jb o w w' := ⟨h.os, h.tape, h.output, h.size, fun k hk => h.block k (by omega)⟩
theorem RowBut.trans {n jb : Nat} {o : Option Nat} {W w w' : World} (h : RowBut n jb o W w) (k : RowBut n jb o w w') : RowBut n jb o W w' := ⟨k.os.trans h.os, k.tape.trans h.tape, k.output.trans h.output, Nat.le_trans h.size k.size, fun x hx hb ho => (k.block x hx hb ho).trans (h.block x hx hb ho)⟩
theorem own_base {w : World} {b e s n g : Nat} {v : Value} {xs : List Value} (h : w.ownsRow b e s v n xs) (ho : v.ownBlock = some g) : b ≤ g := by
  rcases h.2 with ⟨rfl, _⟩ | ⟨g', cap, cur, rfl, hg, _⟩
  · simp [Value.ownBlock] at ho
  · simp only [Value.ownBlock, Option.some.injEq] at ho
    omega
/-- the same, said below the jar's memory -/
theorem RowBut.but {n jb B e s m : Nat} {w w' W : World} {v : Value} {xs : List Value} (h : RowBut n jb v.ownBlock w w') (ho : W.ownsRow B e s v m xs) (hn : B ≤ n) : BelowBut B jb w w' :=
  ⟨h.os, h.tape, h.output, h.size, fun k hk hb => h.block k (by omega) hb (fun e => by have := own_base ho e; omega)⟩
set_option maxRecDepth 20000 in
set_option maxHeartbeats 4000000 in
theorem store_new (c : Ck) (a b cc d e f : ByteArray) (now : Int) (w : World) (jb B : Nat) (v : Value) (l : List Ck) (nx : Int) (hJ : JarIn w jb B v l nx)
    (hno : idxI (sameB c) l = -1) (hex : exB c now = false) (hl : l.length < 200) (hn1 : -1152921504606846976 ≤ nx) (hn2 : nx ≤ 1152921504606846976) :
    Calls Tryz.prog 58 #[.pointer (some ⟨jb, 0, none⟩), ckA c, urlA a b cc d e f, .int .i64 now] w fun x w' => x = .returned (.int .i64 0) ∧ (∃ v', JarIn w' jb B v' (l ++ [{ c with cr := nx }]) (nx + 1)) ∧ RowBut w.heap.size jb v.ownBlock w w' := by
  have C0 := AtL.new w (ckL c) 29
  have C1 := C0.alloc (.cells (urlL a b cc d e f).toArray 23)
  have U1 := AtL.new (w.alloc (.cells (ckL c).toArray 29)) (urlL a b cc d e f) 23
  have hB1 : Below w.heap.size w ((w.alloc (.cells (ckL c).toArray 29)).alloc (.cells (urlL a b cc d e f).toArray 23)) := ((Below.refl _ w).alloc (Nat.le_refl _) _).alloc (by simp) _
  have J1 := hJ.below hB1 (Nat.le_refl _)
  have hjk : w.heap.size ≠ jb := fun h => by have := hJ.at_.1; omega
  have hvK := own_fresh hJ.own
  have hBw := hJ.le
  have CS := Lib.hid (fun w => same_is c w)
  have CX := Lib.hid (fun (w : World) (v : Value) (k : Nat) (hv : SlK ckL 9 w v l) (hA : AtL w k (ckL c)) => idxs_is (sameB c) 97 #[.pointer (some ⟨k, 0, none⟩)] (enters_of Tryz.func97 (by kernel_rfl) rfl) l v w hv (same_pred c k w hA) (by omega) (-1) hno)
  have CE := Lib.hid (fun w => expired_is c now false hex w)
  clear C0 hno hex hJ
  go_enter Tryz.func58, Tryz.ntmps58
  go_wp2_with fail
  obtain ⟨wA, hwA⟩ : ∃ wA : World, (w.alloc (.cells (ckL c).toArray 29)).alloc (.cells (urlL a b cc d e f).toArray 23) = wA := ⟨_, rfl⟩
  have C2 : AtL wA w.heap.size (ckL c) := by rw [← hwA]; exact C1
  have J2 : JarIn wA jb B v l nx := by rw [← hwA]; exact J1
  have hB2 : Below w.heap.size w wA := by rw [← hwA]; exact hB1
  have hwz : w.heap.size + 1 < wA.heap.size := by rw [← hwA]; simp
  clear C1 J1 hB1 U1
  obtain ⟨K, hK⟩ : ∃ K, w.heap.size = K := ⟨_, rfl⟩
  rw [hK] at C2 hB2 hjk hwz hvK hBw
  rw [hwA, hK]
  clear hwA
  have S1 := s10_start J2.at_ C2
  have hjl := J2.at_.1
  have hkl := C2.1
  go_region_held3 (fun w' => w'.cell? ⟨jb, 0, none⟩ = some v ∧ w'.cell? ⟨K, 0, none⟩ = some (.string c.n) ∧ w'.cell? ⟨K, 1, none⟩ = some (.string c.v) ∧ w'.cell? ⟨K, 2, none⟩ = some (.string c.d) ∧ w'.cell? ⟨K, 3, none⟩ = some (.string c.p) ∧ w'.cell? ⟨K, 4, none⟩ = some (.bool c.ho) ∧ w'.cell? ⟨K, 5, none⟩ = some (.bool c.se) ∧ w'.cell? ⟨K, 6, none⟩ = some (.bool c.hi) ∧ w'.cell? ⟨K, 7, none⟩ = some (.int .i64 c.ex) ∧ w'.cell? ⟨K, 8, none⟩ = some (.int .i64 c.cr) ∧ Below wA.heap.size wA w') (first | exact s10_next hjl hkl S1 (Below.refl _ wA).drew | (apply s10_next hjl hkl; rotate_left; assumption; assumption) | go_keep)
    (first
      | (go_at_call 70; with_reducible refine (CS.out _).mono ?_; rintro x w1 ⟨rfl, hb1, hA1⟩)
      | (go_at_call 69; with_reducible refine (CX.out _ v wA.heap.size ((J2.reads.below ((Below.refl _ wA).drew.trans hb1) (Nat.le_refl _))) (atL_drewk hA1)).mono ?_; rintro x w2 ⟨rfl, hb2⟩))
  have hB3 : Below wA.heap.size wA w2 := s10_below (by assumption)
  have J3 := J2.below hB3 (Nat.le_refl _)
  have C3 := C2.below hB3 hkl
  have hB4 := hB2.trans (hB3.mono (by omega))
  have hjl3 := J3.at_.1
  have hkl3 := C3.1
  have z0 := C3.c 0 rfl; have z1 := C3.c 1 rfl; have z2 := C3.c 2 rfl; have z3 := C3.c 3 rfl; have z4 := C3.c 4 rfl; have z5 := C3.c 5 rfl; have z6 := C3.c 6 rfl; have z7 := C3.c 7 rfl; have z8 := C3.c 8 rfl; have y0 := C3.f 0 rfl; have y1 := C3.f 1 rfl; have y2 := C3.f 2 rfl; have y3 := C3.f 3 rfl; have y4 := C3.f 4 rfl; have y5 := C3.f 5 rfl; have y6 := C3.f 6 rfl; have y7 := C3.f 7 rfl; have y8 := C3.f 8 rfl
  clear hb1 hb2 hA1
  go_wp2_with (go_at_call 60; with_reducible refine (CE.out _).mono ?_; rintro x w3 ⟨rfl, hb3⟩; have J4 := J3.below hb3 (Nat.le_refl _); have C4 := C3.next hb3; have z0 := C4.c 0 rfl; have z1 := C4.c 1 rfl; have z2 := C4.c 2 rfl; have z3 := C4.c 3 rfl; have z4 := C4.c 4 rfl; have z5 := C4.c 5 rfl; have z6 := C4.c 6 rfl; have z7 := C4.c 7 rfl; have z8 := C4.c 8 rfl; have y0 := C4.f 0 rfl; have y1 := C4.f 1 rfl; have y2 := C4.f 2 rfl; have y3 := C4.f 3 rfl; have y4 := C4.f 4 rfl; have y5 := C4.f 5 rfl; have y6 := C4.f 6 rfl; have y7 := C4.f 7 rfl; have y8 := C4.f 8 rfl; have j0 := J4.at_.c 0 rfl; have j1 := J4.at_.c 1 rfl; have i0 := J4.at_.f 0 rfl; have i1 := J4.at_.f 1 rfl; have kl4 := C4.lt; have jl4 := J4.at_.lt)
  have JF := (J4.at_.far ⟨K, 8, none⟩ (.int .i64 nx) hjk).set 1 (.int .i64 (nx + 1))
  have CF : AtL ((w3.setCell ⟨K, 8, none⟩ (.int .i64 nx)).setCell ⟨jb, 1, none⟩ (.int .i64 (nx + 1))) K (ckL { c with cr := nx }) := (C4.set 8 (.int .i64 nx)).far ⟨jb, 1, none⟩ (.int .i64 (nx + 1)) (Ne.symm hjk)
  have OF := ownsRow_setCell_other (a := ⟨jb, 1, none⟩) (ownsRow_setCell_other (a := ⟨K, 8, none⟩) J4.own hvK (.int .i64 nx)) J4.ne (.int .i64 (nx + 1))
  have hF0 := J4.at_.1
  obtain ⟨wF, hwF⟩ : ∃ wF : World, (w3.setCell ⟨K, 8, none⟩ (.int .i64 nx)).setCell ⟨jb, 1, none⟩ (.int .i64 (nx + 1)) = wF := ⟨_, rfl⟩
  have hFs : wF.heap.size = w3.heap.size := by rw [← hwF]; simp
  rw [hwF] at JF CF OF
  rw [hwF]
  have hBF : B ≤ wF.heap.size := by rw [hFs]; exact J4.le
  have HFS := Lib.hid hFs
  clear hFs y0 y1 y2 y3 y4 y5 y6 y7 y8 z0 z1 z2 z3 z4 z5 z6 z7 z8 j0 j1 i0 i1
  have z0 := CF.c 0 rfl; have z1 := CF.c 1 rfl; have z2 := CF.c 2 rfl; have z3 := CF.c 3 rfl; have z4 := CF.c 4 rfl; have z5 := CF.c 5 rfl; have z6 := CF.c 6 rfl; have z7 := CF.c 7 rfl; have z8 := CF.c 8 rfl
  have j0 := JF.c 0 rfl
  have i0 := JF.f 0 rfl
  have kF := CF.lt
  have jF := JF.lt
  go_region_law (first
      | (refine step_app slC wF (by rfl) (.tmp 34) (.tmp 36) (by rfl) B v l.length (cellsK ckL l) (by rfl) OF (ckL { c with cr := nx }) 1 wF.heap.size (by rfl) rfl (by rfl) (one9 _) (by omega) (by omega) (by omega) hBF ?_; intro g cap w5 hown5 hgrow hat hlt; have JG := JF.grown hgrow J4.ne; have j0 := JG.c 0 rfl; have i0 := JG.f 0 rfl; have jl5 := JG.lt))
  all_goals
    go_wp2_with fail
    go_ret
    have hgj : g ≠ jb := fun e => by
      rcases hat with h | h
      · exact J4.ne (by rw [h, e])
      · omega
    have hne : (Value.slice (some ⟨g, 0, none⟩) (l.length + 1) cap).ownBlock ≠ some jb := by
      simp only [Value.ownBlock, ne_eq, Option.some.injEq]; exact hgj
    have hb0 : RowBut K jb v.ownBlock w wF := by
      have h1 := ((RowBut.refl K jb v.ownBlock w).below hB4 (Nat.le_refl _)).below hb3 (Nat.le_of_lt hkl3)
      have h2 := (h1.setCell ⟨K, 8, none⟩ (Or.inr (Or.inr (Nat.le_refl _))) (.int .i64 nx)).setCell ⟨jb, 1, none⟩ (Or.inl rfl) (.int .i64 (nx + 1))
      rwa [hwF] at h2
    exact ⟨rfl, ⟨_, ⟨JG.set 0 _, own_eq (ownsRow_setCell_other (a := ⟨jb, 0, none⟩) hown5 hne _) (by simp) (by rw [cellsK_app]; rfl), hne, by rw [World.size_setCell]; exact Nat.le_trans hBF hgrow.size⟩⟩, (hb0.grown hgrow (Nat.le_of_lt kF)).setCell ⟨jb, 0, none⟩ (Or.inl rfl) _⟩
end Go.Proofs.YtgjooigolgdocaaGreatDoor

/- Cookies: storing an expired cookie that is not there; Set on an empty jar. -/
namespace Go.Proofs.YtgjooigolgdocaaGreatDoor
set_option linter.unusedVariables false
set_option linter.unusedSimpArgs false
open Go.RowKit

/-- slices.DeleteFunc where nothing is to be deleted -/
theorem del_none (p : Ck → Bool) (g : Nat) (cb : Array Value) (eg : ∀ args w, (callFunc g args).run Tryz.prog w = .ok (.enter g args) w) (l : List Ck) (v : Value) (w : World)
    (hv : SlK ckL 9 w v l) (hp : PredBelow Tryz.prog g cb ckA p w) (hn : l.length ≤ 1000000) (hR : idxI p l = -1) :
    Calls Tryz.prog 66 #[v, .func (.func g) #[] cb] w fun e w' => e = .returned v ∧ Below w.heap.size w w' := by
  have CX := Lib.hid (idxs_is p g cb eg l v w hv hp hn (-1) hR)
  clear hv hp hR
  go_enter Tryz.func66, Tryz.ntmps66
  go_wp2_with (go_at_call 69; with_reducible refine CX.out.mono ?_; rintro x w1 ⟨rfl, hb1⟩)
  go_ret
  exact ⟨rfl, hb1⟩
theorem s2_below {jb K : Nat} {v : Value} {c : Ck} {w w' : World} (h : S2 jb K v c w) (hb : Below w.heap.size w w') : S2 jb K v c w' := s2_of h fun b o u _ hu => (brl hb b o (cell_lt hu)).trans hu
theorem s2_set {jb K : Nat} {v : Value} {c : Ck} {w : World} (h : S2 jb K v c w) (hne : jb ≠ K) : S2 jb K v c (w.setCell ⟨jb, 0, none⟩ v) := s2_of h fun b o u hb hu => by
  by_cases e : (⟨jb, 0, none⟩ : Addr) = ⟨b, o, none⟩
  · have e1 : b = jb ∧ o = 0 := by injection e with e1 e2; exact ⟨e1.symm, e2.symm⟩
    obtain ⟨rfl, rfl⟩ := e1
    have : some u = some v := hu.symm.trans h.1
    injection this with this
    subst this
    exact World.cell?_setCell_same' w _ _ (by rw [hu]; rfl)
  · rw [World.cell?_setCell_other w _ _ v e]; exact hu
set_option maxRecDepth 20000 in
set_option maxHeartbeats 4000000 in
theorem store_gone (c : Ck) (a b cc d e f : ByteArray) (now : Int) (w : World) (jb B : Nat) (v : Value) (l : List Ck) (nx : Int) (hJ : JarIn w jb B v l nx)
    (hno : idxI (sameB c) l = -1) (hex : exB c now = true) (hl : l.length < 1000) :
    Calls Tryz.prog 58 #[.pointer (some ⟨jb, 0, none⟩), ckA c, urlA a b cc d e f, .int .i64 now] w fun x w' => x = .returned (.int .i64 0) ∧ JarIn w' jb B v l nx ∧ RowBut w.heap.size jb v.ownBlock w w' := by
  obtain ⟨sa, sc, rfl, _⟩ := hJ.reads.shape
  have C0 := AtL.new w (ckL c) 29
  have C1 := C0.alloc (.cells (urlL a b cc d e f).toArray 23)
  have hB1 : Below w.heap.size w ((w.alloc (.cells (ckL c).toArray 29)).alloc (.cells (urlL a b cc d e f).toArray 23)) := ((Below.refl _ w).alloc (Nat.le_refl _) _).alloc (by simp) _
  have J1 := hJ.below hB1 (Nat.le_refl _)
  have hjk : w.heap.size ≠ jb := fun h => by have := hJ.at_.1; omega
  have hBw := hJ.le
  have CS := Lib.hid (fun w => same_is c w)
  have CX := Lib.hid (fun (w : World) (v : Value) (k : Nat) (hv : SlK ckL 9 w v l) (hA : AtL w k (ckL c)) => idxs_is (sameB c) 97 #[.pointer (some ⟨k, 0, none⟩)] (enters_of Tryz.func97 (by kernel_rfl) rfl) l v w hv (same_pred c k w hA) (by omega) (-1) hno)
  have CD := Lib.hid (fun (w : World) (v : Value) (k : Nat) (hv : SlK ckL 9 w v l) (hA : AtL w k (ckL c)) => del_none (sameB c) 97 #[.pointer (some ⟨k, 0, none⟩)] (enters_of Tryz.func97 (by kernel_rfl) rfl) l v w hv (same_pred c k w hA) (by omega) hno)
  have CE := Lib.hid (fun w => expired_is c now true hex w)
  clear C0 hno hex hJ
  go_enter Tryz.func58, Tryz.ntmps58
  go_wp2_with fail
  obtain ⟨wA, hwA⟩ : ∃ wA : World, (w.alloc (.cells (ckL c).toArray 29)).alloc (.cells (urlL a b cc d e f).toArray 23) = wA := ⟨_, rfl⟩
  have C2 : AtL wA w.heap.size (ckL c) := by rw [← hwA]; exact C1
  have J2 : JarIn wA jb B (.slice sa l.length sc) l nx := by rw [← hwA]; exact J1
  have hB2 : Below w.heap.size w wA := by rw [← hwA]; exact hB1
  have hwz : w.heap.size + 1 < wA.heap.size := by rw [← hwA]; simp
  clear C1 J1 hB1
  obtain ⟨K, hK⟩ : ∃ K, w.heap.size = K := ⟨_, rfl⟩
  rw [hK] at C2 hB2 hjk hwz hBw
  rw [hwA, hK]
  clear hwA
  have S1 := s10_start J2.at_ C2
  have hjl := J2.at_.1
  have hkl := C2.1
  go_region_held3 (fun w' => w'.cell? ⟨jb, 0, none⟩ = some (.slice sa l.length sc) ∧ w'.cell? ⟨K, 0, none⟩ = some (.string c.n) ∧ w'.cell? ⟨K, 1, none⟩ = some (.string c.v) ∧ w'.cell? ⟨K, 2, none⟩ = some (.string c.d) ∧ w'.cell? ⟨K, 3, none⟩ = some (.string c.p) ∧ w'.cell? ⟨K, 4, none⟩ = some (.bool c.ho) ∧ w'.cell? ⟨K, 5, none⟩ = some (.bool c.se) ∧ w'.cell? ⟨K, 6, none⟩ = some (.bool c.hi) ∧ w'.cell? ⟨K, 7, none⟩ = some (.int .i64 c.ex) ∧ w'.cell? ⟨K, 8, none⟩ = some (.int .i64 c.cr) ∧ Below wA.heap.size wA w') (first | exact s10_next hjl hkl S1 (Below.refl _ wA).drew | (apply s10_next hjl hkl; rotate_left; assumption; assumption) | go_keep)
    (first
      | (go_at_call 70; with_reducible refine (CS.out _).mono ?_; rintro x w1 ⟨rfl, hb1, hA1⟩)
      | (go_at_call 69; with_reducible refine (CX.out _ (.slice sa l.length sc) wA.heap.size ((J2.reads.below ((Below.refl _ wA).drew.trans hb1) (Nat.le_refl _))) (atL_drewk hA1)).mono ?_; rintro x w2 ⟨rfl, hb2⟩))
  have hB3 : Below wA.heap.size wA w2 := s10_below (by assumption)
  have J3 := J2.below hB3 (Nat.le_refl _)
  have C3 := C2.below hB3 hkl
  have hB4 := hB2.trans (hB3.mono (by omega))
  have hjl3 := J3.at_.1
  have hkl3 := C3.1
  have z0 := C3.c 0 rfl; have z1 := C3.c 1 rfl; have z2 := C3.c 2 rfl; have z3 := C3.c 3 rfl; have z4 := C3.c 4 rfl; have z5 := C3.c 5 rfl; have z6 := C3.c 6 rfl; have z7 := C3.c 7 rfl; have z8 := C3.c 8 rfl; have y0 := C3.f 0 rfl; have y1 := C3.f 1 rfl; have y2 := C3.f 2 rfl; have y3 := C3.f 3 rfl; have y4 := C3.f 4 rfl; have y5 := C3.f 5 rfl; have y6 := C3.f 6 rfl; have y7 := C3.f 7 rfl; have y8 := C3.f 8 rfl
  clear hb1 hb2 hA1
  go_wp2_with (go_at_call 60; with_reducible refine (CE.out _).mono ?_; rintro x w3 ⟨rfl, hb3⟩; have J4 := J3.below hb3 (Nat.le_refl _); have C4 := C3.next hb3; have kl4 := C4.lt; have S4 := s2_start J4.at_ C4; have j0 := J4.at_.c 0 rfl; have i0 := J4.at_.f 0 rfl; have jl4 := J4.at_.lt)
  clear y0 y1 y2 y3 y4 y5 y6 y7 y8 z0 z1 z2 z3 z4 z5 z6 z7 z8 j0 i0
  go_region_held3 (fun w' => w'.cell? ⟨jb, 0, none⟩ = some (.slice sa l.length sc) ∧ w'.cell? ⟨K, 0, none⟩ = some (.string c.n) ∧ w'.cell? ⟨K, 1, none⟩ = some (.string c.v) ∧ w'.cell? ⟨K, 2, none⟩ = some (.string c.d) ∧ w'.cell? ⟨K, 3, none⟩ = some (.string c.p) ∧ w'.cell? ⟨K, 4, none⟩ = some (.bool c.ho) ∧ w'.cell? ⟨K, 5, none⟩ = some (.bool c.se) ∧ w'.cell? ⟨K, 6, none⟩ = some (.bool c.hi) ∧ w'.cell? ⟨K, 7, none⟩ = some (.int .i64 c.ex) ∧ w'.cell? ⟨K, 8, none⟩ = some (.int .i64 c.cr)) (first | exact s2_drew S4 | (exact s2_below (s2_drew S4) (by assumption)) | (exact s2_below (s2_below (s2_drew S4) hb5) hb6) | (exact s2_set (c := c) (s2_below (s2_below (s2_drew S4) hb5) hb6) (Ne.symm hjk)) | go_keep)
    (first
      | (go_at_call 70; with_reducible refine (CS.out _).mono ?_; rintro x w5 ⟨rfl, hb5, hA5⟩; have J5 := J4.below ((Below.refl _ w3).drew.trans hb5) (Nat.le_refl _))
      | (go_at_call 66; with_reducible refine (CD.out _ (.slice sa l.length sc) w3.heap.size J5.reads (atL_drewk hA5)).mono ?_; rintro x w6 ⟨rfl, hb6⟩; have J6 := J5.below hb6 (Nat.le_refl _); have j0 := J6.at_.c 0 rfl; have i0 := J6.at_.f 0 rfl; have jl6 := J6.at_.lt))
  go_wp2_with fail
  go_ret
  have h1 := ((RowBut.refl K jb (Value.slice sa l.length sc).ownBlock w).below hB4 (Nat.le_refl _)).below hb3 (Nat.le_of_lt hkl3)
  have h2 := (h1.below ((Below.refl _ w3).drew.trans hb5) (Nat.le_of_lt kl4)).below hb6 (Nat.le_of_lt (Nat.lt_of_lt_of_le kl4 ((Below.refl _ w3).drew.trans hb5).size))
  exact ⟨rfl, ⟨J6.at_.set 0 _, ownsRow_setCell_other (a := ⟨jb, 0, none⟩) J6.own J6.ne _, J6.ne, by rw [World.size_setCell]; exact J6.le⟩, (by rw [hK]; exact h2.setCell ⟨jb, 0, none⟩ (Or.inl rfl) _)⟩
end Go.Proofs.YtgjooigolgdocaaGreatDoor

/- Cookies: Set. -/
namespace Go.Proofs.YtgjooigolgdocaaGreatDoor
set_option linter.unusedVariables false
set_option linter.unusedSimpArgs false
open Go.RowKit

/-- Parse, its result written out -/
theorem cparse_ex (s a b cc d e f : ByteArray) (now : Int) (T : Bool) (hT : takesB (u6 a b cc d e f) = T) (c : Ck) (er : Int) (hR : parseC s.data.toList T a b d now = (c, er)) (w : World) (hs : s.size ≤ 100000) (hz : USize 40000 a b cc d e f) (hM : MaxAt w) :
    Calls Tryz.prog 12 #[.string s, urlA a b cc d e f, .int .i64 now] w fun x w' => x = .returned (.tuple #[ckA c, .int .i64 er]) ∧ Below w.heap.size w w' := cparse_is s a b cc d e f now T hT (c, er) hR w hs hz hM
theorem set_err (s a b cc d e f : ByteArray) (now : Int) (T : Bool) (hT : takesB (u6 a b cc d e f) = T) (c : Ck) (er : Int) (hR : parseC s.data.toList T a b d now = (c, er)) (hne : er ≠ 0) (w : World) (hs : s.size ≤ 100000) (hz : USize 40000 a b cc d e f) (hM : MaxAt w) (jb : Nat) :
    Calls Tryz.prog 20 #[.pointer (some ⟨jb, 0, none⟩), .string s, urlA a b cc d e f, .int .i64 now] w fun x w' => x = .returned (.int .i64 er) ∧ Below w.heap.size w w' := by
  have CP := Lib.hid (fun w hM => cparse_ex s a b cc d e f now T hT c er hR w hs hz hM)
  have HM := Lib.hid hM
  obtain ⟨n, v, dd, p, ho, se, hi, ex, cr⟩ := c
  clear hR hT hs hz hM
  go_enter Tryz.func20, Tryz.ntmps20
  go_wp2_with (go_at_call 12; with_reducible refine (CP.out _ (HM.out.below ((Below.refl _ w).alloc (Nat.le_refl _) _) (Nat.le_refl _))).mono ?_; rintro x w1 ⟨rfl, hb1⟩)
  go_ret
  exact ⟨rfl, ((((Below.refl _ w).alloc (Nat.le_refl _) _).trans (hb1.mono (by simp))).alloc (by have := hb1.size; simp at this; omega) _)⟩
/-- Set where Parse gives a cookie: what store does -/
theorem set_ok (s a b cc d e f : ByteArray) (now : Int) (T : Bool) (hT : takesB (u6 a b cc d e f) = T) (c : Ck) (hR : parseC s.data.toList T a b d now = (c, 0)) (w : World) (hs : s.size ≤ 100000) (hz : USize 40000 a b cc d e f) (hM : MaxAt w) (jb : Nat)
    (er : Int) (Q : World → Prop)
    (hst : ∀ w', Below w.heap.size w w' → Calls Tryz.prog 58 #[.pointer (some ⟨jb, 0, none⟩), ckA c, urlA a b cc d e f, .int .i64 now] w' fun x w'' => x = .returned (.int .i64 er) ∧ Q w'') :
    Calls Tryz.prog 20 #[.pointer (some ⟨jb, 0, none⟩), .string s, urlA a b cc d e f, .int .i64 now] w fun x w' => x = .returned (.int .i64 er) ∧ Q w' := by
  have CP := Lib.hid (fun w hM => cparse_ex s a b cc d e f now T hT c 0 hR w hs hz hM)
  have HM := Lib.hid hM
  have ST := Lib.hid hst
  have U0 := AtL.new w (urlL a b cc d e f) 23
  have hb0 : Below w.heap.size w (w.alloc (.cells (urlL a b cc d e f).toArray 23)) := (Below.refl _ w).alloc (Nat.le_refl _) _
  obtain ⟨n, v, dd, p, ho, se, hi, ex, cr⟩ := c
  clear hR hT hs hz hM hst
  go_enter Tryz.func20, Tryz.ntmps20
  go_wp2_with (first
    | (go_at_call 12; with_reducible refine (CP.out _ (HM.out.below hb0 (Nat.le_refl _))).mono ?_; rintro x w1 ⟨rfl, hb1⟩; have U1 := (U0.next hb1).alloc (.cells (ckL ⟨n, v, dd, p, ho, se, hi, ex, cr⟩).toArray 29); have hb2 := (hb0.trans (hb1.mono (by simp))).alloc (Nat.le_of_lt (U0.next hb1).lt) (.cells (ckL ⟨n, v, dd, p, ho, se, hi, ex, cr⟩).toArray 29); have z0 := U1.c 0 rfl; have z1 := U1.c 1 rfl; have z2 := U1.c 2 rfl; have z3 := U1.c 3 rfl; have z4 := U1.c 4 rfl; have z5 := U1.c 5 rfl)
    | (go_at_call 58; with_reducible refine (ST.out _ hb2).mono ?_; rintro x w2 ⟨rfl, hq⟩))
  go_ret
  exact ⟨rfl, hq⟩
end Go.Proofs.YtgjooigolgdocaaGreatDoor
