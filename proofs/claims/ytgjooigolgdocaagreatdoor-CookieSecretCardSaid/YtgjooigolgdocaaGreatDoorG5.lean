import Derived.Test.YtgjooigolgdocaaGreatDoorG2
import Derived.BigQuiet
/- Cookies: few, Alike, Same. -/
namespace Go.Proofs.YtgjooigolgdocaaGreatDoor
set_option linter.unusedVariables false
set_option linter.unusedSimpArgs false
open Go.RowKit

def lenC (c : Ck) : Nat := c.n.size + c.v.size + c.d.size + c.p.size
def fewB (l : List Ck) (nx : Int) : Bool := (l.all fun c => decide (lenC c ≤ 400)) && decide (l.length ≤ 202) && decide (nx < 1152921504606846976) && decide (nx > -1152921504606846976)
theorem few_fact {l : List Ck} {nx : Int} (h : fewB l nx = true) : (∀ c ∈ l, lenC c ≤ 400) ∧ l.length ≤ 202 ∧ nx < 1152921504606846976 ∧ nx > -1152921504606846976 := by
  simpa [fewB, and_assoc] using h
set_option maxRecDepth 20000 in
set_option maxHeartbeats 1000000 in
theorem cfew_is (l : List Ck) (v : Value) (nx : Int) (w : World) (hv : SlK ckL 9 w v l) (hl : l.length ≤ 9223372036854775807) (hsz : ∀ c ∈ l, lenC c ≤ 4611686018427387904) (R : Bool) (hR : fewB l nx = R) :
    Calls Tryz.prog 22 #[.agg #[v, .int .i64 nx]] w fun x w' => x = .returned (.bool R) ∧ Below w.heap.size w w' := by
  have HR := Lib.hid hR
  have HZ := Lib.hid hsz
  have hb0 : Below w.heap.size w (w.alloc (.cells #[v, .int .i64 nx] 38)) := (Below.refl _ w).alloc (Nat.le_refl _) _
  have J0 := AtL.new w [v, .int .i64 nx] 38
  have hv1 := hv.below hb0 (Nat.le_refl _)
  obtain ⟨sa, sc, rfl, _⟩ := hv.shape
  clear hR hsz hv
  go_enter Tryz.func22, Tryz.ntmps22
  go_wp2_with fail
  obtain ⟨w1, hw1⟩ : ∃ w1 : World, w.alloc (.cells #[.slice sa l.length sc, .int .i64 nx] 38) = w1 := ⟨_, rfl⟩
  obtain ⟨J, hJ⟩ : ∃ J, w.heap.size = J := ⟨_, rfl⟩
  rw [hw1] at hb0 J0 hv1
  rw [hJ] at J0
  rw [hw1, hJ]
  clear hw1
  have HJ := Lib.hid hJ
  clear hJ
  have hjl := J0.lt
  go_loopw [8] (fun iv wr => ∃ k : Nat, k ≤ l.length ∧ iv = .int .i64 k ∧ ((l.drop k).all fun c => decide (lenC c ≤ 400)) = (l.all fun c => decide (lenC c ≤ 400)) ∧ Below w1.heap.size w1 wr) (fun iv _ => l.length - (intOf iv).toNat)
  case atStart => exact ⟨0, Nat.zero_le _, rfl, rfl, Below.refl _ _⟩
  case round =>
    obtain ⟨kk, hk, rfl, hf, hbw⟩ := hrel
    have HF := Lib.hid hf
    clear hf
    have J2 := J0.below hbw hjl
    by_cases hlt : kk < l.length
    · rcases hv1 with ⟨rfl, _⟩ | ⟨_, b0, off, cap, he, hc1, hc2, hc3, hcell⟩
      · simp at hlt
      injection he with e1 e2 e3
      subst e1 e3
      have hsz := HZ.out _ (List.getElem_mem hlt)
      have cc : ∀ j u, (ckL l[kk])[j]? = some u → wr.cell? ⟨b0, off + kk * 9 + j, none⟩ = some u := fun j u hu => (hbw.cell (p := ⟨b0, off + kk * 9 + j, none⟩) hc3).trans (hcell kk hlt j u hu)
      obtain ⟨y, hy⟩ : ∃ y, l[kk] = y := ⟨_, rfl⟩
      rw [hy] at cc
      have HY := Lib.hid hy
      clear hy
      obtain ⟨yn, yv, yd, yp, yho, yse, yhi, yex, ycr⟩ := y
      have c0 := cc 0 _ rfl
      have c1 := cc 1 _ rfl
      have c2 := cc 2 _ rfl
      have c3 := cc 3 _ rfl
      have c4 := cc 4 _ rfl
      have c5 := cc 5 _ rfl
      have c6 := cc 6 _ rfl
      have c7 := cc 7 _ rfl
      have c8 := cc 8 _ rfl
      simp only [Nat.add_zero] at c0
      clear cc
      rw [HY.out] at hsz
      have hsz : yn.size + yv.size + yd.size + yp.size ≤ 4611686018427387904 := hsz
      have hki : (kk : Int) < (l.length : Int) := by omega
      have hF2 : (decide (yn.size + yv.size + yd.size + yp.size ≤ 400) && ((l.drop (kk + 1)).all fun c => decide (lenC c ≤ 400))) = (l.all fun c => decide (lenC c ≤ 400)) := by
        rw [← HF.out, List.drop_eq_getElem_cons hlt, List.all_cons, HY.out]; rfl
      by_cases h4 : yn.size + yv.size + yd.size + yp.size ≤ 400
      · rw [decide_eq_true h4, Bool.true_and] at hF2
        have HF2 := Lib.hid hF2
        have h4i : ¬ (yn.size : Int) + yv.size + yd.size + yp.size > 400 := by omega
        clear hF2
        go_wp2_with fail
        go_roundw
        case rel => exact ⟨kk + 1, by omega, by go_num, HF2.out, hbw.alloc hbw.size _⟩
        case measure => simp [intOf]; omega
      · rw [decide_eq_false h4, Bool.false_and] at hF2
        have h4i : (yn.size : Int) + yv.size + yd.size + yp.size > 400 := by omega
        have hRf : R = false := by rw [← HR.out, fewB, ← hF2]; rfl
        subst hRf
        clear hF2
        go_wp2_with fail
        go_ret
        obtain rfl := HJ.out
        exact ⟨rfl, (hb0.trans (hbw.mono (Nat.le_of_lt hjl))).alloc (by have := hbw.size; omega) _⟩
    · obtain rfl : kk = l.length := by omega
      have hall : (l.all fun c => decide (lenC c ≤ 400)) = true := by rw [← HF.out, List.drop_eq_nil_of_le (Nat.le_refl _)]; rfl
      have hR2 : (decide (l.length ≤ 202) && decide (nx < 1152921504606846976) && decide (nx > -1152921504606846976)) = R := by rw [← HR.out, fewB, hall, Bool.true_and]
      have hB : Below w.heap.size w wr := hb0.trans (hbw.mono (by rw [HJ.out]; omega))
      have j0 := J2.c 0 rfl; have j1 := J2.c 1 rfl
      have hjl2 := J2.lt
      have HR2 := Lib.hid hR2
      clear hR2 hall
      by_cases h1 : l.length ≤ 202
      · have h1i : (l.length : Int) ≤ 202 := by omega
        by_cases h2 : nx < 1152921504606846976
        · by_cases h3 : nx > -1152921504606846976
          · go_wp2_with fail
            go_ret
            exact ⟨ret_bool (by rw [← HR2.out, decide_eq_true h1, decide_eq_true h2, decide_eq_true h3]; rfl), hB⟩
          · have h3' : ¬ -1152921504606846976 < nx := h3
            go_wp2_with fail
            go_ret
            exact ⟨ret_bool (by rw [← HR2.out, decide_eq_true h1, decide_eq_true h2, decide_eq_false (by omega : ¬ nx > -1152921504606846976)]; rfl), hB⟩
        · go_wp2_with fail
          go_ret
          exact ⟨ret_bool (by rw [← HR2.out, decide_eq_true h1, decide_eq_false (by omega : ¬ nx < 1152921504606846976)]; rfl), hB⟩
      · have h1i : ¬ (l.length : Int) ≤ 202 := by omega
        go_wp2_with fail
        go_ret
        exact ⟨ret_bool (by rw [← HR2.out, decide_eq_false h1]; rfl), hB⟩
end Go.Proofs.YtgjooigolgdocaaGreatDoor

/- Cookies: few at any lengths. -/
namespace Go.Proofs.YtgjooigolgdocaaGreatDoor
set_option linter.unusedVariables false
set_option linter.unusedSimpArgs false
open Go.RowKit

def FewQ (l : List Ck) (nx : Int) (w : World) (x : Ending) (w' : World) : Prop := ∃ R : Bool, x = .returned (.bool R) ∧ (R = true → l.length ≤ 202 ∧ nx < 1152921504606846976 ∧ nx > -1152921504606846976) ∧ Below w.heap.size w w'
set_option maxRecDepth 20000 in
set_option maxHeartbeats 1000000 in
theorem cfew_wild (l : List Ck) (v : Value) (nx : Int) (w : World) (hv : SlK ckL 9 w v l) (hl : l.length ≤ 9223372036854775807) :
    Calls Tryz.prog 22 #[.agg #[v, .int .i64 nx]] w (FewQ l nx w) := by
  have hb0 : Below w.heap.size w (w.alloc (.cells #[v, .int .i64 nx] 38)) := (Below.refl _ w).alloc (Nat.le_refl _) _
  have J0 := AtL.new w [v, .int .i64 nx] 38
  have hv1 := hv.below hb0 (Nat.le_refl _)
  obtain ⟨sa, sc, rfl, _⟩ := hv.shape
  clear hv
  go_enter Tryz.func22, Tryz.ntmps22
  go_wp2_with fail
  obtain ⟨w1, hw1⟩ : ∃ w1 : World, w.alloc (.cells #[.slice sa l.length sc, .int .i64 nx] 38) = w1 := ⟨_, rfl⟩
  obtain ⟨J, hJ⟩ : ∃ J, w.heap.size = J := ⟨_, rfl⟩
  rw [hw1] at hb0 J0 hv1
  rw [hJ] at J0
  rw [hw1, hJ]
  clear hw1
  have HJ := Lib.hid hJ
  clear hJ
  have hjl := J0.lt
  go_loopw [8] (fun iv wr => ∃ k : Nat, k ≤ l.length ∧ iv = .int .i64 k ∧ Below w1.heap.size w1 wr) (fun iv _ => l.length - (intOf iv).toNat)
  case atStart => exact ⟨0, Nat.zero_le _, rfl, Below.refl _ _⟩
  case round =>
    obtain ⟨kk, hk, rfl, hbw⟩ := hrel
    have J2 := J0.below hbw hjl
    by_cases hlt : kk < l.length
    · rcases hv1 with ⟨rfl, _⟩ | ⟨_, b0, off, cap, he, hc1, hc2, hc3, hcell⟩
      · simp at hlt
      injection he with e1 e2 e3
      subst e1 e3
      have cc : ∀ j u, (ckL l[kk])[j]? = some u → wr.cell? ⟨b0, off + kk * 9 + j, none⟩ = some u := fun j u hu => (hbw.cell (p := ⟨b0, off + kk * 9 + j, none⟩) hc3).trans (hcell kk hlt j u hu)
      obtain ⟨y, hy⟩ : ∃ y, l[kk] = y := ⟨_, rfl⟩
      rw [hy] at cc
      have HY := Lib.hid hy
      clear hy
      obtain ⟨yn, yv, yd, yp, yho, yse, yhi, yex, ycr⟩ := y
      have c0 := cc 0 _ rfl
      have c1 := cc 1 _ rfl
      have c2 := cc 2 _ rfl
      have c3 := cc 3 _ rfl
      have c4 := cc 4 _ rfl
      have c5 := cc 5 _ rfl
      have c6 := cc 6 _ rfl
      have c7 := cc 7 _ rfl
      have c8 := cc 8 _ rfl
      simp only [Nat.add_zero] at c0
      clear cc
      have hki : (kk : Int) < (l.length : Int) := by omega
      go_wp2_with fail
      · go_ret
        obtain rfl := HJ.out
        exact ⟨false, rfl, fun h => (by cases h), (hb0.trans (hbw.mono (Nat.le_of_lt hjl))).alloc (by have := hbw.size; omega) _⟩
      · go_roundw
        case rel => exact ⟨kk + 1, by omega, by go_num, hbw.alloc hbw.size _⟩
        case measure => simp [intOf]; omega
    · obtain rfl : kk = l.length := by omega
      have hB : Below w.heap.size w wr := hb0.trans (hbw.mono (by rw [HJ.out]; omega))
      have j0 := J2.c 0 rfl; have j1 := J2.c 1 rfl
      have hjl2 := J2.lt
      by_cases h1 : l.length ≤ 202
      · have h1i : (l.length : Int) ≤ 202 := by omega
        by_cases h2 : nx < 1152921504606846976
        · by_cases h3 : nx > -1152921504606846976
          · go_wp2_with fail
            go_ret
            exact ⟨true, rfl, fun _ => ⟨h1, h2, h3⟩, hB⟩
          · have h3' : ¬ -1152921504606846976 < nx := h3
            go_wp2_with fail
            go_ret
            exact ⟨false, rfl, fun h => (by cases h), hB⟩
        · go_wp2_with fail
          go_ret
          exact ⟨false, rfl, fun h => (by cases h), hB⟩
      · have h1i : ¬ (l.length : Int) ≤ 202 := by omega
        go_wp2_with fail
        go_ret
        exact ⟨false, rfl, fun h => (by cases h), hB⟩
end Go.Proofs.YtgjooigolgdocaaGreatDoor

/- Cookies: Alike, Same. -/
namespace Go.Proofs.YtgjooigolgdocaaGreatDoor
set_option linter.unusedVariables false
set_option linter.unusedSimpArgs false
open Go.RowKit

theorem alike_is (c d : Ck) (R : Bool) (hR : sameB c d = R) (W : World) :
    Calls Tryz.prog 71 #[ckA c, ckA d] W fun x W' => x = .returned (.bool R) ∧ Below W.heap.size W W' := by
  have hR2 : ((c.n.toList == d.n.toList) && (c.d.toList == d.d.toList) && (c.p.toList == d.p.toList)) = R := hR
  have HR := Lib.hid hR2
  have hB : Below W.heap.size W ((W.alloc (.cells (ckL c).toArray 29)).alloc (.cells (ckL d).toArray 29)) := ((Below.refl _ W).alloc (Nat.le_refl _) _).alloc (by simp) _
  clear hR hR2
  by_cases h1 : c.n.toList = d.n.toList <;> by_cases h2 : c.d.toList = d.d.toList <;> by_cases h3 : c.p.toList = d.p.toList
  all_goals
    go_enter Tryz.func71, Tryz.ntmps71
    go_wp2_with fail
    go_ret
    exact ⟨ret_bool (by rw [← HR.out]; simp [*]), hB⟩

set_option maxRecDepth 20000 in
set_option maxHeartbeats 1000000 in
theorem same_true (l : List Ck) (v v2 : Value) (nx : Int) (w : World) (hv : SlK ckL 9 w v l) (hv2 : SlK ckL 9 w v2 l) (hl : l.length ≤ 1000000) :
    Calls Tryz.prog 28 #[.agg #[v, .int .i64 nx], .agg #[v2, .int .i64 nx]] w fun x w' => x = .returned (.bool true) ∧ Below w.heap.size w w' := by
  have hb0 : Below w.heap.size w ((w.alloc (.cells #[v, .int .i64 nx] 46)).alloc (.cells #[v2, .int .i64 nx] 46)) := ((Below.refl _ w).alloc (Nat.le_refl _) _).alloc (by simp) _
  have J0 := (AtL.new w [v, .int .i64 nx] 46).alloc (.cells #[v2, .int .i64 nx] 46)
  have I0 := AtL.new (w.alloc (.cells #[v, .int .i64 nx] 46)) [v2, .int .i64 nx] 46
  rw [show (w.alloc (.cells #[v, .int .i64 nx] 46)).heap.size = w.heap.size + 1 by simp] at I0
  have hv1 := hv.below hb0 (Nat.le_refl _)
  have hv3 := hv2.below hb0 (Nat.le_refl _)
  obtain ⟨sa, sc, rfl, _⟩ := hv.shape
  obtain ⟨sb, sd, rfl, _⟩ := hv2.shape
  clear hv hv2
  go_enter Tryz.func28, Tryz.ntmps28
  go_wp2_with fail
  obtain ⟨w1, hw1⟩ : ∃ w1 : World, (w.alloc (.cells #[.slice sa l.length sc, .int .i64 nx] 46)).alloc (.cells #[.slice sb l.length sd, .int .i64 nx] 46) = w1 := ⟨_, rfl⟩
  obtain ⟨I, hI⟩ : ∃ I, w.heap.size + 1 = I := ⟨_, rfl⟩
  obtain ⟨J, hJ⟩ : ∃ J, w.heap.size = J := ⟨_, rfl⟩
  rw [hw1] at hb0 J0 I0 hv1 hv3
  rw [hI] at I0
  rw [hJ] at J0
  rw [hw1, hI, hJ]
  have HJ := Lib.hid hJ
  clear hw1 hI hJ
  have HCC : ∀ (hlt : 0 < l.length), ∃ b0 off b2 off2 : Nat, sa = some ⟨b0, off, none⟩ ∧ sb = some ⟨b2, off2, none⟩ ∧ ∀ kk (h : kk < l.length) j u, (ckL l[kk])[j]? = some u → w1.cell? ⟨b0, off + kk * 9 + j, none⟩ = some u ∧ w1.cell? ⟨b2, off2 + kk * 9 + j, none⟩ = some u := by
    intro hlt
    rcases hv1 with ⟨rfl, _⟩ | ⟨_, b0, off, cap, he, hc1, hc2, hc3, hcell⟩
    · simp at hlt
    rcases hv3 with ⟨rfl, _⟩ | ⟨_, b2, off2, cap2, he2, hd1, hd2, hd3, hcell2⟩
    · simp at hlt
    injection he with e1 e2 e3
    injection he2 with f1 f2 f3
    exact ⟨b0, off, b2, off2, e1, f1, fun kk h j u hu => ⟨hcell kk h j u hu, hcell2 kk h j u hu⟩⟩
  have HC := Lib.hid HCC
  clear HCC hv1 hv3
  go_loopw [5] (fun iv wr => ∃ k : Nat, k ≤ l.length ∧ iv = .int .i64 k ∧ Below w1.heap.size w1 wr) (fun iv _ => l.length - (intOf iv).toNat)
  case atStart => exact ⟨0, Nat.zero_le _, rfl, Below.refl _ _⟩
  case round =>
    obtain ⟨kk, hk, rfl, hbw⟩ := hrel
    have J2 := J0.below hbw J0.lt
    have I2 := I0.below hbw I0.lt
    have j0 := J2.c 0 rfl; have j1 := J2.c 1 rfl
    have i0 := I2.c 0 rfl; have i1 := I2.c 1 rfl
    have hjl := J2.lt
    have hil := I2.lt
    by_cases hlt : kk < l.length
    · obtain ⟨b0, off, b2, off2, rfl, rfl, hcell⟩ := HC.out (by omega)
      have cc : ∀ j u, (ckL l[kk])[j]? = some u → wr.cell? ⟨b0, off + kk * 9 + j, none⟩ = some u := fun j u hu => (brl hbw _ _ (cell_lt (hcell kk hlt j u hu).1)).trans (hcell kk hlt j u hu).1
      have dd : ∀ j u, (ckL l[kk])[j]? = some u → wr.cell? ⟨b2, off2 + kk * 9 + j, none⟩ = some u := fun j u hu => (brl hbw _ _ (cell_lt (hcell kk hlt j u hu).2)).trans (hcell kk hlt j u hu).2
      obtain ⟨y, hy⟩ : ∃ y, l[kk] = y := ⟨_, rfl⟩
      rw [hy] at cc dd
      clear hy hcell
      obtain ⟨yn, yv, yd, yp, yho, yse, yhi, yex, ycr⟩ := y
      have c0 := cc 0 _ rfl
      have c1 := cc 1 _ rfl
      have c2 := cc 2 _ rfl
      have c3 := cc 3 _ rfl
      have c4 := cc 4 _ rfl
      have c5 := cc 5 _ rfl
      have c6 := cc 6 _ rfl
      have c7 := cc 7 _ rfl
      have c8 := cc 8 _ rfl
      have d0 := dd 0 _ rfl
      have d1 := dd 1 _ rfl
      have d2 := dd 2 _ rfl
      have d3 := dd 3 _ rfl
      have d4 := dd 4 _ rfl
      have d5 := dd 5 _ rfl
      have d6 := dd 6 _ rfl
      have d7 := dd 7 _ rfl
      have d8 := dd 8 _ rfl
      simp only [Nat.add_zero] at c0 d0
      clear cc dd
      have hki : (kk : Int) < (l.length : Int) := by omega
      go_wp2_with fail
      go_quiet (fail)
      go_wp2_with fail
      go_roundw
      case rel => exact ⟨kk + 1, by omega, by go_num, below_drewN hbw _⟩
      case measure => simp [intOf]; omega
    · obtain rfl : kk = l.length := by omega
      go_wp2_with fail
      go_ret
      exact ⟨rfl, hb0.trans (hbw.mono hb0.size)⟩
end Go.Proofs.YtgjooigolgdocaaGreatDoor

/- Cookies: clone. -/
namespace Go.Proofs.YtgjooigolgdocaaGreatDoor
set_option linter.unusedVariables false
set_option linter.unusedSimpArgs false
open Go.RowKit

theorem own_zero (W0 : World) (E size : Nat) : (W0.alloc (.cells #[] E)).drew.ownsRow W0.heap.size E size (.slice (some ⟨W0.heap.size, 0, none⟩) 0 0) 0 [] := by
  refine ⟨by simp, .inr ⟨W0.heap.size, 0, #[], rfl, Nat.le_refl _, ?_, Nat.le_refl _, by simp, by simp, by simp⟩⟩
  show (W0.heap.push _)[W0.heap.size]? = _
  simp
/-- an append of what lies in memory to an empty slice that has just been built, as a step of a drawn region -/
theorem step_appz {P : Program} {T E size bytes : Nat} (ty : SlTy P T E size bytes) (W0 : World) {ops : Array Oper} {o : Oper} {a : Act} {K : Act → World → Prop} {Q : Exit → Act → World → Prop} {Ep : Prop}
    (hgd : o.guard = none) (s x : Operand) (ho : o.op = .call { callee := .builtin .append, args := #[s, x], argTypes := #[T, T] })
    (hs : a.eval s = .slice (some ⟨W0.heap.size, 0, none⟩) 0 0) (ad : Addr) (m c : Nat) (news : List Value)
    (hx : a.eval x = .slice (some ad) m c) (hl : news.length = m * size) (hc : ∀ j u, news[j]? = some u → W0.cell? (ad.add j) = some u) (hb : ad.block < W0.heap.size) (h1 : ∀ u ∈ news, u.oneCell' = true)
    (hm : 0 < m) (hby : m * bytes ≤ 140737488355328) (hn : m ≤ 140737488355328)
    (h : ∀ g cap w', w'.ownsRow W0.heap.size E size (.slice (some ⟨g, 0, none⟩) m cap) m news → W0.heap.size ≤ g → Below W0.heap.size W0 w' → g < w'.heap.size → K (a.put o.dst (.slice (some ⟨g, 0, none⟩) m cap)) w') :
    if Region.wanted o (yielded ops a.tmps) = true then Oper.wp P o a (W0.alloc (.cells #[] E)).drew K Q else Ep := by
  obtain ⟨hu, ⟨i, z, hi, hz, h2, h3, h4⟩, hp⟩ := ty
  have hb0 : Below W0.heap.size W0 (W0.alloc (.cells #[] E)).drew := ((Below.refl _ W0).alloc (Nat.le_refl _) _).drew
  refine step_append_lies _ hgd s x T ho W0.heap.size E i z size bytes hu hi hz h2 h3 h4 hp _ 0 [] hs (own_zero W0 E size) ad m c news hx hl (fun j u hj => ?_) h1 hm (by unfold maxLen; omega) (by rw [Nat.zero_add]; exact hby) (by simp) (W0.heap.size + 1) (by simp)
    fun g cap w' a1 a2 a3 a4 => ?_
  · have e1 : (ad.add j).block = ad.block := by unfold Addr.add; split <;> rfl
    exact (hb0.cell (p := ad.add j) (by rw [e1]; exact hb)).trans (hc j u hj)
  · rw [Nat.zero_add] at a1 ⊢
    rw [List.nil_append] at a1
    refine h g cap w' a1 ?_ ?_ a4
    · rcases a3 with a3 | a3
      · simp only [Value.ownBlock, Option.some.injEq] at a3; omega
      · omega
    · refine hb0.grown a2 (by simp) fun k hk => ?_
      simp only [Value.ownBlock, Option.some.injEq] at hk
      omega
/-- an append of nothing to an empty slice, as a step of a drawn region -/
theorem step_app00 {P : Program} {T E size bytes : Nat} (ty : SlTy P T E size bytes) (W : World) {ops : Array Oper} {o : Oper} {a : Act} {K : Act → World → Prop} {Q : Exit → Act → World → Prop} {Ep : Prop}
    (hgd : o.guard = none) (s x : Operand) (ho : o.op = .call { callee := .builtin .append, args := #[s, x], argTypes := #[T, T] }) (b : Nat) (ad : Option Addr) (c : Nat)
    (hs : a.eval s = .slice (some ⟨b, 0, none⟩) 0 0) (hx : a.eval x = .slice ad 0 c)
    (h : K (a.put o.dst (.slice (some ⟨b, 0, none⟩) 0 0)) W) :
    if Region.wanted o (yielded ops a.tmps) = true then Oper.wp P o a W K Q else Ep := by
  obtain ⟨hu, ⟨i, z, hi, hz, h2, h3, h4⟩, hp⟩ := ty
  have hw : Region.wanted o (yielded ops a.tmps) = true := by simp [Region.wanted, hgd]
  rw [if_pos hw]
  have hfc : (Builtin.firstCells i.size 0 (.slice ad 0 c)).run P W = .ok #[] W := by
    cases ad with
    | none => rfl
    | some ad => exact run_firstCells_some (P := P) W i.size 0 ad 0 c [] (by simp) (by simp)
  have hst : ∀ p : Addr, (storeCells p []).run P W = .ok () W := fun p => by simp [storeCells]
  have hrun : (Builtin.append_ #[T, T] o.type #[.slice (some ⟨b, 0, none⟩) 0 0, .slice ad 0 c]).run P W = .ok (.slice (some ⟨b, 0, none⟩) 0 0) W := by
    simp [Builtin.append_, run_underlying hu, sizeOf, typeInfo, hi, Builtin.lenOf, hfc, hst]
  unfold Oper.wp
  simp [execOp, ho, resolve, invoke, builtin, hs, hx, hrun, Result.andThen]
  exact h
theorem one9s (l : List Ck) : ∀ u ∈ cellsK ckL l, u.oneCell' = true := by
  intro u hu
  obtain ⟨c, _, hu⟩ := List.mem_flatMap.1 hu
  exact one9 c u hu
theorem cellsK_inv {α : Type} {enc : α → List Value} {k : Nat} (hk : ∀ x, (enc x).length = k) : ∀ (l : List α) (q : Nat) (u : Value), (cellsK enc l)[q]? = some u → ∃ i, ∃ h : i < l.length, ∃ j, q = i * k + j ∧ (enc l[i])[j]? = some u := by
  intro l
  induction l with
  | nil => intro q u h; simp [cellsK] at h
  | cons x l ih =>
    intro q u h
    unfold cellsK at h
    rw [List.flatMap_cons] at h
    by_cases hq : q < (enc x).length
    · rw [List.getElem?_append_left hq] at h
      exact ⟨0, by simp, q, by omega, h⟩
    · rw [List.getElem?_append_right (by omega)] at h
      obtain ⟨i, hi, j, h1, h2⟩ := ih _ _ h
      refine ⟨i + 1, by simpa using hi, j, ?_, by simpa using h2⟩
      rw [hk] at h1 hq
      rw [Nat.add_mul]
      omega
/-- the result of a function that gives a struct of two cells -/
theorem ret2_run {P : Program} {fn : Func} {q T : Nat} (hr : fn.results = #[.cell q T]) (hz : ∀ w, (Go.sizeOf T).run P w = .ok 2 w) (ha : ∀ w, (isAgg T).run P w = .ok true w) (tmps : Array Value) (W : World) (k : Nat) (a b : Value) (h2 : tmps.getD q undef = .pointer (some ⟨k, 0, none⟩)) (hA : AtL W k [a, b]) :
    (results fn tmps).run P W = .ok (.agg #[a, b]) W := by
  have c0 := hA.c 0 rfl
  have c1 := hA.c 1 rfl
  rw [Array.getD_eq_getD_getElem?] at h2
  simp [results, hr, h2, go_sem, hz, ha, c0, c1]
theorem add_none (b off j : Nat) : (⟨b, off, none⟩ : Addr).add j = ⟨b, off + j, none⟩ := by unfold Addr.add; split <;> simp_all
set_option maxRecDepth 20000 in
set_option maxHeartbeats 1000000 in
theorem clone_is (l : List Ck) (v : Value) (nx : Int) (w : World) (hv : SlK ckL 9 w v l) (hl : l.length ≤ 1000) :
    Calls Tryz.prog 23 #[.agg #[v, .int .i64 nx]] w fun x w' => ∃ v', x = .returned (.agg #[v', .int .i64 nx]) ∧ w'.ownsRow w.heap.size 29 9 v' l.length (cellsK ckL l) ∧ Below w.heap.size w w' := by
  have J0 := (AtL.new w [v, .int .i64 nx] 38).alloc (.cells #[.slice none 0 0, .int .i64 0] 38)
  have K0 := AtL.new (w.alloc (.cells #[v, .int .i64 nx] 38)) [.slice none 0 0, .int .i64 0] 38
  rw [show (w.alloc (.cells #[v, .int .i64 nx] 38)).heap.size = w.heap.size + 1 by simp] at K0
  have hb0 : Below w.heap.size w ((w.alloc (.cells #[v, .int .i64 nx] 38)).alloc (.cells #[.slice none 0 0, .int .i64 0] 38)) := ((Below.refl _ w).alloc (Nat.le_refl _) _).alloc (by simp) _
  rcases hv with ⟨rfl, a, cap, rfl, h2⟩ | ⟨h0, b, off, cap, rfl, h2, h3, h4, h5⟩
  · go_enter Tryz.func23, Tryz.ntmps23
    go_wp2_with fail
    obtain ⟨w1, hw1⟩ : ∃ w1 : World, (w.alloc (.cells #[.slice a 0 cap, .int .i64 nx] 38)).alloc (.cells #[.slice none 0 0, .int .i64 0] 38) = w1 := ⟨_, rfl⟩
    obtain ⟨I, hI⟩ : ∃ I, w.heap.size + 1 = I := ⟨_, rfl⟩
    obtain ⟨J, hJ⟩ : ∃ J, w.heap.size = J := ⟨_, rfl⟩
    have hIw : w.heap.size ≤ I := by omega
    rw [hw1] at J0 K0 hb0
    rw [hI] at K0
    rw [hJ] at J0
    rw [hw1, hI, hJ]
    have HJ := Lib.hid hJ
    clear hw1 hI hJ
    have j0 := J0.c 0 rfl; have j1 := J0.c 1 rfl
    have i0 := K0.c 0 rfl; have i1 := K0.c 1 rfl
    have f0 := K0.f 0 rfl
    have f1 := K0.f 1 rfl
    have hjl := J0.lt
    have hil := K0.lt
    go_region_law (refine step_app00 slC _ (by rfl) (.tmp 3) (.tmp 5) (by rfl) w1.heap.size a cap (by rfl) (by rfl) ?_)
    all_goals
      go_wp2_with fail
      obtain ⟨W0, hW0⟩ : ∃ W0 : World, (w1.setCell ⟨I, 0, none⟩ (.slice (some ⟨w1.heap.size, 0, none⟩) 0 0)).setCell ⟨I, 1, none⟩ (.int .i64 nx) = W0 := ⟨_, rfl⟩
      have KF : AtL W0 I [.slice (some ⟨w1.heap.size, 0, none⟩) 0 0, .int .i64 nx] := by rw [← hW0]; exact (K0.set 0 _).set 1 _
      have hS : W0.heap.size = w1.heap.size := by rw [← hW0]; simp
      have hBF : Below w.heap.size w W0 := by rw [← hW0]; exact (hb0.setCell (p := ⟨I, 0, none⟩) hIw _).setCell (p := ⟨I, 1, none⟩) hIw _
      have OZ := own_zero W0 29 9
      rw [hS] at OZ
      rw [hW0]
      exact bodyPost_ret (ret2_run Tryz.results23 Tryz.sizeOf38 Tryz.isAgg38 _ _ I _ _ rfl (KF.alloc _).drew) rfl ⟨_, rfl, own_mono OZ hb0.size, (hBF.alloc hBF.size _).drew⟩
  · have hpos : 0 < l.length := List.length_pos_iff.2 h0
    have hc : ∀ j u, (cellsK ckL l)[j]? = some u → w.cell? ((⟨b, off, none⟩ : Addr).add j) = some u := fun j u hu => by
      obtain ⟨i, hi, r, rfl, hr⟩ := cellsK_inv ckL_len l j u hu
      rw [add_none, ← Nat.add_assoc]
      exact h5 i hi r u hr
    have hlen := cellsK_len ckL_len l
    go_enter Tryz.func23, Tryz.ntmps23
    go_wp2_with fail
    obtain ⟨w1, hw1⟩ : ∃ w1 : World, (w.alloc (.cells #[.slice (some ⟨b, off, none⟩) l.length cap, .int .i64 nx] 38)).alloc (.cells #[.slice none 0 0, .int .i64 0] 38) = w1 := ⟨_, rfl⟩
    obtain ⟨I, hI⟩ : ∃ I, w.heap.size + 1 = I := ⟨_, rfl⟩
    obtain ⟨J, hJ⟩ : ∃ J, w.heap.size = J := ⟨_, rfl⟩
    have hIw : w.heap.size ≤ I := by omega
    rw [hw1] at J0 K0 hb0
    rw [hI] at K0
    rw [hJ] at J0
    rw [hw1, hI, hJ]
    have hc1 : ∀ j u, (cellsK ckL l)[j]? = some u → w1.cell? ((⟨b, off, none⟩ : Addr).add j) = some u := fun j u hu => by
      have := hc j u hu
      rw [add_none] at this ⊢
      exact (brl hb0 _ _ h4).trans this
    have HJ := Lib.hid hJ
    have hb1 : b < w1.heap.size := Nat.lt_of_lt_of_le h4 hb0.size
    have HC := Lib.hid hc1
    clear hw1 hI hJ hc hc1 h5
    have j0 := J0.c 0 rfl; have j1 := J0.c 1 rfl
    have i0 := K0.c 0 rfl; have i1 := K0.c 1 rfl
    have f0 := K0.f 0 rfl
    have f1 := K0.f 1 rfl
    have hjl := J0.lt
    have hil := K0.lt
    go_region_law (first
      | (refine step_appz slC w1 (by rfl) (.tmp 3) (.tmp 5) (by rfl) (by rfl) ⟨b, off, none⟩ l.length cap (cellsK ckL l) (by rfl) hlen HC.out hb1 (one9s l) hpos (by omega) (by omega) ?_; intro g cap2 w5 hown5 hg5 hb5 hlt5; have K5 := K0.next hb5; have J5 := J0.next hb5; have i0 := K5.c 0 rfl; have i1 := K5.c 1 rfl; have f0 := K5.f 0 rfl; have f1 := K5.f 1 rfl; have j0 := J5.c 0 rfl; have j1 := J5.c 1 rfl; have hkl5 := K5.lt; have hjl5 := J5.lt))
    all_goals
      go_wp2_with fail
      have hIg : g ≠ I := by omega
      have hne : (Value.slice (some ⟨g, 0, none⟩) l.length cap2).ownBlock ≠ some I := by simp only [Value.ownBlock, ne_eq, Option.some.injEq]; exact hIg
      have KF : AtL ((w5.setCell ⟨I, 0, none⟩ (.slice (some ⟨g, 0, none⟩) l.length cap2)).setCell ⟨I, 1, none⟩ (.int .i64 nx)) I [.slice (some ⟨g, 0, none⟩) l.length cap2, .int .i64 nx] := (K5.set 0 _).set 1 _
      have OF := ownsRow_setCell_other (a := ⟨I, 1, none⟩) (ownsRow_setCell_other (a := ⟨I, 0, none⟩) hown5 hne (.slice (some ⟨g, 0, none⟩) l.length cap2)) hne (.int .i64 nx)
      obtain rfl := HJ.out
      have hB5 := hb0.trans (hb5.mono hb0.size)
      exact bodyPost_ret (ret2_run Tryz.results23 Tryz.sizeOf38 Tryz.isAgg38 _ _ I _ _ rfl KF) rfl ⟨_, rfl, own_mono OF hb0.size, (hB5.setCell (p := ⟨I, 0, none⟩) hIw _).setCell (p := ⟨I, 1, none⟩) hIw _⟩
end Go.Proofs.YtgjooigolgdocaaGreatDoor

/- Cookies: storing where the jar has the cookie: a secure one that may not be replaced. -/
namespace Go.Proofs.YtgjooigolgdocaaGreatDoor
set_option linter.unusedVariables false
set_option linter.unusedSimpArgs false
open Go.RowKit

set_option maxRecDepth 20000 in
set_option maxHeartbeats 4000000 in
theorem store_sec (c : Ck) (a b cc d e f : ByteArray) (now : Int) (w : World) (jb B : Nat) (v : Value) (l : List Ck) (nx : Int) (hJ : JarIn w jb B v l nx) (kk : Nat) (hkl : kk < l.length)
    (hid : idxI (sameB c) l = kk) (hse : l[kk].se = true) (hsc : a.data.toList ≠ httpsL) (hl : l.length < 1000) :
    Calls Tryz.prog 58 #[.pointer (some ⟨jb, 0, none⟩), ckA c, urlA a b cc d e f, .int .i64 now] w fun x w' => x = .returned (.int .i64 7) ∧ Below w.heap.size w w' := by
  have hrd := hJ.reads
  rcases hrd with ⟨rfl, _⟩ | ⟨_, b0, off, sc, rfl, hc1, hc2, hc3, hcell⟩
  · simp at hkl
  have hc5 : w.cell? ⟨b0, off + kk * 9 + 5, none⟩ = some (.bool true) := hcell kk hkl 5 _ (by rw [← hse]; rfl)
  have C0 := AtL.new w (ckL c) 29
  have C1 := C0.alloc (.cells (urlL a b cc d e f).toArray 23)
  have U1 := AtL.new (w.alloc (.cells (ckL c).toArray 29)) (urlL a b cc d e f) 23
  rw [show (w.alloc (.cells (ckL c).toArray 29)).heap.size = w.heap.size + 1 by simp] at U1
  have hB1 : Below w.heap.size w ((w.alloc (.cells (ckL c).toArray 29)).alloc (.cells (urlL a b cc d e f).toArray 23)) := ((Below.refl _ w).alloc (Nat.le_refl _) _).alloc (by simp) _
  have J1 := hJ.below hB1 (Nat.le_refl _)
  have CS := Lib.hid (fun w => same_is c w)
  have CX := Lib.hid (fun (w : World) (v : Value) (k : Nat) (hv : SlK ckL 9 w v l) (hA : AtL w k (ckL c)) => idxs_is (sameB c) 97 #[.pointer (some ⟨k, 0, none⟩)] (enters_of Tryz.func97 (by kernel_rfl) rfl) l v w hv (same_pred c k w hA) (by omega) kk hid)
  have hs2 : ¬ a.toList = [104, 116, 116, 112, 115] := by rw [ByteArray.toList_eq]; exact hsc
  have hs3 : (a.toList == [104, 116, 116, 112, 115]) = false := beq_eq_false_iff_ne.2 hs2
  have hkz : (kk : Int) < (l.length : Int) := by omega
  have hk0 : (0 : Int) ≤ (kk : Int) := by omega
  clear C0 hid hJ hcell hse hsc
  go_enter Tryz.func58, Tryz.ntmps58
  go_wp2_with fail
  obtain ⟨wA, hwA⟩ : ∃ wA : World, (w.alloc (.cells (ckL c).toArray 29)).alloc (.cells (urlL a b cc d e f).toArray 23) = wA := ⟨_, rfl⟩
  obtain ⟨I, hI⟩ : ∃ I, w.heap.size + 1 = I := ⟨_, rfl⟩
  obtain ⟨K, hK⟩ : ∃ K, w.heap.size = K := ⟨_, rfl⟩
  rw [hwA] at C1 U1 J1 hB1
  rw [hK] at C1
  rw [hI] at U1
  rw [hwA, hI, hK]
  have HK := Lib.hid hK
  have hcA : wA.cell? ⟨b0, off + kk * 9 + 5, none⟩ = some (.bool true) := (brl hB1 _ _ hc3).trans hc5
  clear hwA hI hK hc5
  have S1 := s10_start J1.at_ C1
  have hjl := J1.at_.1
  have hkl1 := C1.1
  go_region_held3 (fun w' => w'.cell? ⟨jb, 0, none⟩ = some (.slice (some ⟨b0, off, none⟩) l.length sc) ∧ w'.cell? ⟨K, 0, none⟩ = some (.string c.n) ∧ w'.cell? ⟨K, 1, none⟩ = some (.string c.v) ∧ w'.cell? ⟨K, 2, none⟩ = some (.string c.d) ∧ w'.cell? ⟨K, 3, none⟩ = some (.string c.p) ∧ w'.cell? ⟨K, 4, none⟩ = some (.bool c.ho) ∧ w'.cell? ⟨K, 5, none⟩ = some (.bool c.se) ∧ w'.cell? ⟨K, 6, none⟩ = some (.bool c.hi) ∧ w'.cell? ⟨K, 7, none⟩ = some (.int .i64 c.ex) ∧ w'.cell? ⟨K, 8, none⟩ = some (.int .i64 c.cr) ∧ Below wA.heap.size wA w') (first | exact s10_next hjl hkl1 S1 (Below.refl _ wA).drew | (apply s10_next hjl hkl1; rotate_left; assumption; assumption) | go_keep)
    (first
      | (go_at_call 70; with_reducible refine (CS.out _).mono ?_; rintro x w1 ⟨rfl, hb1, hA1⟩)
      | (go_at_call 69; with_reducible refine (CX.out _ (.slice (some ⟨b0, off, none⟩) l.length sc) wA.heap.size ((J1.reads.below ((Below.refl _ wA).drew.trans hb1) (Nat.le_refl _))) (atL_drewk hA1)).mono ?_; rintro x w2 ⟨rfl, hb2⟩))
  have hB3 : Below wA.heap.size wA w2 := s10_below (by assumption)
  have hBA := hB1.trans (hB3.mono (by rw [HK.out]; omega))
  have J3 := J1.below hB3 (Nat.le_refl _)
  have U3 := U1.below hB3 U1.lt
  have hc3' := (brl hB3 _ _ (cell_lt hcA)).trans hcA
  have j0 := J3.at_.c 0 rfl
  have u0 := U3.c 0 rfl; have u1 := U3.c 1 rfl; have u2 := U3.c 2 rfl; have u3 := U3.c 3 rfl; have u4 := U3.c 4 rfl; have u5 := U3.c 5 rfl
  have hjl3 := J3.at_.lt
  have hul3 := U3.lt
  go_wp2_with fail
  go_ret
  exact ⟨rfl, hBA⟩
end Go.Proofs.YtgjooigolgdocaaGreatDoor
