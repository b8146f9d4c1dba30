import Derived.Test.YtgjooigolgdocaaGreatDoorGS
import Derived.Test.YtgjooigolgdocaaGreatDoorG5
import Derived.Deep.LoopGhost
import Derived.Deep.CutRange
import Derived.Deep.CutBlock
import Derived.Test.YtgjooigolgdocaaGreatDoorG2
import Derived.BigQuiet
import Derived.Test.YtgjooigolgdocaaGreatDoorG6
/- Cookies: the reference's Match: an insertion at the place that is looked for from the end is a stable insertion. -/
namespace Go.Proofs.YtgjooigolgdocaaGreatDoor
set_option linter.unusedVariables false
set_option linter.unusedSimpArgs false
open Go.RowKit Go.Sort

theorem insR_at {α : Type} (lt : α → α → Bool) (x : α) : ∀ (n : Nat) (l : List α) (k : Nat), l.length = n → k ≤ l.length → (∀ j (h : j < l.length), k ≤ j → lt x l[j] = true) → (k = 0 ∨ ∃ m, ∃ h : m < l.length, k = m + 1 ∧ lt x l[m] = false) → insR lt x l = l.take k ++ x :: l.drop k := by
  intro n
  induction n with
  | zero =>
    intro l k hl hk _ _
    obtain rfl : l = [] := List.eq_nil_of_length_eq_zero hl
    simp [insR_nil]
  | succ n ih =>
    intro l k hl hk h1 h2
    obtain ⟨l', y, rfl⟩ : ∃ l' y, l = l' ++ [y] := ⟨l.dropLast, l.getLast (by intro e; rw [e] at hl; simp at hl), (List.dropLast_concat_getLast _).symm⟩
    have hl' : l'.length = n := by simpa using hl
    rw [insR_snoc]
    rcases Nat.lt_or_ge k (l' ++ [y]).length with hlt | hge
    · have hkl : k ≤ l'.length := by simp at hlt; omega
      have hy : lt x y = true := by
        have := h1 l'.length (by simp) hkl
        simpa using this
      rw [if_pos hy, ih l' k hl' hkl (fun j h hj => by
        have := h1 j (by simp; omega) hj
        rwa [List.getElem_append_left h] at this) (h2.imp id (fun ⟨m, h, e, e2⟩ => ⟨m, by omega, e, by
          rwa [List.getElem_append_left (by omega)] at e2⟩))]
      rw [List.take_append_of_le_length hkl, List.drop_append_of_le_length hkl]
      simp
    · have hk2 : k = l'.length + 1 := by simp at hge hk; omega
      have hy : lt x y = false := by
        rcases h2 with h2 | ⟨m, h, e, e2⟩
        · omega
        · obtain rfl : m = l'.length := by omega
          simpa using e2
      rw [hy, if_neg (by simp), List.take_of_length_le (by simp; omega), List.drop_of_length_le (by simp; omega)]
      simp
end Go.Proofs.YtgjooigolgdocaaGreatDoor

/- Cookies: the reference's order: before is ltC. -/
namespace Go.Proofs.YtgjooigolgdocaaGreatDoor
set_option linter.unusedVariables false
set_option linter.unusedSimpArgs false
open Go.RowKit Go.Sort

theorem before_is (x y : Ck) (R : Bool) (hR : ltC x y = R) (W : World) :
    Calls Tryz.prog 65 #[ckA x, ckA y] W fun e W' => e = .returned (.bool R) ∧ Below W.heap.size W W' := by
  have hB : Below W.heap.size W ((W.alloc (.cells (ckL x).toArray 29)).alloc (.cells (ckL y).toArray 29)) := ((Below.refl _ W).alloc (Nat.le_refl _) _).alloc (by simp) _
  by_cases h1 : x.p.size = y.p.size
  · have hn : ((x.p.size : Int) != (y.p.size : Int)) = false := by simp [h1]
    have hR2 : decide (x.cr < y.cr) = R := by
      rw [← hR, Bool.eq_iff_iff, ltC_iff, decide_eq_true_eq]
      omega
    have HR := Lib.hid hR2
    clear hR hR2 h1
    go_enter Tryz.func65, Tryz.ntmps65
    go_wp2_with fail
    go_ret
    exact ⟨ret_bool HR.out, hB⟩
  · have hn : ((x.p.size : Int) != (y.p.size : Int)) = true := by simp; omega
    have hn2 : ¬ x.p.size = y.p.size := h1
    have hR2 : decide ((y.p.size : Int) < (x.p.size : Int)) = R := by
      rw [← hR, Bool.eq_iff_iff, ltC_iff, decide_eq_true_eq]
      omega
    have HR := Lib.hid hR2
    clear hR hR2 h1
    go_enter Tryz.func65, Tryz.ntmps65
    go_wp2_with fail
    go_ret
    exact ⟨ret_bool (by rw [← HR.out]; simp), hB⟩
end Go.Proofs.YtgjooigolgdocaaGreatDoor

/- Cookies: the reference's Match. -/
namespace Go.Proofs.YtgjooigolgdocaaGreatDoor
set_option linter.unusedVariables false
set_option linter.unusedSimpArgs false
open Go.RowKit Go.Sort

theorem rmatch_no (a b cc d e f : ByteArray) (now : Int) (hT : takesB (u6 a b cc d e f) = false) (v : Value) (nx : Value) (w : World) (hz : USize 40000 a b cc d e f) (hM : MaxAt w) :
    Calls Tryz.prog 25 #[.agg #[v, nx], urlA a b cc d e f, .int .i64 now] w fun x w' => x = .returned (.slice none 0 0) ∧ Below w.heap.size w w' := by
  have CT := Lib.hid (fun w hM => has_is a b cc d e f false hT w hz hM)
  have J0 := (AtL.new w [v, nx] 46).alloc (.cells (urlL a b cc d e f).toArray 23)
  have hb0 : Below w.heap.size w ((w.alloc (.cells [v, nx].toArray 46)).alloc (.cells (urlL a b cc d e f).toArray 23)) := ((Below.refl _ w).alloc (Nat.le_refl _) _).alloc (by simp) _
  have hM0 := hM.below hb0 (Nat.le_refl _)
  clear hT hz hM
  go_enter Tryz.func25, Tryz.ntmps25
  go_wp2_with (go_at_call 44; with_reducible refine (CT.out _ hM0).mono ?_; rintro x w1 ⟨rfl, hb1⟩; have hB1 := hb0.trans (hb1.mono (by simp; omega)))
  go_ret
  exact ⟨rfl, hB1⟩
theorem run_append_none {P : Program} {w : World} (base : Nat) (t ty e : TypeId) (i : TypeInfo) (size : Nat) (ht : P.underlying t = some (.slice e)) (hi : P.info? e = some i)
    (v : Value) (n : Nat) (xs : List Value) (hown : w.ownsRow base e size v n xs) (c : Nat) : (Builtin.append_ #[t, t] ty #[v, .slice none 0 c]).run P w = .ok v w := by
  rcases hown.2 with ⟨rfl, rfl⟩ | ⟨g, cap, cur, rfl, _, _, hnc, _⟩
  · simp [Builtin.append_, run_underlying ht, sizeOf, typeInfo, hi, Builtin.lenOf, Builtin.firstCells]
  · simp [Builtin.append_, run_underlying ht, sizeOf, typeInfo, hi, Builtin.lenOf, Builtin.firstCells, hnc, storeCells]
/-- an append of elements that lie in memory, or of none -/
theorem app_src {P : Program} {T E size bytes : Nat} (ty : SlTy P T E size bytes) (W : World) {ops : Array Oper} {rest : List Oper} {o : Oper} {a : Act} {Q : Exit → Act → World → Prop}
    (hgd : o.guard = none) (s x : Operand) (ho : o.op = .call { callee := .builtin .append, args := #[s, x], argTypes := #[T, T] })
    (B : Nat) (v : Value) (n : Nat) (xs : List Value) (hs : a.eval s = v) (hown : W.ownsRow B E size v n xs) (news : List Value) (A : Option Addr) (m c : Nat)
    (hx : a.eval x = .slice A m c) (hl : news.length = m * size) (hc : (A = none ∧ m = 0) ∨ ∃ ad, A = some ad ∧ ∀ j u, news[j]? = some u → W.cell? (ad.add j) = some u) (h1 : ∀ u ∈ news, u.oneCell' = true)
    (hb : (n + m) * bytes ≤ 140737488355328) (hn : n + m ≤ 140737488355328) (hB : B ≤ W.heap.size)
    (h : ∀ v' w', w'.ownsRow B E size v' (n + m) (xs ++ news) → W.grownBy w' v.ownBlock → wpList P ops Q rest (a.put o.dst v') w') :
    wpList P ops Q (o :: rest) a W := by
  obtain ⟨hu, ⟨i, z, hi, hz, h2, h3, h4⟩, hp⟩ := ty
  rcases hc with ⟨rfl, rfl⟩ | ⟨ad, rfl, hc⟩
  · obtain rfl : news = [] := List.eq_nil_of_length_eq_zero (by simpa using hl)
    refine wpList_plain hgd fun K hK => ?_
    have hr := run_append_none (P := P) (w := W) B T o.type E i size hu hi v n xs hown c
    unfold Oper.wp execOp
    simp only [ho, resolve, invoke, builtin, Sem.run_bind, Sem.run_pure, Result.andThen_ok, List.map_toArray, List.map_cons, List.map_nil, hs, hx, hr]
    exact hK _ _ (h v W (by simpa using hown) (World.grownBy.refl W _))
  · exact wpList_append_own _ hgd s x T ho B E i z size bytes hu hi hz h2 h3 h4 hp v n xs hs hown ad m c news hx hl hc h1 (by unfold maxLen; omega) hb hB fun v' w' a1 a2 _ => h v' w' a1 a2
theorem ck_split (ps : List Ck) (m : Nat) : cellsK ckL ps = cellsK ckL (ps.take m) ++ cellsK ckL (ps.drop m) := by
  conv => lhs; rw [← List.take_append_drop m ps, cellsK_app]
theorem ck_take (ps : List Ck) (m j : Nat) (u : Value) (h : (cellsK ckL (ps.take m))[j]? = some u) : (cellsK ckL ps)[j]? = some u := by
  rw [ck_split ps m, List.getElem?_append_left (List.getElem?_eq_some_iff.1 h).1]
  exact h
theorem ck_drop (ps : List Ck) (m : Nat) (hm : m ≤ ps.length) (j : Nat) (u : Value) (h : (cellsK ckL (ps.drop m))[j]? = some u) : (cellsK ckL ps)[m * 9 + j]? = some u := by
  have hl : (cellsK ckL (ps.take m)).length = m * 9 := by rw [cellsK_len ckL_len, List.length_take, Nat.min_eq_left hm]
  rw [ck_split ps m, List.getElem?_append_right (by omega), hl, show m * 9 + j - m * 9 = j by omega]
  exact h
theorem kept_cells {W W' : World} (hb : Below W.heap.size W W') {g off : Nat} {xs : List Value} (h : ∀ j u, xs[j]? = some u → W.cell? ⟨g, off + j, none⟩ = some u) : ∀ j u, xs[j]? = some u → W'.cell? ((⟨g, off, none⟩ : Addr).add j) = some u := by
  intro j u hu
  rw [add_none]
  exact (brl hb _ _ (cell_lt (h j u hu))).trans (h j u hu)
theorem ins_cells (c : Ck) (ps : List Ck) (m : Nat) : ([] ++ cellsK ckL (ps.take m)) ++ ckL c ++ cellsK ckL (ps.drop m) = cellsK ckL (ps.take m ++ c :: ps.drop m) := by
  rw [cellsK_app, List.nil_append, List.append_assoc]
  rfl
set_option maxRecDepth 20000 in
set_option maxHeartbeats 16000000 in
theorem rmatch_yes (a b cc d e f : ByteArray) (now : Int) (hT : takesB (u6 a b cc d e f) = true) (l : List Ck) (v nx : Value) (w : World) (hz : USize 40000 a b cc d e f) (hM : MaxAt w) (hv : SlK ckL 9 w v l)
    (hl : l.length ≤ 1000) (hsz : ∀ c ∈ l, c.d.size ≤ 100000 ∧ c.p.size ≤ 100000) (out : List Ck) (hh : insS ltC (l.filter (hitB a b d now)) = out) :
    Calls Tryz.prog 25 #[.agg #[v, nx], urlA a b cc d e f, .int .i64 now] w fun x w' => ∃ v', x = .returned v' ∧ w'.ownsRow w.heap.size 29 9 v' out.length (cellsK ckL out) ∧ Below w.heap.size w w' := by
  have CT := Lib.hid (fun w hM => has_is a b cc d e f true hT w hz hM)
  have J0 := (AtL.new w [v, nx] 46).alloc (.cells (urlL a b cc d e f).toArray 23)
  have U0 := AtL.new (w.alloc (.cells [v, nx].toArray 46)) (urlL a b cc d e f) 23
  rw [show (w.alloc (.cells [v, nx].toArray 46)).heap.size = w.heap.size + 1 by simp] at U0
  have hb0 : Below w.heap.size w ((w.alloc (.cells [v, nx].toArray 46)).alloc (.cells (urlL a b cc d e f).toArray 23)) := ((Below.refl _ w).alloc (Nat.le_refl _) _).alloc (by simp) _
  have hM0 := hM.below hb0 (Nat.le_refl _)
  have hv0 := hv.below hb0 (Nat.le_refl _)
  obtain ⟨sa, sc, rfl, _⟩ := hv.shape
  have HZ := Lib.hid hsz
  obtain ⟨pr, hpr⟩ : ∃ pr, hitB a b d now = pr := ⟨_, rfl⟩
  rw [hpr] at hh
  have HPR := Lib.hid hpr
  have HH := Lib.hid hh
  have hza := hz.a
  have hzb := hz.b
  have hzd := hz.d
  clear hT hz hM hsz hh hpr hv
  go_enter Tryz.func25, Tryz.ntmps25
  go_wp2_with (go_at_call 44; with_reducible refine (CT.out _ hM0).mono ?_; rintro x w1 ⟨rfl, hb1⟩; have U1 := U0.next hb1; have J1 := J0.next hb1; have hv1 := hv0.below hb1 (Nat.le_refl _); have hB1 := hb0.trans (hb1.mono (by simp; omega)); have j0 := J1.c 0 rfl)
  obtain ⟨J, hJ⟩ : ∃ J, w.heap.size = J := ⟨_, rfl⟩
  obtain ⟨U, hU⟩ : ∃ U, w.heap.size + 1 = U := ⟨_, rfl⟩
  rw [hU] at U1
  rw [hJ] at J1
  rw [hU, hJ]
  have HJ := Lib.hid hJ
  have hJU : J < U := by omega
  clear hU hJ hM0 U0 J0 hv0 hb0 hb1 j0
  have hul := U1.lt
  have hjl := J1.lt
  go_loopg [7, 8] l.length (fun r pv iv wr => ∃ (k : Nat) (ps : List Ck) (q : Value), q = pv ∧ Hid (k + r = l.length) ∧ k ≤ l.length ∧ iv = .int .i64 k ∧ wr.ownsRow w1.heap.size 29 9 q ps.length (cellsK ckL ps) ∧ Hid (ps = insS ltC ((l.take k).filter pr)) ∧ ps.length ≤ k ∧ Below w1.heap.size w1 wr)
  case atStart => exact ⟨0, [], _, rfl, Lib.hid (by omega), Nat.zero_le _, rfl, World.ownsRow_nil _ _ _ _, Lib.hid rfl, Nat.le_refl _, Below.refl _ _⟩
  case round =>
    obtain ⟨kk, ps, pv, rfl, hkr, hk, rfl, hown, HP, hpl, hbw⟩ := hrel
    have hwz := hbw.size
    have JR := J1.below hbw hjl
    have UR := U1.below hbw hul
    have j0 := JR.c 0 rfl; have j1 := JR.c 1 rfl
    have jl := JR.lt
    by_cases hlt : kk < l.length
    · rcases hv1 with ⟨rfl, _⟩ | ⟨_, b0, off, cap, he, hc1, hc2, hc3, hcell⟩
      · simp at hlt
      injection he with e1 e2 e3
      subst e1 e3
      have cc' : ∀ j u, (ckL l[kk])[j]? = some u → wr.cell? ⟨b0, off + kk * 9 + j, none⟩ = some u := fun j u hu => (hbw.cell (p := ⟨b0, off + kk * 9 + j, none⟩) hc3).trans (hcell kk hlt j u hu)
      have hsz := HZ.out _ (List.getElem_mem hlt)
      obtain ⟨y, hy⟩ : ∃ y, l[kk] = y := ⟨_, rfl⟩
      rw [hy] at cc' hsz
      have hTK := take_hit pr l kk hlt y hy
      clear hcell hy
      obtain ⟨yn, yv, yd, yp, yho, yse, yhi, yex, ycr⟩ := y
      have hsd : yd.size ≤ 100000 := hsz.1
      have hsp : yp.size ≤ 100000 := hsz.2
      clear hsz
      have c0 := cc' 0 _ rfl
      have c1 := cc' 1 _ rfl
      have c2 := cc' 2 _ rfl
      have c3 := cc' 3 _ rfl
      have c4 := cc' 4 _ rfl
      have c5 := cc' 5 _ rfl
      have c6 := cc' 6 _ rfl
      have c7 := cc' 7 _ rfl
      have c8 := cc' 8 _ rfl
      simp only [Nat.add_zero] at c0
      clear cc'
      obtain ⟨E, hE⟩ : ∃ E, exB ⟨yn, yv, yd, yp, yho, yse, yhi, yex, ycr⟩ now = E := ⟨_, rfl⟩
      obtain ⟨D, hD⟩ : ∃ D, domL b.data.toList yd.data.toList = D := ⟨_, rfl⟩
      obtain ⟨Pp, hPp⟩ : ∃ Pp, pathL d.data.toList yp.data.toList = Pp := ⟨_, rfl⟩
      have CE := Lib.hid (fun w => rexpired_is ⟨yn, yv, yd, yp, yho, yse, yhi, yex, ycr⟩ now E hE w)
      have cDm := fun w => rdomq_any b yd w (by omega) (by omega)
      have cPa := fun w => rpath_any d yp w (by omega) (by omega)
      have hBB : pr ⟨yn, yv, yd, yp, yho, yse, yhi, yex, ycr⟩ = ((if yho then yd.toList == b.toList else D) && !E && Pp && (!yse || a.toList == httpsL)) := by rw [← HPR.out]; unfold hitB; rw [hE]; simp only [hD, hPp]
      rw [hD] at cDm
      rw [hPp] at cPa
      have CDm := Lib.hid cDm
      have CPa := Lib.hid cPa
      have KA := AtL.new wr (ckL ⟨yn, yv, yd, yp, yho, yse, yhi, yex, ycr⟩) 29
      have hal := (Below.refl _ wr).alloc (Nat.le_refl _) (.cells (ckL ⟨yn, yv, yd, yp, yho, yse, yhi, yex, ycr⟩).toArray 29)
      have UA := UR.next hal
      have JA := JR.next hal
      have oA := own_below hown hal (Nat.le_refl _)
      have hBA := hbw.trans (hal.mono hwz)
      have hkz : (kk : Int) < (l.length : Int) := by omega
      have hk0 : (0 : Int) ≤ (kk : Int) := by omega
      obtain ⟨p, hp⟩ : ∃ p, pr ⟨yn, yv, yd, yp, yho, yse, yhi, yex, ycr⟩ = p := ⟨_, rfl⟩
      have HS := Lib.hid (hTK p hp)
      rw [hp] at hBB
      have HBB := Lib.hid hBB
      clear hE hD hPp cDm cPa hTK hp hBB
      go_upto_region 8 with fail
      obtain ⟨wA, hwA⟩ : ∃ wA : World, wr.alloc (.cells (ckL ⟨yn, yv, yd, yp, yho, yse, yhi, yex, ycr⟩).toArray 29) = wA := ⟨_, rfl⟩
      obtain ⟨K, hK⟩ : ∃ K, wr.heap.size = K := ⟨_, rfl⟩
      have hwK : w1.heap.size ≤ K := by omega
      rw [hwA] at KA UA JA oA hBA
      rw [hK] at KA
      rw [hwA, hK]
      clear hwA hK hal JR UR hown hbw j0 j1 jl c0 c1 c2 c3 c4 c5 c6 c7 c8 hwz
      go_cut [70] from 27 to 69 (fun c70 wx => Value.bool (!p) = c70 ∧ AtL wx K (ckL ⟨yn, yv, yd, yp, yho, yse, yhi, yex, ycr⟩) ∧ AtL wx U (urlL a b cc d e f) ∧ AtL wx J [.slice (some ⟨b0, off, none⟩) l.length sc, nx] ∧ wx.ownsRow w1.heap.size 29 9 pv ps.length (cellsK ckL ps) ∧ Below w1.heap.size w1 wx)
      case first =>
        have x0 := KA.c 0 rfl; have x1 := KA.c 1 rfl; have x2 := KA.c 2 rfl; have x3 := KA.c 3 rfl; have x4 := KA.c 4 rfl; have x5 := KA.c 5 rfl; have x6 := KA.c 6 rfl; have x7 := KA.c 7 rfl; have x8 := KA.c 8 rfl
        have kla := KA.lt
        cases E
        · cases yho
          · cases D
            · skip
              go_wp2_with (first
                | (go_at_call 29; with_reducible refine (CE.out _).mono ?_; rintro x w3 ⟨rfl, hb3⟩; have K3 := KA.next hb3; have U3 := UA.next hb3; have J3 := JA.next hb3; have o3 := own_below oA hb3 (Nat.le_refl _); have hB3 := hBA.trans (hb3.mono hBA.size); have z0 := K3.c 0 rfl; have z1 := K3.c 1 rfl; have z2 := K3.c 2 rfl; have z3 := K3.c 3 rfl; have z4 := K3.c 4 rfl; have z5 := K3.c 5 rfl; have z6 := K3.c 6 rfl; have z7 := K3.c 7 rfl; have z8 := K3.c 8 rfl; have u0 := U3.c 0 rfl; have u1 := U3.c 1 rfl; have u2 := U3.c 2 rfl; have u3 := U3.c 3 rfl; have u4 := U3.c 4 rfl; have u5 := U3.c 5 rfl; have kl3 := K3.lt; have ul3 := U3.lt)
                | (go_at_call 15; with_reducible refine (CDm.out _).mono ?_; rintro x w4 ⟨rfl, rfl⟩)
                | (go_at_call 17; with_reducible refine (CPa.out _).mono ?_; rintro x w4 ⟨rfl, rfl⟩))
              go_meet
              case rel => exact ⟨by rw [HBB.out]; first | rfl | (simp; done) | (simp [*]; done), K3, U3, J3, o3, hB3⟩
            · skip
              cases Pp
              · skip
                go_wp2_with (first
                  | (go_at_call 29; with_reducible refine (CE.out _).mono ?_; rintro x w3 ⟨rfl, hb3⟩; have K3 := KA.next hb3; have U3 := UA.next hb3; have J3 := JA.next hb3; have o3 := own_below oA hb3 (Nat.le_refl _); have hB3 := hBA.trans (hb3.mono hBA.size); have z0 := K3.c 0 rfl; have z1 := K3.c 1 rfl; have z2 := K3.c 2 rfl; have z3 := K3.c 3 rfl; have z4 := K3.c 4 rfl; have z5 := K3.c 5 rfl; have z6 := K3.c 6 rfl; have z7 := K3.c 7 rfl; have z8 := K3.c 8 rfl; have u0 := U3.c 0 rfl; have u1 := U3.c 1 rfl; have u2 := U3.c 2 rfl; have u3 := U3.c 3 rfl; have u4 := U3.c 4 rfl; have u5 := U3.c 5 rfl; have kl3 := K3.lt; have ul3 := U3.lt)
                  | (go_at_call 15; with_reducible refine (CDm.out _).mono ?_; rintro x w4 ⟨rfl, rfl⟩)
                  | (go_at_call 17; with_reducible refine (CPa.out _).mono ?_; rintro x w4 ⟨rfl, rfl⟩))
                go_meet
                case rel => exact ⟨by rw [HBB.out]; first | rfl | (simp; done) | (simp [*]; done), K3, U3, J3, o3, hB3⟩
              · cases yse
                · skip
                  go_wp2_with (first
                    | (go_at_call 29; with_reducible refine (CE.out _).mono ?_; rintro x w3 ⟨rfl, hb3⟩; have K3 := KA.next hb3; have U3 := UA.next hb3; have J3 := JA.next hb3; have o3 := own_below oA hb3 (Nat.le_refl _); have hB3 := hBA.trans (hb3.mono hBA.size); have z0 := K3.c 0 rfl; have z1 := K3.c 1 rfl; have z2 := K3.c 2 rfl; have z3 := K3.c 3 rfl; have z4 := K3.c 4 rfl; have z5 := K3.c 5 rfl; have z6 := K3.c 6 rfl; have z7 := K3.c 7 rfl; have z8 := K3.c 8 rfl; have u0 := U3.c 0 rfl; have u1 := U3.c 1 rfl; have u2 := U3.c 2 rfl; have u3 := U3.c 3 rfl; have u4 := U3.c 4 rfl; have u5 := U3.c 5 rfl; have kl3 := K3.lt; have ul3 := U3.lt)
                    | (go_at_call 15; with_reducible refine (CDm.out _).mono ?_; rintro x w4 ⟨rfl, rfl⟩)
                    | (go_at_call 17; with_reducible refine (CPa.out _).mono ?_; rintro x w4 ⟨rfl, rfl⟩))
                  go_meet
                  case rel => exact ⟨by rw [HBB.out]; first | rfl | (simp; done) | (simp [*]; done), K3, U3, J3, o3, hB3⟩
                · by_cases hsc : a.toList = httpsL
                  · have hs2 : a.toList = [104, 116, 116, 112, 115] := hsc
                    go_wp2_with (first
                      | (go_at_call 29; with_reducible refine (CE.out _).mono ?_; rintro x w3 ⟨rfl, hb3⟩; have K3 := KA.next hb3; have U3 := UA.next hb3; have J3 := JA.next hb3; have o3 := own_below oA hb3 (Nat.le_refl _); have hB3 := hBA.trans (hb3.mono hBA.size); have z0 := K3.c 0 rfl; have z1 := K3.c 1 rfl; have z2 := K3.c 2 rfl; have z3 := K3.c 3 rfl; have z4 := K3.c 4 rfl; have z5 := K3.c 5 rfl; have z6 := K3.c 6 rfl; have z7 := K3.c 7 rfl; have z8 := K3.c 8 rfl; have u0 := U3.c 0 rfl; have u1 := U3.c 1 rfl; have u2 := U3.c 2 rfl; have u3 := U3.c 3 rfl; have u4 := U3.c 4 rfl; have u5 := U3.c 5 rfl; have kl3 := K3.lt; have ul3 := U3.lt)
                      | (go_at_call 15; with_reducible refine (CDm.out _).mono ?_; rintro x w4 ⟨rfl, rfl⟩)
                      | (go_at_call 17; with_reducible refine (CPa.out _).mono ?_; rintro x w4 ⟨rfl, rfl⟩))
                    go_meet
                    case rel => exact ⟨by rw [HBB.out]; first | rfl | (simp; done) | (simp [*]; done), K3, U3, J3, o3, hB3⟩
                  · have hs2 : ¬ a.toList = [104, 116, 116, 112, 115] := hsc
                    have hs3 : (a.toList == [104, 116, 116, 112, 115]) = false := beq_eq_false_iff_ne.2 hs2
                    go_wp2_with (first
                      | (go_at_call 29; with_reducible refine (CE.out _).mono ?_; rintro x w3 ⟨rfl, hb3⟩; have K3 := KA.next hb3; have U3 := UA.next hb3; have J3 := JA.next hb3; have o3 := own_below oA hb3 (Nat.le_refl _); have hB3 := hBA.trans (hb3.mono hBA.size); have z0 := K3.c 0 rfl; have z1 := K3.c 1 rfl; have z2 := K3.c 2 rfl; have z3 := K3.c 3 rfl; have z4 := K3.c 4 rfl; have z5 := K3.c 5 rfl; have z6 := K3.c 6 rfl; have z7 := K3.c 7 rfl; have z8 := K3.c 8 rfl; have u0 := U3.c 0 rfl; have u1 := U3.c 1 rfl; have u2 := U3.c 2 rfl; have u3 := U3.c 3 rfl; have u4 := U3.c 4 rfl; have u5 := U3.c 5 rfl; have kl3 := K3.lt; have ul3 := U3.lt)
                      | (go_at_call 15; with_reducible refine (CDm.out _).mono ?_; rintro x w4 ⟨rfl, rfl⟩)
                      | (go_at_call 17; with_reducible refine (CPa.out _).mono ?_; rintro x w4 ⟨rfl, rfl⟩))
                    go_meet
                    case rel => exact ⟨by rw [HBB.out]; first | rfl | (simp; done) | (simp [*]; done), K3, U3, J3, o3, hB3⟩
          · by_cases hd : yd.toList = b.toList
            · obtain rfl : yd = b := ba_ext' (by rw [← ByteArray.toList_eq, ← ByteArray.toList_eq]; exact hd)
              clear hd
              cases Pp
              · skip
                go_wp2_with (first
                  | (go_at_call 29; with_reducible refine (CE.out _).mono ?_; rintro x w3 ⟨rfl, hb3⟩; have K3 := KA.next hb3; have U3 := UA.next hb3; have J3 := JA.next hb3; have o3 := own_below oA hb3 (Nat.le_refl _); have hB3 := hBA.trans (hb3.mono hBA.size); have z0 := K3.c 0 rfl; have z1 := K3.c 1 rfl; have z2 := K3.c 2 rfl; have z3 := K3.c 3 rfl; have z4 := K3.c 4 rfl; have z5 := K3.c 5 rfl; have z6 := K3.c 6 rfl; have z7 := K3.c 7 rfl; have z8 := K3.c 8 rfl; have u0 := U3.c 0 rfl; have u1 := U3.c 1 rfl; have u2 := U3.c 2 rfl; have u3 := U3.c 3 rfl; have u4 := U3.c 4 rfl; have u5 := U3.c 5 rfl; have kl3 := K3.lt; have ul3 := U3.lt)
                  | (go_at_call 15; with_reducible refine (CDm.out _).mono ?_; rintro x w4 ⟨rfl, rfl⟩)
                  | (go_at_call 17; with_reducible refine (CPa.out _).mono ?_; rintro x w4 ⟨rfl, rfl⟩))
                go_meet
                case rel => exact ⟨by rw [HBB.out]; first | rfl | (simp; done) | (simp [*]; done), K3, U3, J3, o3, hB3⟩
              · cases yse
                · skip
                  go_wp2_with (first
                    | (go_at_call 29; with_reducible refine (CE.out _).mono ?_; rintro x w3 ⟨rfl, hb3⟩; have K3 := KA.next hb3; have U3 := UA.next hb3; have J3 := JA.next hb3; have o3 := own_below oA hb3 (Nat.le_refl _); have hB3 := hBA.trans (hb3.mono hBA.size); have z0 := K3.c 0 rfl; have z1 := K3.c 1 rfl; have z2 := K3.c 2 rfl; have z3 := K3.c 3 rfl; have z4 := K3.c 4 rfl; have z5 := K3.c 5 rfl; have z6 := K3.c 6 rfl; have z7 := K3.c 7 rfl; have z8 := K3.c 8 rfl; have u0 := U3.c 0 rfl; have u1 := U3.c 1 rfl; have u2 := U3.c 2 rfl; have u3 := U3.c 3 rfl; have u4 := U3.c 4 rfl; have u5 := U3.c 5 rfl; have kl3 := K3.lt; have ul3 := U3.lt)
                    | (go_at_call 15; with_reducible refine (CDm.out _).mono ?_; rintro x w4 ⟨rfl, rfl⟩)
                    | (go_at_call 17; with_reducible refine (CPa.out _).mono ?_; rintro x w4 ⟨rfl, rfl⟩))
                  go_meet
                  case rel => exact ⟨by rw [HBB.out]; first | rfl | (simp; done) | (simp [*]; done), K3, U3, J3, o3, hB3⟩
                · by_cases hsc : a.toList = httpsL
                  · have hs2 : a.toList = [104, 116, 116, 112, 115] := hsc
                    go_wp2_with (first
                      | (go_at_call 29; with_reducible refine (CE.out _).mono ?_; rintro x w3 ⟨rfl, hb3⟩; have K3 := KA.next hb3; have U3 := UA.next hb3; have J3 := JA.next hb3; have o3 := own_below oA hb3 (Nat.le_refl _); have hB3 := hBA.trans (hb3.mono hBA.size); have z0 := K3.c 0 rfl; have z1 := K3.c 1 rfl; have z2 := K3.c 2 rfl; have z3 := K3.c 3 rfl; have z4 := K3.c 4 rfl; have z5 := K3.c 5 rfl; have z6 := K3.c 6 rfl; have z7 := K3.c 7 rfl; have z8 := K3.c 8 rfl; have u0 := U3.c 0 rfl; have u1 := U3.c 1 rfl; have u2 := U3.c 2 rfl; have u3 := U3.c 3 rfl; have u4 := U3.c 4 rfl; have u5 := U3.c 5 rfl; have kl3 := K3.lt; have ul3 := U3.lt)
                      | (go_at_call 15; with_reducible refine (CDm.out _).mono ?_; rintro x w4 ⟨rfl, rfl⟩)
                      | (go_at_call 17; with_reducible refine (CPa.out _).mono ?_; rintro x w4 ⟨rfl, rfl⟩))
                    go_meet
                    case rel => exact ⟨by rw [HBB.out]; first | rfl | (simp; done) | (simp [*]; done), K3, U3, J3, o3, hB3⟩
                  · have hs2 : ¬ a.toList = [104, 116, 116, 112, 115] := hsc
                    have hs3 : (a.toList == [104, 116, 116, 112, 115]) = false := beq_eq_false_iff_ne.2 hs2
                    go_wp2_with (first
                      | (go_at_call 29; with_reducible refine (CE.out _).mono ?_; rintro x w3 ⟨rfl, hb3⟩; have K3 := KA.next hb3; have U3 := UA.next hb3; have J3 := JA.next hb3; have o3 := own_below oA hb3 (Nat.le_refl _); have hB3 := hBA.trans (hb3.mono hBA.size); have z0 := K3.c 0 rfl; have z1 := K3.c 1 rfl; have z2 := K3.c 2 rfl; have z3 := K3.c 3 rfl; have z4 := K3.c 4 rfl; have z5 := K3.c 5 rfl; have z6 := K3.c 6 rfl; have z7 := K3.c 7 rfl; have z8 := K3.c 8 rfl; have u0 := U3.c 0 rfl; have u1 := U3.c 1 rfl; have u2 := U3.c 2 rfl; have u3 := U3.c 3 rfl; have u4 := U3.c 4 rfl; have u5 := U3.c 5 rfl; have kl3 := K3.lt; have ul3 := U3.lt)
                      | (go_at_call 15; with_reducible refine (CDm.out _).mono ?_; rintro x w4 ⟨rfl, rfl⟩)
                      | (go_at_call 17; with_reducible refine (CPa.out _).mono ?_; rintro x w4 ⟨rfl, rfl⟩))
                    go_meet
                    case rel => exact ⟨by rw [HBB.out]; first | rfl | (simp; done) | (simp [*]; done), K3, U3, J3, o3, hB3⟩
            · have hd2 : (yd.toList == b.toList) = false := beq_eq_false_iff_ne.2 hd
              go_wp2_with (first
                | (go_at_call 29; with_reducible refine (CE.out _).mono ?_; rintro x w3 ⟨rfl, hb3⟩; have K3 := KA.next hb3; have U3 := UA.next hb3; have J3 := JA.next hb3; have o3 := own_below oA hb3 (Nat.le_refl _); have hB3 := hBA.trans (hb3.mono hBA.size); have z0 := K3.c 0 rfl; have z1 := K3.c 1 rfl; have z2 := K3.c 2 rfl; have z3 := K3.c 3 rfl; have z4 := K3.c 4 rfl; have z5 := K3.c 5 rfl; have z6 := K3.c 6 rfl; have z7 := K3.c 7 rfl; have z8 := K3.c 8 rfl; have u0 := U3.c 0 rfl; have u1 := U3.c 1 rfl; have u2 := U3.c 2 rfl; have u3 := U3.c 3 rfl; have u4 := U3.c 4 rfl; have u5 := U3.c 5 rfl; have kl3 := K3.lt; have ul3 := U3.lt)
                | (go_at_call 15; with_reducible refine (CDm.out _).mono ?_; rintro x w4 ⟨rfl, rfl⟩)
                | (go_at_call 17; with_reducible refine (CPa.out _).mono ?_; rintro x w4 ⟨rfl, rfl⟩))
              go_meet
              case rel => exact ⟨by rw [HBB.out]; first | rfl | (simp; done) | (simp [*]; done), K3, U3, J3, o3, hB3⟩
        · skip
          go_wp2_with (first
            | (go_at_call 29; with_reducible refine (CE.out _).mono ?_; rintro x w3 ⟨rfl, hb3⟩; have K3 := KA.next hb3; have U3 := UA.next hb3; have J3 := JA.next hb3; have o3 := own_below oA hb3 (Nat.le_refl _); have hB3 := hBA.trans (hb3.mono hBA.size); have z0 := K3.c 0 rfl; have z1 := K3.c 1 rfl; have z2 := K3.c 2 rfl; have z3 := K3.c 3 rfl; have z4 := K3.c 4 rfl; have z5 := K3.c 5 rfl; have z6 := K3.c 6 rfl; have z7 := K3.c 7 rfl; have z8 := K3.c 8 rfl; have u0 := U3.c 0 rfl; have u1 := U3.c 1 rfl; have u2 := U3.c 2 rfl; have u3 := U3.c 3 rfl; have u4 := U3.c 4 rfl; have u5 := U3.c 5 rfl; have kl3 := K3.lt; have ul3 := U3.lt)
            | (go_at_call 15; with_reducible refine (CDm.out _).mono ?_; rintro x w4 ⟨rfl, rfl⟩)
            | (go_at_call 17; with_reducible refine (CPa.out _).mono ?_; rintro x w4 ⟨rfl, rfl⟩))
          go_meet
          case rel => exact ⟨by rw [HBB.out]; first | rfl | (simp; done) | (simp [*]; done), K3, U3, J3, o3, hB3⟩
      case rest =>
        obtain ⟨rfl, K9, U9, J9, own9, hB9⟩ := hcut
        cases p
        · go_wp2_with fail
          go_roundg (gk - 1)
          case measure => have := hkr.out; omega
          case rel => exact ⟨kk + 1, ps, pv, rfl, (by have := hkr.out; exact Lib.hid (by omega)), by omega, by go_num, own9, Lib.hid (by rw [HS.out]; simp only [Bool.false_eq_true, if_false, List.append_nil]; exact HP.out), by omega, hB9⟩
        · obtain ⟨pa, pcap, rfl, hpc, hpm, hpa⟩ := own_reads own9
          have HPA := Lib.hid hpa
          clear hpa
          unfold maxLen at hpm
          go_upto_block 2 with fail
          obtain ⟨wd, hwd⟩ : ∃ wd : World, wd = wc := ⟨_, rfl⟩
          subst hwd
          go_cut [10] from 73 to 85 (fun kv w2 => ∃ m : Nat, .int .i64 (m : Int) = kv ∧ m ≤ ps.length ∧ Hid (∀ j (h : j < ps.length), m ≤ j → ltC ⟨yn, yv, yd, yp, yho, yse, yhi, yex, ycr⟩ ps[j] = true) ∧ Hid (m = 0 ∨ ∃ t, ∃ h : t < ps.length, m = t + 1 ∧ ltC ⟨yn, yv, yd, yp, yho, yse, yhi, yex, ycr⟩ ps[t] = false) ∧ Below wd.heap.size wd w2)
          case first =>
            go_wp2_with fail
            go_loopw [10] (fun kv w2 => ∃ m : Nat, kv = .int .i64 m ∧ m ≤ ps.length ∧ Hid (∀ j (h : j < ps.length), m ≤ j → ltC ⟨yn, yv, yd, yp, yho, yse, yhi, yex, ycr⟩ ps[j] = true) ∧ Below wd.heap.size wd w2) (fun kv _ => (intOf kv).toNat)
            case atStart => exact ⟨ps.length, rfl, Nat.le_refl _, Lib.hid (fun j h1 h2 => by omega), Below.refl _ _⟩
            case round =>
              obtain ⟨m, rfl, hmp, HM, hb2⟩ := hrel
              have K2' := K9.next hb2
              have z0 := K2'.c 0 rfl; have z1 := K2'.c 1 rfl; have z2 := K2'.c 2 rfl; have z3 := K2'.c 3 rfl; have z4 := K2'.c 4 rfl; have z5 := K2'.c 5 rfl; have z6 := K2'.c 6 rfl; have z7 := K2'.c 7 rfl; have z8 := K2'.c 8 rfl
              have kl2 := K2'.lt
              rcases Nat.eq_zero_or_pos m with hm0 | hm0
              · subst hm0
                go_wp2_with fail
                go_region
                all_goals
                  go_wp2_with fail
                  go_meet
                  case rel => exact ⟨0, rfl, Nat.zero_le _, HM, Lib.hid (Or.inl rfl), below_drewN hb2 _⟩
              · obtain ⟨t, ht⟩ : ∃ t, m - 1 = t := ⟨_, rfl⟩
                have htm : m = t + 1 := by omega
                have htp : t < ps.length := by omega
                rcases HPA.out with ⟨_, h0⟩ | ⟨g, rfl, hgB, hgw, hcg⟩
                · omega
                have ct : ∀ q u, (ckL ps[t])[q]? = some u → wr.cell? ⟨g, t * 9 + q, none⟩ = some u := fun q u hu => (brl hb2 _ _ hgw).trans (hcg _ _ (cellsK_get ckL_len ps t htp q u hu))
                obtain ⟨x, hx⟩ : ∃ x, ps[t] = x := ⟨_, rfl⟩
                rw [hx] at ct
                obtain ⟨R, hR⟩ : ∃ R, ltC ⟨yn, yv, yd, yp, yho, yse, yhi, yex, ycr⟩ x = R := ⟨_, rfl⟩
                have CB := Lib.hid (fun W => before_is ⟨yn, yv, yd, yp, yho, yse, yhi, yex, ycr⟩ x R hR W)
                have HR := Lib.hid hR
                have HX := Lib.hid hx
                have HTM := Lib.hid htm
                have t0 := ct 0 _ rfl
                have t1 := ct 1 _ rfl
                have t2 := ct 2 _ rfl
                have t3 := ct 3 _ rfl
                have t4 := ct 4 _ rfl
                have t5 := ct 5 _ rfl
                have t6 := ct 6 _ rfl
                have t7 := ct 7 _ rfl
                have t8 := ct 8 _ rfl
                simp only [Nat.add_zero] at t0
                have hgl : g < wr.heap.size := Nat.lt_of_lt_of_le hgw hb2.size
                have hmz : (0 : Int) < (m : Int) := by omega
                have hs1 : (m : Int) - 1 = (t : Int) := by omega
                have hw1 : IntKind.i64.wrap ((m : Int) - 1) = (t : Int) := by rw [IntWalk.i64_in _ (by omega)]; omega
                have hw2 : IntKind.i64.wrap (t : Int) = (t : Int) := IntWalk.i64_in _ (by omega)
                have htz : (t : Int) < (ps.length : Int) := by omega
                have ht0 : (0 : Int) ≤ (t : Int) := by omega
                clear ct hR hx htm ht
                cases R
                · go_wp2_with fail
                  go_region_with (go_at_call 65; with_reducible refine (CB.out _).mono ?_; rintro x w5 ⟨rfl, hb5⟩)
                  all_goals
                    clear hw1 hw2
                    go_wp2_with fail
                    go_meet
                    case rel => exact ⟨m, rfl, hmp, HM, Lib.hid (Or.inr ⟨t, htp, HTM.out, by rw [HX.out]; exact HR.out⟩), hb2.trans (((Below.refl _ _).drew.trans hb5).mono hb2.size)⟩
                · go_wp2_with fail
                  go_region_with (go_at_call 65; with_reducible refine (CB.out _).mono ?_; rintro x w5 ⟨rfl, hb5⟩)
                  all_goals
                    clear hw1 hw2
                    go_wp2_with fail
                    go_roundw
                    case rel => exact ⟨t, by first | rfl | (congr 1; omega), by omega, Lib.hid (fun j h1 h2 => by
                      rcases Nat.eq_or_lt_of_le h2 with h3 | h3
                      · subst h3; rw [HX.out]; exact HR.out
                      · exact HM.out j h1 (by have := HTM.out; omega)), hb2.trans (((Below.refl _ _).drew.trans hb5).mono hb2.size)⟩
                    case measure => have := HTM.out; simp [intOf]; omega
          case rest =>
            obtain ⟨m, rfl, hmp, HM, HK, hb2⟩ := hcut
            have hB10 := hB9.trans (hb2.mono hB9.size)
            have K10 := K9.next hb2
            have U10 := U9.next hb2
            have J10 := J9.next hb2
            have own10 := own_below own9 hb2 (Nat.le_refl _)
            have hLP : (ps.take m).length = m := by rw [List.length_take]; omega
            have hLD : (ps.drop m).length = ps.length - m := List.length_drop
            have hlt1 : (cellsK ckL (ps.take m)).length = m * 9 := by rw [cellsK_len ckL_len, hLP]
            have hlt2 : (cellsK ckL (ps.drop m)).length = (ps.length - m) * 9 := by rw [cellsK_len ckL_len, hLD]
            have hIN := ins_cells ⟨yn, yv, yd, yp, yho, yse, yhi, yex, ycr⟩ ps m
            have hNX : insR ltC ⟨yn, yv, yd, yp, yho, yse, yhi, yex, ycr⟩ ps = ps.take m ++ ⟨yn, yv, yd, yp, yho, yse, yhi, yex, ycr⟩ :: ps.drop m := insR_at ltC _ _ ps m rfl hmp HM.out HK.out
            have hNL : (ps.take m ++ ⟨yn, yv, yd, yp, yho, yse, yhi, yex, ycr⟩ :: ps.drop m).length = 0 + m + 1 + (ps.length - m) := by simp; omega
            have hNS : insS ltC ((l.take (kk + 1)).filter pr) = ps.take m ++ ⟨yn, yv, yd, yp, yho, yse, yhi, yex, ycr⟩ :: ps.drop m := by rw [HS.out, if_pos rfl, insS_snoc, ← HP.out, hNX]
            obtain ⟨pn, hpn⟩ : ∃ pn, ps.take m ++ ⟨yn, yv, yd, yp, yho, yse, yhi, yex, ycr⟩ :: ps.drop m = pn := ⟨_, rfl⟩
            rw [hpn] at hIN hNL hNS
            have HIN := Lib.hid hIN
            have HNL := Lib.hid hNL
            have HNS := Lib.hid hNS
            have HL1 := Lib.hid hlt1
            have HL2 := Lib.hid hlt2
            obtain ⟨we, hwe⟩ : ∃ we : World, we = wc := ⟨_, rfl⟩
            subst hwe
            clear hIN hNL hNS hlt1 hlt2 hLP hLD hNX hpn
            have hB1e := hB10.size
            have OZ := World.ownsRow_nil we we.heap.size 29 9
            have hmz1 : (m : Int) ≤ (ps.length : Int) := by omega
            have hmz2 : (ps.length : Int) ≤ (pcap : Int) := by omega
            have hmz3 : (m : Int) ≤ (pcap : Int) := by omega
            have hpl1 : ps.length ≤ 1000 := by omega
            have hq1 : (0 + m) * 88 ≤ 140737488355328 := by omega
            have hq2 : 0 + m ≤ 140737488355328 := by omega
            have hq3 : (0 + m + 1) * 88 ≤ 140737488355328 := by omega
            have hq4 : 0 + m + 1 ≤ 140737488355328 := by omega
            have hq5 : (0 + m + 1 + (ps.length - m)) * 88 ≤ 140737488355328 := by omega
            have hq6 : 0 + m + 1 + (ps.length - m) ≤ 140737488355328 := by omega
            rcases HPA.out with ⟨rfl, h0⟩ | ⟨g, rfl, hgB, hgw, hcg⟩
            · obtain rfl : ps = [] := List.eq_nil_of_length_eq_zero h0
              obtain rfl : m = 0 := by simpa using hmp
              clear h0
              go_upto_region 14 with (refine app_src slC _ (by rfl) (.tmp 86) (.tmp 89) (by rfl) we.heap.size _ 0 [] (by rfl) OZ (cellsK ckL (List.take 0 ([] : List Ck))) none 0 _ (by rfl) HL1.out (Or.inl ⟨rfl, rfl⟩) (one9s _) hq1 hq2 (Nat.le_refl _) ?_; intro v1 w5 own5 g5; have hB5 := below_own (Below.refl _ we) OZ g5 (Nat.le_refl _) (Nat.le_refl _); have K5 := K10.next hB5; have z0 := K5.c 0 rfl; have z1 := K5.c 1 rfl; have z2 := K5.c 2 rfl; have z3 := K5.c 3 rfl; have z4 := K5.c 4 rfl; have z5 := K5.c 5 rfl; have z6 := K5.c 6 rfl; have z7 := K5.c 7 rfl; have z8 := K5.c 8 rfl; have kl5 := K5.lt; have hz5 := hB5.size)
              go_upto_region 15 with (refine app2 slC _ (by rfl) (.tmp 91) (.tmp 93) (by rfl) we.heap.size _ _ _ (by rfl) own5 [_, _, _, _, _, _, _, _, _] 1 _ (by rfl) rfl (by rfl) (by intro u hu; simp at hu; rcases hu with rfl | rfl | rfl | rfl | rfl | rfl | rfl | rfl | rfl <;> rfl) (by decide) hq3 hq4 hz5 ?_; intro v2 w6 own6 g6 f6; have hB6 := below_own hB5 own5 g6 hz5 (Nat.le_refl _); have hz6 := hB6.size)
              clear z0 z1 z2 z3 z4 z5 z6 z7 z8 kl5
              go_wp2_with (refine app_src slC _ (by rfl) (.tmp 95) (.tmp 98) (by rfl) we.heap.size _ _ _ (by rfl) own6 (cellsK ckL (List.drop 0 ([] : List Ck))) none (List.length ([] : List Ck) - 0) _ (by rfl) HL2.out (Or.inl ⟨rfl, rfl⟩) (one9s _) hq5 hq6 hz6 ?_; intro v3 w7 own7 g7; have hB7 := below_own hB6 own6 g7 hz6 (Nat.le_refl _))
              go_roundg (gk - 1)
              case measure => have := hkr.out; omega
              case rel => exact ⟨kk + 1, pn, v3, rfl, (by have := hkr.out; exact Lib.hid (by omega)), by omega, by go_num, own_eq (own_mono own7 hB1e) (by first | exact HNL.out.symm | (have := HNL.out; omega)) HIN.out, Lib.hid HNS.out.symm, by have := HNL.out; omega, hB10.trans (hB7.mono hB1e)⟩
            · have hcw : ∀ j u, (cellsK ckL ps)[j]? = some u → we.cell? ⟨g, j, none⟩ = some u := fun j u hu => (brl hb2 _ _ hgw).trans (hcg j u hu)
              have hc1 : ∀ j u, (cellsK ckL (ps.take m))[j]? = some u → we.cell? ⟨g, 0 + j, none⟩ = some u := fun j u hu => by rw [Nat.zero_add]; exact hcw j u (ck_take ps m j u hu)
              have HC1 := Lib.hid hc1
              by_cases hmc : m = pcap
              · have hc3 : ∀ j u, (cellsK ckL (ps.drop m))[j]? = some u → we.cell? ⟨g, 0 + j, none⟩ = some u := fun j u hu => by
                  have h9 := (List.getElem?_eq_some_iff.1 hu).1
                  rw [HL2.out] at h9
                  omega
                have HC3 := Lib.hid hc3
                obtain rfl := hmc
                clear hc3 hc1 hcw hcg
                go_upto_region 14 with (refine app_src slC _ (by rfl) (.tmp 86) (.tmp 89) (by rfl) we.heap.size _ 0 [] (by rfl) OZ (cellsK ckL (ps.take m)) _ m _ (by rfl) HL1.out (Or.inr ⟨⟨g, 0, none⟩, by rfl, kept_cells (Below.refl _ we) HC1.out⟩) (one9s _) hq1 hq2 (Nat.le_refl _) ?_; intro v1 w5 own5 g5; have hB5 := below_own (Below.refl _ we) OZ g5 (Nat.le_refl _) (Nat.le_refl _); have K5 := K10.next hB5; have z0 := K5.c 0 rfl; have z1 := K5.c 1 rfl; have z2 := K5.c 2 rfl; have z3 := K5.c 3 rfl; have z4 := K5.c 4 rfl; have z5 := K5.c 5 rfl; have z6 := K5.c 6 rfl; have z7 := K5.c 7 rfl; have z8 := K5.c 8 rfl; have kl5 := K5.lt; have hz5 := hB5.size)
                go_upto_region 15 with (refine app2 slC _ (by rfl) (.tmp 91) (.tmp 93) (by rfl) we.heap.size _ _ _ (by rfl) own5 [_, _, _, _, _, _, _, _, _] 1 _ (by rfl) rfl (by rfl) (by intro u hu; simp at hu; rcases hu with rfl | rfl | rfl | rfl | rfl | rfl | rfl | rfl | rfl <;> rfl) (by decide) hq3 hq4 hz5 ?_; intro v2 w6 own6 g6 f6; have hB6 := below_own hB5 own5 g6 hz5 (Nat.le_refl _); have hz6 := hB6.size)
                clear z0 z1 z2 z3 z4 z5 z6 z7 z8 kl5
                go_wp2_with (refine app_src slC _ (by rfl) (.tmp 95) (.tmp 98) (by rfl) we.heap.size _ _ _ (by rfl) own6 (cellsK ckL (ps.drop m)) _ _ _ (by rfl) (by first | exact HL2.out | (have := HL2.out; omega)) (Or.inr ⟨_, rfl, kept_cells hB6 HC3.out⟩) (one9s _) (by first | exact hq5 | omega) (by first | exact hq6 | omega) hz6 ?_; intro v3 w7 own7 g7; have hB7 := below_own hB6 own6 g7 hz6 (Nat.le_refl _))
                go_roundg (gk - 1)
                case measure => have := hkr.out; omega
                case rel => exact ⟨kk + 1, pn, v3, rfl, (by have := hkr.out; exact Lib.hid (by omega)), by omega, by go_num, own_eq (own_mono own7 hB1e) (by first | exact HNL.out.symm | (have := HNL.out; omega)) HIN.out, Lib.hid HNS.out.symm, by have := HNL.out; omega, hB10.trans (hB7.mono hB1e)⟩
              · have hc3 : ∀ j u, (cellsK ckL (ps.drop m))[j]? = some u → we.cell? ⟨g, m * 9 + j, none⟩ = some u := fun j u hu => hcw _ u (ck_drop ps m hmp j u hu)
                have HC3 := Lib.hid hc3
                have hmc' : ¬ pcap = m := fun e => hmc e.symm
                clear hc3 hc1 hcw hcg
                go_upto_region 14 with (refine app_src slC _ (by rfl) (.tmp 86) (.tmp 89) (by rfl) we.heap.size _ 0 [] (by rfl) OZ (cellsK ckL (ps.take m)) _ m _ (by rfl) HL1.out (Or.inr ⟨⟨g, 0, none⟩, by rfl, kept_cells (Below.refl _ we) HC1.out⟩) (one9s _) hq1 hq2 (Nat.le_refl _) ?_; intro v1 w5 own5 g5; have hB5 := below_own (Below.refl _ we) OZ g5 (Nat.le_refl _) (Nat.le_refl _); have K5 := K10.next hB5; have z0 := K5.c 0 rfl; have z1 := K5.c 1 rfl; have z2 := K5.c 2 rfl; have z3 := K5.c 3 rfl; have z4 := K5.c 4 rfl; have z5 := K5.c 5 rfl; have z6 := K5.c 6 rfl; have z7 := K5.c 7 rfl; have z8 := K5.c 8 rfl; have kl5 := K5.lt; have hz5 := hB5.size)
                go_upto_region 15 with (refine app2 slC _ (by rfl) (.tmp 91) (.tmp 93) (by rfl) we.heap.size _ _ _ (by rfl) own5 [_, _, _, _, _, _, _, _, _] 1 _ (by rfl) rfl (by rfl) (by intro u hu; simp at hu; rcases hu with rfl | rfl | rfl | rfl | rfl | rfl | rfl | rfl | rfl <;> rfl) (by decide) hq3 hq4 hz5 ?_; intro v2 w6 own6 g6 f6; have hB6 := below_own hB5 own5 g6 hz5 (Nat.le_refl _); have hz6 := hB6.size)
                clear z0 z1 z2 z3 z4 z5 z6 z7 z8 kl5
                go_wp2_with (refine app_src slC _ (by rfl) (.tmp 95) (.tmp 98) (by rfl) we.heap.size _ _ _ (by rfl) own6 (cellsK ckL (ps.drop m)) _ _ _ (by rfl) (by first | exact HL2.out | (have := HL2.out; omega)) (Or.inr ⟨_, rfl, kept_cells hB6 HC3.out⟩) (one9s _) (by first | exact hq5 | omega) (by first | exact hq6 | omega) hz6 ?_; intro v3 w7 own7 g7; have hB7 := below_own hB6 own6 g7 hz6 (Nat.le_refl _))
                go_roundg (gk - 1)
                case measure => have := hkr.out; omega
                case rel => exact ⟨kk + 1, pn, v3, rfl, (by have := hkr.out; exact Lib.hid (by omega)), by omega, by go_num, own_eq (own_mono own7 hB1e) (by first | exact HNL.out.symm | (have := HNL.out; omega)) HIN.out, Lib.hid HNS.out.symm, by have := HNL.out; omega, hB10.trans (hB7.mono hB1e)⟩
    · obtain rfl : kk = l.length := by omega
      have hps : ps = out := by rw [HP.out, List.take_length]; exact HH.out
      subst hps
      go_wp2_with fail
      go_ret
      exact ⟨_, rfl, own_mono hown (Nat.le_of_lt (by have := HJ.out; omega)), hB1.trans (hbw.mono (Nat.le_of_lt (by have := HJ.out; omega)))⟩
end Go.Proofs.YtgjooigolgdocaaGreatDoor

/- Cookies: the reference's Text. -/
namespace Go.Proofs.YtgjooigolgdocaaGreatDoor
set_option linter.unusedVariables false
set_option linter.unusedSimpArgs false
open Go.RowKit

theorem lib_join_snoc (sep x : List UInt8) : ∀ l : List (List UInt8), l ≠ [] → Lib.join (l ++ [x]) sep = Lib.join l sep ++ sep ++ x
  | [], h => absurd rfl h
  | y :: r, _ => by
    rw [List.cons_append, Lib.join_cons, Lib.join_cons]
    simp [Lib.joinTail]
theorem joinL_snoc (l : List Ck) (c : Ck) (h : l ≠ []) : joinL (l ++ [c]) = joinL l ++ [59, 32] ++ pairT c := by
  unfold joinL
  rw [List.map_append]
  exact lib_join_snoc _ _ _ (by simpa using h)
theorem joinL_one (c : Ck) : joinL [c] = pairT c := by unfold joinL; simp [Lib.join_one]
theorem joinL_nil : joinL [] = [] := rfl
theorem joinL_ne (l : List Ck) (h : l ≠ []) : joinL l ≠ [] := by
  obtain ⟨a, c, rfl⟩ : ∃ a c, l = a ++ [c] := ⟨l.dropLast, l.getLast h, (List.dropLast_concat_getLast h).symm⟩
  by_cases ha : a = []
  · subst ha; rw [List.nil_append, joinL_one]; simp [pairT]
  · rw [joinL_snoc _ _ ha]; simp [pairT]
/-- the cookies whose text is made -/
def shownL (sc : Bool) (l : List Ck) : List Ck := l.filter (fun c => !(sc && c.hi))
theorem shown_step (sc : Bool) (l : List Ck) (k : Nat) (h : k < l.length) (y : Ck) (hy : l[k] = y) (b : Bool) (hb : (sc && y.hi) = b) : shownL sc (l.take (k + 1)) = shownL sc (l.take k) ++ (if b then [] else [y]) := by
  subst hy hb
  unfold shownL
  have e : [l[k]].filter (fun c => !(sc && c.hi)) = if (sc && l[k].hi) then [] else [l[k]] := by
    rw [List.filter_cons, List.filter_nil]
    generalize (sc && l[k].hi) = b
    cases b <;> rfl
  rw [List.take_succ_eq_append_getElem h, List.filter_append, e]
theorem sz_step0 (yn yv : ByteArray) : ((⟨#[]⟩ : ByteArray) ++ (yn ++ ⟨#[61]⟩ ++ yv)).size = yn.size + 1 + yv.size := by
  rw [ByteArray.size_append, ByteArray.size_append, ByteArray.size_append]
  show 0 + (yn.size + 1 + yv.size) = _
  omega
theorem sz_step (s yn yv : ByteArray) : (s ++ ⟨#[59, 32]⟩ ++ (yn ++ ⟨#[61]⟩ ++ yv)).size = s.size + 2 + (yn.size + 1 + yv.size) := by
  rw [ByteArray.size_append, ByteArray.size_append, ByteArray.size_append, ByteArray.size_append]
  rfl
theorem join_step (M : List Ck) (s yn yv : ByteArray) (yd yp : ByteArray) (yho yse yhi : Bool) (yex ycr : Int) (hs : s.data.toList = joinL M) (h0 : M ≠ []) :
    (s ++ ⟨#[59, 32]⟩ ++ (yn ++ ⟨#[61]⟩ ++ yv)).data.toList = joinL (M ++ [⟨yn, yv, yd, yp, yho, yse, yhi, yex, ycr⟩]) := by
  rw [joinL_snoc _ _ h0, ← hs]
  simp [pairT]
theorem join_step0 (s yn yv : ByteArray) (yd yp : ByteArray) (yho yse yhi : Bool) (yex ycr : Int) (hs : s.data.toList = []) :
    (s ++ (yn ++ ⟨#[61]⟩ ++ yv)).data.toList = joinL ([] ++ [⟨yn, yv, yd, yp, yho, yse, yhi, yex, ycr⟩]) := by
  rw [List.nil_append, joinL_one]
  simp [pairT, hs]
set_option maxRecDepth 20000 in
set_option maxHeartbeats 4000000 in
theorem text_no (l : List Ck) (v : Value) (w : World) (hv : SlK ckL 9 w v l) (hl : l.length ≤ 1000) (hsz : ∀ c ∈ l, c.n.size ≤ 100000 ∧ c.v.size ≤ 100000) (R : ByteArray) (hR : R.data.toList = joinL (shownL false l)) :
    Calls Tryz.prog 26 #[v, .bool false] w fun x w' => x = .returned (.string R) ∧ Below w.heap.size w w' := by
  have HR := Lib.hid hR
  have HZ := Lib.hid hsz
  have hv1 := hv
  obtain ⟨sa, sc, rfl, _⟩ := hv.shape
  clear hR hsz hv
  go_enter Tryz.func26, Tryz.ntmps26
  go_wp2_with fail
  go_loopw [5, 6] (fun sv iv wr => ∃ (k : Nat) (s : ByteArray), k ≤ l.length ∧ iv = .int .i64 k ∧ sv = .string s ∧ Hid (s.data.toList = joinL (shownL false (l.take k))) ∧ s.size ≤ k * 200003 ∧ Below w.heap.size w wr) (fun _ iv _ => l.length - (intOf iv).toNat)
  case atStart => exact ⟨0, _, Nat.zero_le _, rfl, rfl, Lib.hid rfl, Nat.zero_le _, Below.refl _ _⟩
  case round =>
    obtain ⟨kk, s, hk, rfl, rfl, HS, hss, hbw⟩ := hrel
    have hwz := hbw.size
    by_cases hlt : kk < l.length
    · rcases hv1 with ⟨rfl, _⟩ | ⟨_, b0, off, cap, he, hc1, hc2, hc3, hcell⟩
      · simp at hlt
      injection he with e1 e2 e3
      subst e1 e3
      have cc : ∀ j u, (ckL l[kk])[j]? = some u → wr.cell? ⟨b0, off + kk * 9 + j, none⟩ = some u := fun j u hu => (hbw.cell (p := ⟨b0, off + kk * 9 + j, none⟩) hc3).trans (hcell kk hlt j u hu)
      obtain ⟨y, hy⟩ : ∃ y, l[kk] = y := ⟨_, rfl⟩
      have hsz := HZ.out _ (List.getElem_mem hlt)
      rw [hy] at cc hsz
      have HY := Lib.hid hy
      clear hy
      obtain ⟨yn, yv, yd, yp, yho, yse, yhi, yex, ycr⟩ := y
      have hsn : yn.size ≤ 100000 := hsz.1
      have hsv : yv.size ≤ 100000 := hsz.2
      have c0 := cc 0 _ rfl
      have c1 := cc 1 _ rfl
      have c6 := cc 6 _ rfl
      simp only [Nat.add_zero] at c0
      clear cc hsz
      have hki : (kk : Int) < (l.length : Int) := by omega
      have hk0 : (0 : Int) ≤ (kk : Int) := by omega
      have hb0w : b0 < wr.heap.size := Nat.lt_of_lt_of_le hc3 hwz
      have hst := shown_step false l kk hlt _ HY.out
      obtain ⟨M, hM⟩ : ∃ M, shownL false (l.take kk) = M := ⟨_, rfl⟩
      rw [hM] at hst HS
      clear hM hcell hc3
      have o1 : ¬ 9223372036854775807 < yn.size + 1 := by omega
      have o2 : ¬ 9223372036854775807 < yn.size + 1 + yv.size := by omega
      have o3 : ¬ 9223372036854775807 < s.size + 2 := by omega
      have o4 : ¬ 9223372036854775807 < s.size + (yn.size + 1 + yv.size) := by omega
      have o5 : ¬ 9223372036854775807 < s.size + 2 + (yn.size + 1 + yv.size) := by omega
      cases yhi
      all_goals
        first
        | (have HST := Lib.hid (hst true rfl)
           clear hst
           go_wp2_with fail
           go_roundw
           case rel => exact ⟨kk + 1, s, by omega, by go_num, rfl, Lib.hid (by rw [HST.out, if_pos rfl, List.append_nil]; exact HS.out), Nat.le_trans hss (Nat.mul_le_mul_right _ (Nat.le_succ kk)), hbw⟩
           case measure => simp [intOf]; omega)
        | (have HST := Lib.hid (hst false rfl)
           clear hst
           by_cases h0 : M = []
           · have hse : s.data.toList = [] := by rw [HS.out, h0]; rfl
             obtain rfl : s = ⟨#[]⟩ := ba_ext' hse
             have HM := Lib.hid h0
             clear hse h0
             go_wp2_with fail
             go_quiet (fail)
             go_wp2_with fail
             go_roundw
             case rel => exact ⟨kk + 1, _, by omega, by go_num, rfl, Lib.hid (by rw [HST.out, if_neg (by simp), HM.out]; exact join_step0 _ _ _ _ _ _ _ _ _ _ rfl), Nat.le_trans (Nat.le_of_eq (sz_step0 _ _)) (by omega), below_drewN hbw _⟩
             case measure => simp [intOf]; omega
           · have hs1 : ¬ s.toList = [] := by
               intro e
               rw [ByteArray.toList_eq, HS.out] at e
               exact joinL_ne M h0 e
             have hs2 : (s.toList == []) = false := beq_eq_false_iff_ne.2 hs1
             have HM := Lib.hid h0
             clear h0
             go_wp2_with fail
             go_quiet (fail)
             go_wp2_with fail
             go_roundw
             case rel => exact ⟨kk + 1, _, by omega, by go_num, rfl, Lib.hid (by rw [HST.out, if_neg (by simp)]; exact join_step _ _ _ _ _ _ _ _ _ _ _ HS.out HM.out), Nat.le_trans (Nat.le_of_eq (sz_step _ _ _)) (by omega), below_drewN hbw _⟩
             case measure => simp [intOf]; omega)
    · obtain rfl : kk = l.length := by omega
      have hq : s = R := ba_ext' (by rw [HS.out, HR.out, List.take_length])
      subst hq
      go_wp2_with fail
      go_ret
      exact ⟨rfl, hbw⟩
set_option maxRecDepth 20000 in
set_option maxHeartbeats 4000000 in
theorem text_yes (l : List Ck) (v : Value) (w : World) (hv : SlK ckL 9 w v l) (hl : l.length ≤ 1000) (hsz : ∀ c ∈ l, c.n.size ≤ 100000 ∧ c.v.size ≤ 100000) (R : ByteArray) (hR : R.data.toList = joinL (shownL true l)) :
    Calls Tryz.prog 26 #[v, .bool true] w fun x w' => x = .returned (.string R) ∧ Below w.heap.size w w' := by
  have HR := Lib.hid hR
  have HZ := Lib.hid hsz
  have hv1 := hv
  obtain ⟨sa, sc, rfl, _⟩ := hv.shape
  clear hR hsz hv
  go_enter Tryz.func26, Tryz.ntmps26
  go_wp2_with fail
  go_loopw [5, 6] (fun sv iv wr => ∃ (k : Nat) (s : ByteArray), k ≤ l.length ∧ iv = .int .i64 k ∧ sv = .string s ∧ Hid (s.data.toList = joinL (shownL true (l.take k))) ∧ s.size ≤ k * 200003 ∧ Below w.heap.size w wr) (fun _ iv _ => l.length - (intOf iv).toNat)
  case atStart => exact ⟨0, _, Nat.zero_le _, rfl, rfl, Lib.hid rfl, Nat.zero_le _, Below.refl _ _⟩
  case round =>
    obtain ⟨kk, s, hk, rfl, rfl, HS, hss, hbw⟩ := hrel
    have hwz := hbw.size
    by_cases hlt : kk < l.length
    · rcases hv1 with ⟨rfl, _⟩ | ⟨_, b0, off, cap, he, hc1, hc2, hc3, hcell⟩
      · simp at hlt
      injection he with e1 e2 e3
      subst e1 e3
      have cc : ∀ j u, (ckL l[kk])[j]? = some u → wr.cell? ⟨b0, off + kk * 9 + j, none⟩ = some u := fun j u hu => (hbw.cell (p := ⟨b0, off + kk * 9 + j, none⟩) hc3).trans (hcell kk hlt j u hu)
      obtain ⟨y, hy⟩ : ∃ y, l[kk] = y := ⟨_, rfl⟩
      have hsz := HZ.out _ (List.getElem_mem hlt)
      rw [hy] at cc hsz
      have HY := Lib.hid hy
      clear hy
      obtain ⟨yn, yv, yd, yp, yho, yse, yhi, yex, ycr⟩ := y
      have hsn : yn.size ≤ 100000 := hsz.1
      have hsv : yv.size ≤ 100000 := hsz.2
      have c0 := cc 0 _ rfl
      have c1 := cc 1 _ rfl
      have c6 := cc 6 _ rfl
      simp only [Nat.add_zero] at c0
      clear cc hsz
      have hki : (kk : Int) < (l.length : Int) := by omega
      have hk0 : (0 : Int) ≤ (kk : Int) := by omega
      have hb0w : b0 < wr.heap.size := Nat.lt_of_lt_of_le hc3 hwz
      have hst := shown_step true l kk hlt _ HY.out
      obtain ⟨M, hM⟩ : ∃ M, shownL true (l.take kk) = M := ⟨_, rfl⟩
      rw [hM] at hst HS
      clear hM hcell hc3
      have o1 : ¬ 9223372036854775807 < yn.size + 1 := by omega
      have o2 : ¬ 9223372036854775807 < yn.size + 1 + yv.size := by omega
      have o3 : ¬ 9223372036854775807 < s.size + 2 := by omega
      have o4 : ¬ 9223372036854775807 < s.size + (yn.size + 1 + yv.size) := by omega
      have o5 : ¬ 9223372036854775807 < s.size + 2 + (yn.size + 1 + yv.size) := by omega
      cases yhi
      all_goals
        first
        | (have HST := Lib.hid (hst true rfl)
           clear hst
           go_wp2_with fail
           go_roundw
           case rel => exact ⟨kk + 1, s, by omega, by go_num, rfl, Lib.hid (by rw [HST.out, if_pos rfl, List.append_nil]; exact HS.out), Nat.le_trans hss (Nat.mul_le_mul_right _ (Nat.le_succ kk)), hbw⟩
           case measure => simp [intOf]; omega)
        | (have HST := Lib.hid (hst false rfl)
           clear hst
           by_cases h0 : M = []
           · have hse : s.data.toList = [] := by rw [HS.out, h0]; rfl
             obtain rfl : s = ⟨#[]⟩ := ba_ext' hse
             have HM := Lib.hid h0
             clear hse h0
             go_wp2_with fail
             go_quiet (fail)
             go_wp2_with fail
             go_roundw
             case rel => exact ⟨kk + 1, _, by omega, by go_num, rfl, Lib.hid (by rw [HST.out, if_neg (by simp), HM.out]; exact join_step0 _ _ _ _ _ _ _ _ _ _ rfl), Nat.le_trans (Nat.le_of_eq (sz_step0 _ _)) (by omega), below_drewN hbw _⟩
             case measure => simp [intOf]; omega
           · have hs1 : ¬ s.toList = [] := by
               intro e
               rw [ByteArray.toList_eq, HS.out] at e
               exact joinL_ne M h0 e
             have hs2 : (s.toList == []) = false := beq_eq_false_iff_ne.2 hs1
             have HM := Lib.hid h0
             clear h0
             go_wp2_with fail
             go_quiet (fail)
             go_wp2_with fail
             go_roundw
             case rel => exact ⟨kk + 1, _, by omega, by go_num, rfl, Lib.hid (by rw [HST.out, if_neg (by simp)]; exact join_step _ _ _ _ _ _ _ _ _ _ _ HS.out HM.out), Nat.le_trans (Nat.le_of_eq (sz_step _ _ _)) (by omega), below_drewN hbw _⟩
             case measure => simp [intOf]; omega)
    · obtain rfl : kk = l.length := by omega
      have hq : s = R := ba_ext' (by rw [HS.out, HR.out, List.take_length])
      subst hq
      go_wp2_with fail
      go_ret
      exact ⟨rfl, hbw⟩
end Go.Proofs.YtgjooigolgdocaaGreatDoor

/- Cookies: slices.DeleteFunc on an owned row in general; Script; Expire. -/
namespace Go.Proofs.YtgjooigolgdocaaGreatDoor
set_option linter.unusedVariables false
set_option linter.unusedSimpArgs false
open Go.RowKit

theorem idxI_cases {α : Type} (p : α → Bool) (l : List α) : (idxI p l = -1 ∧ l.filter (fun c => !p c) = l) ∨ ∃ k : Nat, idxI p l = k := by
  unfold idxI
  by_cases h : l.any p
  · right; rw [if_pos h]; exact ⟨_, rfl⟩
  · left
    rw [if_neg h]
    refine ⟨rfl, ?_⟩
    rw [List.filter_eq_self]
    intro a ha
    cases hp : p a with
    | false => rfl
    | true => exact absurd (List.any_eq_true.2 ⟨a, ha, hp⟩) h
/-- what DeleteFunc makes of an owned row -/
def DelQ (B : Nat) (v : Value) (out : List Ck) (w : World) (e : Ending) (w' : World) : Prop :=
  ∃ v', e = .returned v' ∧ w'.ownsRow B 29 9 v' out.length (cellsK ckL out) ∧ v'.ownBlock = v.ownBlock ∧ (∀ J, RowBut w.heap.size J v.ownBlock w w')
theorem delq_open {B : Nat} {v : Value} {out : List Ck} {w : World} {e : Ending} {w' : World} (h : DelQ B v out w e w') :
  ∃ a c, e = .returned (.slice a out.length c) ∧ w'.ownsRow B 29 9 (.slice a out.length c) out.length (cellsK ckL out) ∧ (Value.slice a out.length c).ownBlock = v.ownBlock ∧ (∀ J, RowBut w.heap.size J v.ownBlock w w') := by
  obtain ⟨v', h1, h2, h3, h4⟩ := h
  obtain ⟨a, c, rfl, _⟩ := own_reads h2
  exact ⟨a, c, h1, h2, h3, h4⟩
theorem del_any (p : Ck → Bool) (gf : Nat) (cb : Array Value) (eg : ∀ args w, (callFunc gf args).run Tryz.prog w = .ok (.enter gf args) w) (l out : List Ck) (v : Value) (K : Nat) (vs : List Value) (w : World) (B : Nat)
    (hown : w.ownsRow B 29 9 v l.length (cellsK ckL l)) (hA : AtL w K vs) (hgK : v.ownBlock ≠ some K)
    (hp : ∀ W d, AtL W K vs → Calls Tryz.prog gf (#[ckA d] ++ cb) W fun e W' => e = .returned (.bool (p d)) ∧ Below W.heap.size W W')
    (hn : l.length ≤ 1000) (ho : l.filter (fun c => !p c) = out) :
    Calls Tryz.prog 66 #[v, .func (.func gf) #[] cb] w (DelQ B v out w) := by
  rcases idxI_cases p l with ⟨h1, h2⟩ | ⟨k, hk⟩
  · obtain rfl : l = out := h2.symm.trans ho
    refine (del_none p gf cb eg l v w (SlK.of_own ckL_len hown) (fun W d hb => (hp W d (hA.next hb)).mono fun e w2 h => ⟨h.1, hb.trans (h.2.mono hb.size)⟩) (by omega) h1).mono ?_
    rintro e w' ⟨rfl, hb⟩
    exact ⟨v, rfl, own_below hown hb (Nat.le_refl _), rfl, fun J => (RowBut.refl _ J _ w).below hb (Nat.le_refl _)⟩
  · obtain ⟨a, cap, rfl, hc, hm, ha⟩ := own_reads hown
    rcases ha with ⟨rfl, h0⟩ | ⟨g, rfl, hg, hgw, _⟩
    · obtain rfl : l = [] := List.eq_nil_of_length_eq_zero h0
      simp [idxI] at hk
    · subst ho
      refine (del_some p gf cb eg l g cap K vs w B hown hA (fun e => hgK (by rw [e]; rfl)) hp hn k hk).mono ?_
      rintro e w' ⟨rfl, h1, h2⟩
      exact ⟨_, rfl, h1, rfl, fun J => (RowBut.refl _ J _ w).step h2 (Nat.le_refl _)⟩
theorem atl_row {J k : Nat} {o : Option Nat} {w w' : World} {vs : List Value} (h : RowBut w.heap.size J o w w') (hA : AtL w k vs) (h1 : k ≠ J) (h2 : o ≠ some k) : AtL w' k vs := by
  have hh := h.block k hA.1 h1 h2
  exact ⟨Nat.lt_of_lt_of_le hA.1 h.size, fun j v hv => ⟨(World.cell?_of_block (w := w) hh).trans (hA.c j hv), (World.frozen?_of_block (w := w) hh).trans (hA.f j hv)⟩⟩
theorem hid_pred (K : Nat) (vs : List Value) (W : World) (d : Ck) (h : AtL W K vs) : Calls Tryz.prog 67 (#[ckA d] ++ #[]) W fun e W' => e = .returned (.bool d.hi) ∧ Below W.heap.size W W' := by
  have hB := (Below.refl _ W).alloc (Nat.le_refl _) (.cells (ckL d).toArray 29)
  show Calls Tryz.prog 67 #[ckA d] W _
  obtain ⟨dn, dv, dd, dp, dho, dse, dhi, dex, dcr⟩ := d
  cases dhi
  all_goals
    go_enter Tryz.func67, Tryz.ntmps67
    go_wp2_with fail
    go_ret
    exact ⟨rfl, hB⟩
theorem exp_pred (now : Int) (K : Nat) (W : World) (d : Ck) (h : AtL W K [.int .i64 now]) : Calls Tryz.prog 68 (#[ckA d] ++ #[.pointer (some ⟨K, 0, none⟩)]) W fun e W' => e = .returned (.bool (exB d now)) ∧ Below W.heap.size W W' := by
  have hB := (Below.refl _ W).alloc (Nat.le_refl _) (.cells (ckL d).toArray 29)
  have CE := Lib.hid (fun W => expired_is d now (exB d now) rfl W)
  have k0 := h.c 0 rfl
  have kl := h.lt
  have hz := hB.size
  show Calls Tryz.prog 68 #[ckA d, .pointer (some ⟨K, 0, none⟩)] W _
  obtain ⟨R, hR⟩ : ∃ R, exB d now = R := ⟨_, rfl⟩
  rw [hR] at CE
  rw [hR]
  clear hR h
  go_enter Tryz.func68, Tryz.ntmps68
  go_wp2_with (go_at_call 60; with_reducible refine (CE.out _).mono ?_; rintro x w1 ⟨rfl, hb1⟩)
  go_ret
  exact ⟨rfl, hB.trans (hb1.mono hz)⟩
theorem shown_true (l : List Ck) : l.filter (fun c => !c.hi) = shownL true l := by simp [shownL]
theorem shown_false (l : List Ck) : shownL false l = l := by
  unfold shownL
  rw [List.filter_eq_self]
  intro a _
  simp
/-- Script, by Match -/
theorem script_of (a b cc d e f : ByteArray) (now : Int) (w : World) (jb : Nat) (out : List Ck) (hl : out.length ≤ 1000) (hsz : ∀ c ∈ out, c.n.size ≤ 100000 ∧ c.v.size ≤ 100000) (R : ByteArray) (hR : R.data.toList = joinL (shownL true out))
    (hm : ∀ w', Below w.heap.size w w' → Calls Tryz.prog 24 #[.pointer (some ⟨jb, 0, none⟩), urlA a b cc d e f, .int .i64 now] w' fun x w'' => ∃ v', x = .returned v' ∧ w''.ownsRow w'.heap.size 29 9 v' out.length (cellsK ckL out) ∧ Below w'.heap.size w' w'') :
    Calls Tryz.prog 27 #[.pointer (some ⟨jb, 0, none⟩), urlA a b cc d e f, .int .i64 now] w fun x w' => x = .returned (.string R) ∧ Below w.heap.size w w' := by
  have CM := Lib.hid hm
  obtain ⟨sh, hsh⟩ : ∃ sh, shownL true out = sh := ⟨_, rfl⟩
  rw [hsh] at hR
  have hshl : sh.length ≤ 1000 := by rw [← hsh]; exact Nat.le_trans (List.length_filter_le _ _) hl
  have CJ := Lib.hid (fun v w hv => join_is sh v w hv hshl (fun c hc => hsz c (by rw [← hsh] at hc; exact (List.mem_filter.1 hc).1)) R hR)
  have hb0 : Below w.heap.size w (w.alloc (.cells (urlL a b cc d e f).toArray 23)) := (Below.refl _ w).alloc (Nat.le_refl _) _
  have U0 := AtL.new w (urlL a b cc d e f) 23
  have CD := Lib.hid (fun (v : Value) (B : Nat) (w' : World) (hown : w'.ownsRow B 29 9 v out.length (cellsK ckL out)) (hA : AtL w' w.heap.size (urlL a b cc d e f)) (hne : v.ownBlock ≠ some w.heap.size) =>
    del_any (fun c => c.hi) 67 #[] (enters_of Tryz.func67 (by kernel_rfl) rfl) out sh v w.heap.size _ w' B hown hA hne (fun W d h => hid_pred _ _ W d h) hl (by rw [shown_true]; exact hsh))
  clear hm hsz hR hsh
  go_enter Tryz.func27, Tryz.ntmps27
  go_wp2_with (first
    | (go_at_call 24; with_reducible refine (CM.out _ hb0).mono ?_; rintro x w1 ⟨v', rfl, hown, hb1⟩; have U1 := U0.next hb1; have hb2 := hb0.trans (hb1.mono hb0.size); have hbs : w.heap.size < (w.alloc (.cells (urlL a b cc d e f).toArray 23)).heap.size := by simp)
    | (go_at_call 66; refine (CD.out _ _ _ hown U1 (fun e => by have := own_base hown e; omega)).mono ?_; rintro x w2 hq; obtain ⟨a2, c2, rfl, hown2, heq2, hr2⟩ := delq_open hq; clear hq; have hv := SlK.of_own ckL_len hown2; have hb3 := ((hr2 w.heap.size).but hown hb1.size).to_below hb2 (by simp) (Nat.le_refl _))
    | (go_at_call 59; with_reducible refine (CJ.out _ _ hv).mono ?_; rintro x w3 ⟨rfl, hb4⟩))
  go_ret
  exact ⟨rfl, hb3.trans (hb4.mono hb3.size)⟩
/-- Expire: the cookies that have expired are gone -/
theorem expire_is (l : List Ck) (nx : Int) (now : Int) (v : Value) (jb B : Nat) (w : World) (hJ : JarIn w jb B v l nx) (hl : l.length ≤ 1000) (out : List Ck) (ho : l.filter (fun c => !exB c now) = out) :
    Calls Tryz.prog 30 #[.pointer (some ⟨jb, 0, none⟩), .int .i64 now] w fun x w' => x = .returned (.int .i64 (l.length - out.length : Nat)) ∧ (∃ v', JarIn w' jb B v' out nx) ∧ RowBut w.heap.size jb v.ownBlock w w' := by
  have hol : out.length ≤ l.length := by rw [← ho]; exact List.length_filter_le _ _
  have hb0 : Below w.heap.size w (w.alloc (.cells [.int .i64 now].toArray 3)) := (Below.refl _ w).alloc (Nat.le_refl _) _
  have N0 := AtL.new w [.int .i64 now] 3
  have J0 := hJ.below hb0 (Nat.le_refl _)
  have hjl := hJ.at_.lt
  have hfr := own_fresh hJ.own
  obtain ⟨a0, c0, rfl, _⟩ := own_reads hJ.own
  have CD := Lib.hid (fun (w' : World) (hown : w'.ownsRow B 29 9 (.slice a0 l.length c0) l.length (cellsK ckL l)) (hA : AtL w' w.heap.size [.int .i64 now]) =>
    del_any (fun c => exB c now) 68 #[.pointer (some ⟨w.heap.size, 0, none⟩)] (enters_of Tryz.func68 (by kernel_rfl) rfl) l out (.slice a0 l.length c0) w.heap.size _ w' B hown hA hfr (fun W d h => exp_pred now _ W d h) hl ho)
  have HR0 := Lib.hid ((RowBut.refl w.heap.size jb (Value.slice a0 l.length c0).ownBlock w).below hb0 (Nat.le_refl _))
  have j0 := J0.at_.c 0 rfl
  have f0 := J0.at_.f 0 rfl
  have jl := J0.at_.lt
  have HJ := Lib.hid J0.ne
  have hsub : IntKind.i64.wrap ((l.length : Int) - (out.length : Int)) = ((l.length - out.length : Nat) : Int) := by rw [IntWalk.i64_in _ (by omega)]; omega
  have HSB := Lib.hid hsub
  have hol' : (out.length : Int) ≤ (l.length : Int) := by omega
  clear hJ ho hfr hsub
  go_enter Tryz.func30, Tryz.ntmps30
  go_wp2_with (go_at_call 66; with_reducible refine (CD.out _ J0.own N0).mono ?_; rintro x w2 hq; obtain ⟨a2, c2, rfl, hown2, heq2, hr2⟩ := delq_open hq; clear hq; have hrj := hr2 jb; have hne2 : (Value.slice a2 out.length c2).ownBlock ≠ some jb := (by rw [heq2]; exact HJ.out); have A2 := atl_row (hr2 (jb + 1)) J0.at_ (Nat.ne_of_lt (Nat.lt_succ_self jb)) HJ.out; have a20 := A2.c 0 rfl; have g20 := A2.f 0 rfl; have jl2 := A2.lt)
  go_ret
  have h1 := (HR0.out.trans (RowBut.mono (hr2 jb) hb0.size)).setCell ⟨jb, 0, none⟩ (Or.inl rfl) (.slice a2 out.length c2)
  exact ⟨ret_int (by first | exact HSB.out | omega), ⟨_, ⟨A2.set 0 _, ownsRow_setCell_other (a := ⟨jb, 0, none⟩) hown2 hne2 _, hne2, by rw [World.size_setCell]; exact Nat.le_trans J0.le (hr2 jb).size⟩⟩, h1⟩
end Go.Proofs.YtgjooigolgdocaaGreatDoor

/- Cookies: a request's cells. -/
namespace Go.Proofs.YtgjooigolgdocaaGreatDoor
set_option linter.unusedVariables false
set_option linter.unusedSimpArgs false
open Go.RowKit

abbrev askL (a b cc d e f : ByteArray) (now : Int) : List Value := [.string a, .string b, .string cc, .string d, .string e, .string f, .int .i64 now]
abbrev askA (a b cc d e f : ByteArray) (now : Int) : Value := .agg #[.string a, .string b, .string cc, .string d, .string e, .string f, .int .i64 now]
theorem short_size {a b cc d e f : ByteArray} (h : shortB a b cc d e f = true) : USize 40000 a b cc d e f := by
  obtain ⟨h1, h2, h3, h4, h5, h6⟩ := shortB_iff h
  exact ⟨by omega, by omega, by omega, by omega, by omega, by omega⟩
end Go.Proofs.YtgjooigolgdocaaGreatDoor

/- Cookies: Match, Header and Script at any list; the reference's Match. -/
namespace Go.Proofs.YtgjooigolgdocaaGreatDoor
set_option linter.unusedVariables false
set_option linter.unusedSimpArgs false
open Go.RowKit Go.Sort

theorem insR_mem {α : Type} (lt : α → α → Bool) (x : α) : ∀ (n : Nat) (l : List α), l.length = n → ∀ y, y ∈ insR lt x l → y = x ∨ y ∈ l := by
  intro n
  induction n with
  | zero =>
    intro l hl y hy
    obtain rfl : l = [] := List.eq_nil_of_length_eq_zero hl
    simp [insR_nil] at hy
    exact .inl hy
  | succ n ih =>
    intro l hl y hy
    obtain ⟨l', z, rfl⟩ : ∃ l' z, l = l' ++ [z] := ⟨l.dropLast, l.getLast (by intro e; rw [e] at hl; simp at hl), (List.dropLast_concat_getLast _).symm⟩
    rw [insR_snoc] at hy
    by_cases h : lt x z = true
    · rw [if_pos h] at hy
      rcases List.mem_append.1 hy with h1 | h1
      · rcases ih l' (by simpa using hl) y h1 with h2 | h2
        · exact .inl h2
        · exact .inr (List.mem_append_left _ h2)
      · exact .inr (List.mem_append_right _ h1)
    · rw [if_neg h] at hy
      rcases List.mem_append.1 hy with h1 | h1
      · exact .inr (List.mem_append_left _ h1)
      · simp at h1
        rcases h1 with rfl | rfl
        · exact .inr (by simp)
        · exact .inl rfl
theorem insS_mem {α : Type} (lt : α → α → Bool) : ∀ (n : Nat) (l : List α), l.length = n → ∀ y, y ∈ insS lt l → y ∈ l := by
  intro n
  induction n with
  | zero =>
    intro l hl y hy
    obtain rfl : l = [] := List.eq_nil_of_length_eq_zero hl
    exact hy
  | succ n ih =>
    intro l hl y hy
    obtain ⟨l', z, rfl⟩ : ∃ l' z, l = l' ++ [z] := ⟨l.dropLast, l.getLast (by intro e; rw [e] at hl; simp at hl), (List.dropLast_concat_getLast _).symm⟩
    rw [insS_snoc] at hy
    rcases insR_mem lt z _ _ rfl y hy with rfl | h
    · simp
    · exact List.mem_append_left _ (ih l' (by simpa using hl) y h)
/-- the cookies that are sent, in their order -/
def matchL (T : Bool) (a b d : ByteArray) (now : Int) (l : List Ck) : List Ck := if T then insS ltC (l.filter (hitB a b d now)) else []
theorem matchL_len (T : Bool) (a b d : ByteArray) (now : Int) (l : List Ck) : (matchL T a b d now l).length ≤ l.length := by
  unfold matchL
  cases T
  · simp
  · rw [if_pos rfl, insS_length]; exact List.length_filter_le _ _
theorem matchL_mem (T : Bool) (a b d : ByteArray) (now : Int) (l : List Ck) (c : Ck) (h : c ∈ matchL T a b d now l) : c ∈ l := by
  unfold matchL at h
  cases T
  · simp at h
  · rw [if_pos rfl] at h
    exact (List.mem_filter.1 (insS_mem ltC _ _ rfl c h)).1
/-- what a Match answers -/
def MatQ (w : World) (out : List Ck) (x : Ending) (w' : World) : Prop := ∃ v', x = .returned v' ∧ w'.ownsRow w.heap.size 29 9 v' out.length (cellsK ckL out) ∧ Below w.heap.size w w'
theorem matq_open {w : World} {out : List Ck} {x : Ending} {w' : World} (h : MatQ w out x w') : ∃ a c, x = .returned (.slice a out.length c) ∧ SlK ckL 9 w' (.slice a out.length c) out ∧ Below w.heap.size w w' := by
  obtain ⟨v', rfl, h1, h2⟩ := h
  obtain ⟨a, c, rfl, _⟩ := own_reads h1
  exact ⟨a, c, rfl, SlK.of_own ckL_len h1, h2⟩
theorem slk_len {α : Type} {enc : α → List Value} {k : Nat} {w : World} {v : Value} {l : List α} (h : SlK enc k w v l) : l.length ≤ 9223372036854775807 := by
  rcases h with ⟨rfl, _⟩ | ⟨h0, b, off, cap, hv, e2, e3, h4, h5⟩
  · simp
  · unfold maxLen at e3; omega
/-- sizes of the cookies, as the walks want them -/
def Szs (l : List Ck) : Prop := ∀ c ∈ l, (c.d.size ≤ 100000 ∧ c.p.size ≤ 100000) ∧ c.n.size ≤ 100000 ∧ c.v.size ≤ 100000
theorem match_any (T : Bool) (a b cc d e f : ByteArray) (now : Int) (hT : takesB (u6 a b cc d e f) = T) (l : List Ck) (v nx : Value) (jb : Nat) (w : World) (hz : USize 40000 a b cc d e f) (hM : MaxAt w) (hv : SlK ckL 9 w v l) (hJ : AtL w jb [v, nx])
    (hl : l.length ≤ 1000) (hsz : Szs l) (out : List Ck) (ho : matchL T a b d now l = out) :
    Calls Tryz.prog 24 #[.pointer (some ⟨jb, 0, none⟩), urlA a b cc d e f, .int .i64 now] w (MatQ w out) := by
  subst ho
  cases T
  · exact (match_no a b cc d e f now hT jb w hz hM).mono fun x w' h => ⟨_, h.1, World.ownsRow_nil _ _ _ _, h.2⟩
  · exact match_yes a b cc d e f now hT l v nx jb w hz hM hv hJ hl (fun c hc => (hsz c hc).1) _ _ rfl (sort_long _ (Nat.le_trans (List.length_filter_le _ _) hl))
theorem rmatch_any (T : Bool) (a b cc d e f : ByteArray) (now : Int) (hT : takesB (u6 a b cc d e f) = T) (l : List Ck) (v nx : Value) (w : World) (hz : USize 40000 a b cc d e f) (hM : MaxAt w) (hv : SlK ckL 9 w v l)
    (hl : l.length ≤ 1000) (hsz : Szs l) (out : List Ck) (ho : matchL T a b d now l = out) :
    Calls Tryz.prog 25 #[.agg #[v, nx], urlA a b cc d e f, .int .i64 now] w (MatQ w out) := by
  subst ho
  cases T
  · exact (rmatch_no a b cc d e f now hT v nx w hz hM).mono fun x w' h => ⟨_, h.1, World.ownsRow_nil _ _ _ _, h.2⟩
  · exact rmatch_yes a b cc d e f now hT l v nx w hz hM hv hl (fun c hc => (hsz c hc).1) _ rfl
theorem header_any (T : Bool) (a b cc d e f : ByteArray) (now : Int) (hT : takesB (u6 a b cc d e f) = T) (l : List Ck) (v nx : Value) (jb : Nat) (w : World) (hz : USize 40000 a b cc d e f) (hM : MaxAt w) (hv : SlK ckL 9 w v l) (hJ : AtL w jb [v, nx])
    (hl : l.length ≤ 1000) (hsz : Szs l) (R : ByteArray) (hR : R.data.toList = joinL (matchL T a b d now l)) :
    Calls Tryz.prog 21 #[.pointer (some ⟨jb, 0, none⟩), urlA a b cc d e f, .int .i64 now] w fun x w' => x = .returned (.string R) ∧ Below w.heap.size w w' :=
  header_of a b cc d e f now w jb _ (Nat.le_trans (matchL_len _ _ _ _ _ _) hl) (fun c hc => (hsz c (matchL_mem _ _ _ _ _ _ c hc)).2) R hR fun w' hb => match_any T a b cc d e f now hT l v nx jb w' hz (hM.below hb (Nat.le_refl _)) (hv.below hb (Nat.le_refl _)) (hJ.below hb hJ.1) hl hsz _ rfl
theorem script_any (T : Bool) (a b cc d e f : ByteArray) (now : Int) (hT : takesB (u6 a b cc d e f) = T) (l : List Ck) (v nx : Value) (jb : Nat) (w : World) (hz : USize 40000 a b cc d e f) (hM : MaxAt w) (hv : SlK ckL 9 w v l) (hJ : AtL w jb [v, nx])
    (hl : l.length ≤ 1000) (hsz : Szs l) (R : ByteArray) (hR : R.data.toList = joinL (shownL true (matchL T a b d now l))) :
    Calls Tryz.prog 27 #[.pointer (some ⟨jb, 0, none⟩), urlA a b cc d e f, .int .i64 now] w fun x w' => x = .returned (.string R) ∧ Below w.heap.size w w' :=
  script_of a b cc d e f now w jb _ (Nat.le_trans (matchL_len _ _ _ _ _ _) hl) (fun c hc => (hsz c (matchL_mem _ _ _ _ _ _ c hc)).2) R hR fun w' hb => match_any T a b cc d e f now hT l v nx jb w' hz (hM.below hb (Nat.le_refl _)) (hv.below hb (Nat.le_refl _)) (hJ.below hb hJ.1) hl hsz _ rfl
theorem few_szs {l : List Ck} {nx : Int} (h : fewB l nx = true) : Szs l := fun c hc => by
  have h1 := (few_fact h).1 c hc
  unfold lenC at h1
  omega
/-- what a drawn region asks of the request's and the jar's cells -/
theorem sa_mk' {W w' : World} {A : Nat} {a b c d e f g : Value} (h : AtL W A [a, b, c, d, e, f, g]) (hb : Below W.heap.size W w') : w'.cell? ⟨A, 0, none⟩ = some a ∧ w'.cell? ⟨A, 1, none⟩ = some b ∧ w'.cell? ⟨A, 2, none⟩ = some c ∧ w'.cell? ⟨A, 3, none⟩ = some d ∧ w'.cell? ⟨A, 4, none⟩ = some e ∧ w'.cell? ⟨A, 5, none⟩ = some f ∧ w'.cell? ⟨A, 6, none⟩ = some g :=
  ⟨(brl hb _ _ h.lt).trans (h.c 0 rfl), (brl hb _ _ h.lt).trans (h.c 1 rfl), (brl hb _ _ h.lt).trans (h.c 2 rfl), (brl hb _ _ h.lt).trans (h.c 3 rfl), (brl hb _ _ h.lt).trans (h.c 4 rfl), (brl hb _ _ h.lt).trans (h.c 5 rfl), (brl hb _ _ h.lt).trans (h.c 6 rfl)⟩
theorem sj_mk' {W w' : World} {J : Nat} {a b : Value} (h : AtL W J [a, b]) (hb : Below W.heap.size W w') : w'.cell? ⟨J, 0, none⟩ = some a ∧ w'.cell? ⟨J, 1, none⟩ = some b :=
  ⟨(brl hb _ _ h.lt).trans (h.c 0 rfl), (brl hb _ _ h.lt).trans (h.c 1 rfl)⟩
theorem saj_mk {W w' : World} {A J : Nat} {a b c d e f g x y : Value} (h : AtL W A [a, b, c, d, e, f, g]) (hj : AtL W J [x, y]) (hb : Below W.heap.size W w') : w'.cell? ⟨A, 0, none⟩ = some a ∧ w'.cell? ⟨A, 1, none⟩ = some b ∧ w'.cell? ⟨A, 2, none⟩ = some c ∧ w'.cell? ⟨A, 3, none⟩ = some d ∧ w'.cell? ⟨A, 4, none⟩ = some e ∧ w'.cell? ⟨A, 5, none⟩ = some f ∧ w'.cell? ⟨A, 6, none⟩ = some g ∧ w'.cell? ⟨J, 0, none⟩ = some x ∧ w'.cell? ⟨J, 1, none⟩ = some y :=
  ⟨(brl hb _ _ h.lt).trans (h.c 0 rfl), (brl hb _ _ h.lt).trans (h.c 1 rfl), (brl hb _ _ h.lt).trans (h.c 2 rfl), (brl hb _ _ h.lt).trans (h.c 3 rfl), (brl hb _ _ h.lt).trans (h.c 4 rfl), (brl hb _ _ h.lt).trans (h.c 5 rfl), (brl hb _ _ h.lt).trans (h.c 6 rfl), sj_mk' hj hb⟩
end Go.Proofs.YtgjooigolgdocaaGreatDoor

/- Cookies: what is filtered out of a sorted list; what Expire and Secret lean on. -/
namespace Go.Proofs.YtgjooigolgdocaaGreatDoor
set_option linter.unusedVariables false
set_option linter.unusedSimpArgs false
open Go.RowKit Go.Sort

theorem tw_filter {α : Type} (p : α → Bool) : ∀ (l : List α), l.Pairwise (fun a b => p a = false → p b = false) → l.takeWhile p = l.filter p ∧ l.dropWhile p = l.filter (fun x => !p x) := by
  intro l
  induction l with
  | nil => intro _; exact ⟨rfl, rfl⟩
  | cons y r ih =>
    intro h
    rw [List.pairwise_cons] at h
    cases hp : p y with
    | true =>
      have h2 := ih h.2
      simp [List.takeWhile_cons, List.dropWhile_cons, List.filter_cons, hp, h2.1, h2.2]
    | false =>
      have h1 : ∀ z ∈ r, p z = false := fun z hz => h.1 z hz hp
      have e1 : r.filter p = [] := by
        rw [List.filter_eq_nil_iff]
        intro z hz
        simp [h1 z hz]
      have e2 : r.filter (fun x => !p x) = r := by
        rw [List.filter_eq_self]
        intro z hz
        simp [h1 z hz]
      simp [List.takeWhile_cons, List.dropWhile_cons, List.filter_cons, hp, e1, e2]
theorem insR_parts {α : Type} (lt : α → α → Bool) (hO : SWO lt) (x : α) (l : List α) (hs : Srt lt l) : insR lt x l = l.filter (fun y => !lt x y) ++ x :: l.filter (fun y => lt x y) := by
  have h := tw_filter (fun y => !lt x y) l (hs.imp fun {a b} hab ha => by
    simp only [Bool.not_eq_false'] at ha ⊢
    cases hb : lt x b with
    | true => rfl
    | false =>
      have := hO.ntrans x b a hb hab
      rw [ha] at this; cases this)
  rw [insR_srt lt hO x l hs, mg_one, h.1, h.2]
  simp
theorem insR_filter {α : Type} (lt : α → α → Bool) (hO : SWO lt) (q : α → Bool) (x : α) (l : List α) (hs : Srt lt l) : (insR lt x l).filter q = if q x then insR lt x (l.filter q) else l.filter q := by
  rw [insR_parts lt hO x l hs, List.filter_append, List.filter_cons]
  have hs2 : Srt lt (l.filter q) := List.Pairwise.sublist List.filter_sublist hs
  cases hq : q x with
  | true =>
    rw [if_pos rfl, if_pos rfl, insR_parts lt hO x _ hs2]
    simp only [List.filter_filter]
    congr 1
    · exact List.filter_congr fun y _ => Bool.and_comm _ _
    · congr 1
      exact List.filter_congr fun y _ => Bool.and_comm _ _
  | false =>
    have h3 := insR_parts lt hO x l hs
    have h := tw_filter (fun y => !lt x y) l (hs.imp fun {a b} hab ha => by
      simp only [Bool.not_eq_false'] at ha ⊢
      cases hb : lt x b with
      | true => rfl
      | false =>
        have := hO.ntrans x b a hb hab
        rw [ha] at this; cases this)
    have h4 : l.filter (fun y => !lt x y) ++ l.filter (fun y => lt x y) = l := by
      have := List.takeWhile_append_dropWhile (p := fun y => !lt x y) (l := l)
      rw [h.1, h.2] at this
      simpa using this
    simp only [Bool.false_eq_true, if_false]
    rw [← List.filter_append, h4]
theorem insS_filter {α : Type} (lt : α → α → Bool) (hO : SWO lt) (q : α → Bool) : ∀ (n : Nat) (l : List α), l.length = n → (insS lt l).filter q = insS lt (l.filter q) := by
  intro n
  induction n with
  | zero =>
    intro l hl
    obtain rfl : l = [] := List.eq_nil_of_length_eq_zero hl
    rfl
  | succ n ih =>
    intro l hl
    obtain ⟨l', z, rfl⟩ : ∃ l' z, l = l' ++ [z] := ⟨l.dropLast, l.getLast (by intro e; rw [e] at hl; simp at hl), (List.dropLast_concat_getLast _).symm⟩
    rw [insS_snoc, insR_filter lt hO q z _ (srt_insS lt hO l'), ih l' (by simpa using hl), List.filter_append, List.filter_cons, List.filter_nil]
    cases q z with
    | true => rw [if_pos rfl, if_pos rfl, insS_snoc]
    | false => simp
/-- the cookies that go into the open jar -/
def openB (a : ByteArray) (c : Ck) : Bool := !c.hi && !(c.se && !(a.toList == httpsL))
theorem match_open (T : Bool) (a b d : ByteArray) (now : Int) (l : List Ck) : matchL T a b d now (l.filter (openB a)) = shownL true (matchL T a b d now l) := by
  unfold matchL shownL
  cases T
  · rfl
  · rw [if_pos rfl, if_pos rfl, insS_filter ltC swoC _ _ _ rfl, List.filter_filter, List.filter_filter]
    congr 1
    refine List.filter_congr fun c _ => ?_
    unfold hitB openB
    cases c.hi <;> cases c.se <;> cases (a.toList == httpsL) <;> simp
theorem match_open2 (T : Bool) (a b d : ByteArray) (now : Int) (l : List Ck) : shownL true (matchL T a b d now (l.filter (openB a))) = matchL T a b d now (l.filter (openB a)) := by
  unfold shownL
  rw [List.filter_eq_self]
  intro c hc
  have := (List.mem_filter.1 (matchL_mem _ _ _ _ _ _ c hc)).2
  unfold openB at this
  simp at this
  simp [this.1]
theorem match_fresh (T : Bool) (a b d : ByteArray) (now : Int) (l : List Ck) : matchL T a b d now (l.filter (fun c => !exB c now)) = matchL T a b d now l := by
  unfold matchL
  cases T
  · rfl
  · rw [if_pos rfl, if_pos rfl, List.filter_filter]
    congr 1
    refine List.filter_congr fun c _ => ?_
    unfold hitB
    cases exB c now <;> simp
end Go.Proofs.YtgjooigolgdocaaGreatDoor
