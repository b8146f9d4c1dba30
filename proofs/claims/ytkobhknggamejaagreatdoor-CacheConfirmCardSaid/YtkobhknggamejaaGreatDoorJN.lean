/- Cache: the reference's Merge. -/
import Derived.Test.YtkobhknggamejaaGreatDoorHQ
namespace Go.Proofs.YtkobhknggamejaaGreatDoor
set_option linter.unusedVariables false
set_option linter.unusedSimpArgs false
open Go.RowKit

theorem keepg_snoc {α : Type} (l : List α) (p : α → Bool) (k : Nat) (h : k < l.length) (x : α) (hx : l[k] = x) : (l.take (k + 1)).filter p = (l.take k).filter p ++ if p x then [x] else [] := by
  subst hx
  rw [List.take_succ_eq_append_getElem h, List.filter_append]
  cases hq : p l[k] <;> simp [hq]
theorem run_append_none {P : Program} {w : World} (base : Nat) (t ty e : TypeId) (i : TypeInfo) (size : Nat) (ht : P.underlying t = some (.slice e)) (hi : P.info? e = some i)
    (v : Value) (n : Nat) (xs : List Value) (hown : w.ownsRow base e size v n xs) (c : Nat) : (Builtin.append_ #[t, t] ty #[v, .slice none 0 c]).run P w = .ok v w := by
  rcases hown.2 with ⟨rfl, rfl⟩ | ⟨g, cap, cur, rfl, _, _, hnc, _⟩
  · simp [Builtin.append_, run_underlying ht, sizeOf, typeInfo, hi, Builtin.lenOf, Builtin.firstCells]
  · simp [Builtin.append_, run_underlying ht, sizeOf, typeInfo, hi, Builtin.lenOf, Builtin.firstCells, hnc, storeCells]
/-- an append of elements that lie in memory, or of none -/
theorem app_src {P : Program} {T E size bytes : Nat} (ty : SlTy P T E size bytes) (W : World) {ops : Array Oper} {rest : List Oper} {o : Oper} {a : Act} {Q : Exit → Act → World → Prop}
    (hgd : o.guard = none) (s x : Operand) (ho : o.op = .call { callee := .builtin .append, args := #[s, x], argTypes := #[T, T] })
    (B : Nat) (v : Value) (n : Nat) (xs : List Value) (hs : a.eval s = v) (hown : W.ownsRow B E size v n xs) (news : List Value) (A : Option Addr) (m c : Nat)
    (hx : a.eval x = .slice A m c) (hl : news.length = m * size) (hc : (A = none ∧ m = 0) ∨ ∃ ad, A = some ad ∧ ∀ j u, news[j]? = some u → W.cell? (ad.add j) = some u) (h1 : ∀ u ∈ news, u.oneCell' = true)
    (hb : (n + m) * bytes ≤ 140737488355328) (hn : n + m ≤ 140737488355328) (hB : B ≤ W.heap.size)
    (h : ∀ v' w', w'.ownsRow B E size v' (n + m) (xs ++ news) → W.grownBy w' v.ownBlock → wpList P ops Q rest (a.put o.dst v') w') :
    wpList P ops Q (o :: rest) a W := by
  obtain ⟨hu, ⟨i, z, hi, hz, h2, h3, h4⟩, hp⟩ := ty
  rcases hc with ⟨rfl, rfl⟩ | ⟨ad, rfl, hc⟩
  · obtain rfl : news = [] := List.eq_nil_of_length_eq_zero (by simpa using hl)
    refine wpList_plain hgd fun K hK => ?_
    have hr := run_append_none (P := P) (w := W) B T o.type E i size hu hi v n xs hown c
    unfold Oper.wp execOp
    simp only [ho, resolve, invoke, builtin, Sem.run_bind, Sem.run_pure, Result.andThen_ok, List.map_toArray, List.map_cons, List.map_nil, hs, hx, hr]
    exact hK _ _ (h v W (by simpa using hown) (World.grownBy.refl W _))
  · exact wpList_append_own _ hgd s x T ho B E i z size bytes hu hi hz h2 h3 h4 hp v n xs hs hown ad m c news hx hl hc h1 (by unfold maxLen; omega) hb hB fun v' w' a1 a2 _ => h v' w' a1 a2
/-- where a slice of headers lies -/
theorem hd_cells {w : World} {l : List Hd} {sa : Option Addr} {n c : Nat} (hv : SlK hdC 2 w (.slice sa n c) l) (hn : l.length = n) :
    0 < n → ∃ b0 off : Nat, sa = some ⟨b0, off, none⟩ ∧ b0 < w.heap.size ∧ ∀ kk (h : kk < l.length) j u, (hdC l[kk])[j]? = some u → w.cell? ⟨b0, off + kk * 2 + j, none⟩ = some u := by
  intro h0
  rcases hv with ⟨rfl, _⟩ | ⟨_, b0, off, cap, he, hc1, hc2, hc3, hcell⟩
  · simp at hn; omega
  · injection he with e1 _ _
    exact ⟨b0, off, e1, hc3, hcell⟩
theorem hd_src {w : World} {l : List Hd} {sa : Option Addr} {c : Nat} (hv : SlK hdC 2 w (.slice sa l.length c) l) : (sa = none ∧ l.length = 0) ∨ ∃ ad, sa = some ad ∧ ∀ j u, (cellsK hdC l)[j]? = some u → w.cell? (ad.add j) = some u := by
  by_cases h0 : l.length = 0
  · cases sa with
    | none => exact .inl ⟨rfl, h0⟩
    | some ad =>
      have : l = [] := List.eq_nil_of_length_eq_zero h0
      subst this
      exact .inr ⟨ad, rfl, fun j u hu => by simp [cellsK] at hu⟩
  · obtain ⟨b0, off, rfl, _, hc⟩ := hd_cells hv rfl (by omega)
    refine .inr ⟨_, rfl, fun j u hu => ?_⟩
    obtain ⟨i, hi, q, rfl, hq⟩ := cellsK_inv hdC_len l j u hu
    rw [add_none, ← Nat.add_assoc]
    exact hc i hi q u hq
def hasH (hs : List Hd) (d : Hd) : Bool := (hdrL hs d.1.data.toList).isSome
/-- headers that are updated by others -/
def mergeL (old hs : List Hd) : List Hd := old.filter (fun d => !hasH hs d) ++ hs
set_option maxRecDepth 20000 in
set_option maxHeartbeats 2000000 in
theorem rmerge_is (old hs : List Hd) (v vh : Value) (w : World) (hv : SlK hdC 2 w v old) (hh : SlK hdC 2 w vh hs) (hzo : HdSz old) (hzh : HdSz hs) :
    Calls Tryz.prog 38 #[v, vh] w (CloQ w (mergeL old hs)) := by
  have HZ := Lib.hid hzo.2
  have hol := hzo.1
  have hhl := hzh.1
  obtain ⟨sa, sc, rfl, _⟩ := hv.shape
  obtain ⟨ha, hc, rfl, _⟩ := hh.shape
  have HC := Lib.hid (hd_cells hv rfl)
  have HH := Lib.hid hh
  have CHas := Lib.hid (fun (w' : World) (T : ByteArray) (hT : T.size ≤ 100000) (hb : Below w.heap.size w w') => rhas_is hs (.slice ha hs.length hc) T w' (hh.below hb (Nat.le_refl _)) hzh hT _ rfl)
  clear hv hh hzo
  go_enter Tryz.func38, Tryz.ntmps38
  go_wp2_with fail
  go_loopw [5, 6] (fun ov iv wr => ∃ (kk : Nat) (lo : List Hd), kk ≤ old.length ∧ iv = .int .i64 kk ∧ Hid (lo = (old.take kk).filter (fun d => !hasH hs d)) ∧ lo.length ≤ kk ∧ wr.ownsRow w.heap.size 68 2 ov lo.length (cellsK hdC lo) ∧ Below w.heap.size w wr) (fun _ iv _ => old.length - (intOf iv).toNat)
  case atStart => exact ⟨0, [], Nat.zero_le _, rfl, Lib.hid rfl, Nat.le_refl _, World.ownsRow_nil _ _ _ _, Below.refl _ _⟩
  case round =>
    obtain ⟨kk, lo, hk, rfl, HL, hlk, hown, hbw⟩ := hrel
    have hws := hbw.size
    by_cases hlt : kk < old.length
    · obtain ⟨b0, off, rfl, hb0, hcell⟩ := HC.out (by omega)
      have cc : ∀ j u, (hdC old[kk])[j]? = some u → wr.cell? ⟨b0, off + kk * 2 + j, none⟩ = some u := fun j u hu => (brl hbw _ _ hb0).trans (hcell kk hlt j u hu)
      have hst := keepg_snoc old (fun d => !hasH hs d) kk hlt _ rfl
      have hsz := HZ.out _ (List.getElem_mem hlt)
      obtain ⟨y, hy⟩ : ∃ y, old[kk] = y := ⟨_, rfl⟩
      rw [hy] at cc hst hsz
      rw [← HL.out] at hst
      clear hy hcell
      obtain ⟨yn, yv⟩ := y
      have hyn : yn.size ≤ 100000 := hsz.1
      have c0 := cc 0 _ rfl
      have c1 := cc 1 _ rfl
      simp only [Nat.add_zero] at c0
      clear cc hsz
      have hki : (kk : Int) < (old.length : Int) := by omega
      have hk0 : (0 : Int) ≤ (kk : Int) := by omega
      have hb0w : b0 < wr.heap.size := by omega
      obtain ⟨oa, oc, rfl, _⟩ := own_reads hown
      obtain ⟨R, hR⟩ : ∃ R, hasH hs (yn, yv) = R := ⟨_, rfl⟩
      have hR2 : (hdrL hs yn.data.toList).isSome = R := hR
      have CH := Lib.hid (by have := CHas.out wr yn hyn hbw; rw [hR2] at this; exact this)
      rw [hR] at hst
      have HST := Lib.hid hst
      clear hst hR hR2
      cases R with
      | true =>
        go_wp2_with (go_at_call 52; (with_reducible refine CH.out.mono ?_); rintro e w4 ⟨rfl, hb4⟩; have o4 := own_below hown hb4 (Nat.le_refl _); have hb4' := hbw.trans (hb4.mono hws))
        go_roundw
        case rel => exact ⟨kk + 1, lo, by omega, by go_num, Lib.hid (by rw [HST.out]; simp), by omega, o4, hb4'⟩
        case measure => simp [intOf]; omega
      | false =>
        go_wp2_with (first
          | (go_at_call 52; (with_reducible refine CH.out.mono ?_); rintro e w4 ⟨rfl, hb4⟩; have o4 := own_below hown hb4 (Nat.le_refl _); have hb4' := hbw.trans (hb4.mono hws); have hz4 := hb4'.size; have d0 := (brl hb4 _ _ hb0w).trans c0; have d1 := (brl hb4 _ _ hb0w).trans c1; clear c0 c1)
          | (refine app2 slH w4 (by rfl) (.tmp 21) (.tmp 26) (by rfl) w.heap.size _ _ _ (by rfl) o4 [.string yn, .string yv] 1 w4.heap.size (by rfl) rfl (by rfl) (by intro u hu; simp at hu; rcases hu with rfl | rfl <;> rfl) (by decide) (by omega) (by omega) hz4 ?_; intro v5 w5 o5 g5 f5; obtain ⟨ub, uk, rfl, _, _, _⟩ := own_reads o5))
        go_roundw
        case rel => exact ⟨kk + 1, lo ++ [(yn, yv)], by omega, by go_num, Lib.hid (by rw [HST.out]; simp), by simp; omega, own_eq o5 (by simp) (by rw [cellsK_app]; rfl), below_own hb4' o4 g5 hz4 (Nat.le_refl _)⟩
        case measure => simp [intOf]; omega
    · obtain rfl : kk = old.length := by omega
      have hl := HL.out
      rw [List.take_length] at hl
      have HM : Hid (mergeL old hs = lo ++ hs) := Lib.hid (by unfold mergeL; rw [hl])
      have HSR := Lib.hid (hd_src (HH.out.below hbw (Nat.le_refl _)))
      have HCL := Lib.hid (cellsK_len hdC_len hs)
      have HONE := Lib.hid (one2s hs)
      have hlo : lo.length ≤ 1000000 := by omega
      obtain ⟨oa, oc, rfl, _⟩ := own_reads hown
      clear hl HL
      go_wp2_with (refine app_src slH wr (by rfl) (.tmp 28) (.tmp 29) (by rfl) w.heap.size _ _ _ (by rfl) hown (cellsK hdC hs) ha hs.length hc (by rfl) HCL.out HSR.out HONE.out (by omega) (by omega) hws ?_; intro v5 w5 o5 g5)
      go_ret
      refine ⟨v5, rfl, ?_, below_own hbw hown g5 hws (Nat.le_refl _)⟩
      rw [HM.out]
      exact own_eq o5 (by simp) (by rw [cellsK_app])
end Go.Proofs.YtkobhknggamejaaGreatDoor
