/- UrlFields: the frame of the row, and the card. The law returns true for every input; its arguments read as before. -/
import Derived.Deep.Slices
import Derived.Test.YtgbinadjbikhhaaDoorFH
import Derived.Test.YtgbinadjbikhhaaDoorCards
import Derived.Test.YtgbinadjbikhhaaDoorTie
import Derived.ProofKit
import Derived.OpenShut
import Derived.Deep.DeepHandedRow
import Derived.Lay
import Derived.SevenTiedAt
import Derived.LaidOnce
import Derived.MakeChecks
namespace Go.Proofs.YtgbinadjbikhhaaDoor.urlFields
set_option linter.unusedVariables false
set_option linter.unusedSimpArgs false
open Go.ChangeShapes Go.WideShapes Go.ChangeAt Go.RowKit
open Go.ChangeMaps (open_string shut_string)

theorem pick_list {α : Type} [Inhabited α] (n : Nat) (Q : Nat → α → Prop) (h : ∀ i, i < n → ∃ p, Q i p) : ∃ l : List α, l.length = n ∧ ∀ i (hi : i < l.length), Q i l[i] := by
  induction n with
  | zero => exact ⟨[], rfl, fun i hi => by simp at hi⟩
  | succ n ih =>
    obtain ⟨l, hl, hq⟩ := ih (fun i hi => h i (by omega))
    obtain ⟨p, hp⟩ := h n (by omega)
    refine ⟨l ++ [p], by simp [hl], fun i hi => ?_⟩
    by_cases hin : i < l.length
    · rw [List.getElem_append_left hin]; exact hq i hin
    · obtain rfl : i = l.length := by simp at hi; omega
      rw [List.getElem_append_right (Nat.le_refl _)]
      simpa [hl] using hp
theorem open_attrs {H : Type} {enc : TypeId × Value → H} {P : Program} {w : World} {base : Nat} {held : Bool} {r : Reach} {b0 : Nat} {t e s : TypeId} {fs : Array Field} {f0 f1 : Field} {v : Value} {d : DataW H} {ps : List MemPlace}
    (ht : P.underlying t = some (.slice e)) (he : P.underlying e = some (.struct fs)) (hs : P.underlying s = some .string) (h0 : fs[0]? = some f0) (h1 : fs[1]? = some f1) (o1 : f0.offset = 0 ∧ f1.offset = 1) (t0 : f0.type = s) (t1 : f1.type = s) (hce : P.cellsOf s = 1) (hC : P.cellsOf e = 2)
    (hval : Value.okWide P w r b0 t v) (hd : DataW.Trod enc P w base (fun _ => true) held t v d ps) : ∃ l : List BFld, SlA w v l := by
  obtain ⟨fuel, hf⟩ := hd
  have hv : ∃ o n c, v = .slice o n c := by
    cases v with
    | slice o n c => exact ⟨o, n, c, rfl⟩
    | _ => simp [Value.okWide, Cell.okWide, Cell.ok, ht] at hval
  obtain ⟨o, n, c, rfl⟩ := hv
  rcases Go.Deep.open_slice ht hf with ⟨hc0, -⟩ | ⟨a, len, cap, m, n', D, Pl, hcs, hb, hl, hm, hmm, hx, hi⟩
  · have : Value.slice o n c = .slice none 0 0 := by simpa [Value.cells] using hc0
    exact ⟨[], .inl ⟨this, rfl⟩⟩
  · have hvv : Value.slice o n c = .slice (some a) len cap := by simpa [Value.cells] using hcs
    have key : ∀ i, i < len → ∃ p : BFld, w.cell? (a.add (i * 2)) = some (.string p.1) ∧ w.cell? ⟨(a.add (i * 2)).block, (a.add (i * 2)).off + 1, none⟩ = some (.string p.2) := fun i hil => by
      obtain ⟨cs', hc', ht'⟩ := hi i (by rw [hmm]; simp; omega)
      rw [hC] at hc'
      obtain ⟨_, hcl, hat⟩ := World.cells?_some hc'
      obtain ⟨xs, n2, _, _, _, _, hx2⟩ := DataW.trod_struct he ht'
      have g0 := hx2 0 f0 h0
      have g1 := hx2 1 f1 h1
      rw [o1.1, t0, hce] at g0
      rw [o1.2, t1, hce] at g1
      match cs', hcl with
      | [u0, u1], _ =>
        cases hy0 : xs[0]? with
        | none => rw [hy0] at g0; exact absurd g0 (by
            intro hh
            have := hat 0 (by omega)
            have hlen : xs.length = fs.size := by assumption
            have : 0 < fs.size := (Array.getElem?_eq_some_iff.1 h0).1
            rw [List.getElem?_eq_none_iff] at hy0
            omega)
        | some y0 =>
          cases hy1 : xs[1]? with
          | none => exact absurd hy1 (by
              have hlen : xs.length = fs.size := by assumption
              have : 1 < fs.size := (Array.getElem?_eq_some_iff.1 h1).1
              rw [List.getElem?_eq_none_iff]
              omega)
          | some y1 =>
            rw [hy0] at g0
            rw [hy1] at g1
            obtain ⟨s0, q0, _⟩ := DataW.trod_string hs g0
            obtain ⟨s1, q1, _⟩ := DataW.trod_string hs g1
            simp at q0 q1
            subst q0 q1
            exact ⟨(s0, s1), (hat 0 (by omega)), (hat 1 (by omega))⟩
    obtain ⟨l, hll, hq⟩ := pick_list len _ key
    refine ⟨l, .inr ⟨a, cap, by rw [hvv, hll], by omega, hm, ?_, hq⟩⟩
    cases l with
    | nil => exact .inl rfl
    | cons p l => 
      have := (hq 0 (by simp)).1
      refine .inr ?_
      have hz : a.add (0 * 2) = a := by unfold Addr.add; simp
      rw [hz] at this
      unfold World.cell? at this
      by_cases hlt : a.block < w.heap.size
      · exact hlt
      · rw [Array.getElem?_eq_none (by omega)] at this
        simp at this

theorem own : ownKnob Tryd.prog.godebug = none := by kernel_rfl
theorem laidOut : laidOutB Tryd.prog = true := by kernel_rfl
theorem laid_met (os : Os) : laidMet Tryd.prog Rows.urlFieldsRow.laid (((World.laidAll Tryd.prog os Rows.urlFieldsRow.laid)).forCall (fun _ _ => 0) ⟨#[], #[.string ⟨#[]⟩, .slice none 0 0], []⟩).memory := laidMet_laidAll _ (by kernel_rfl) (by kernel_rfl)
theorem reads (os : Os) {H : Type} (enc : TypeId × Value → H) : ∃ places, DataW.whole enc Tryd.prog ((World.laidAll Tryd.prog os Rows.urlFieldsRow.laid).forCall (fun _ _ => 0) ⟨#[], #[.string ⟨#[]⟩, .slice none 0 0], []⟩).memory Tryd.f10.params.toList Rows.urlFieldsSpec.vars false (#[.string ⟨#[]⟩, .slice none 0 0] : Array Value).toList 8 = some ([.lit (.string []), .nil], [], places) :=
  ⟨[], by kernel_rfl⟩

set_option maxRecDepth 100000 in
theorem lifted (os : Os) (started : os.Started) (H : Type) (enc : TypeId × Value → H) (F : Stop.Interp) :
    ReturnsInHanded {} Tryd.checked os 10 .any ((OpenSpec.ofChange Rows.urlFieldsSpec).preRow enc Tryd.prog Tryd.f10 Rows.urlFieldsRow.domain false Rows.urlFieldsRow.laid) (((OpenSpec.ofChange Rows.urlFieldsSpec).at F).post enc Tryd.prog Tryd.f10 false true false false) := by
  obtain ⟨places, hx⟩ := reads os enc
  refine returnsInHanded_of_row (C := Tryd.checked) (s := (OpenSpec.ofChange Rows.urlFieldsSpec)) own started (by kernel_rfl) Tryd.func10
    (witness_row_at (enc := enc) (C := Tryd.checked) false (World.laidAll Tryd.prog os Rows.urlFieldsRow.laid) #[.string ⟨#[]⟩, .slice none 0 0] (World.laidAll_os _ _ _) (by kernel_rfl) (by kernel_rfl) (by kernel_rfl)
      (OpenSpec.preRow_of_cond 8 hx (by kernel_rfl) (fun k hk => by cases hk) (by kernel_rfl) (laid_met os))) ?_
  intro W base args ds gs before hval hW hc1 hc2 hc3 hL hc4 hc5
  have hW' := hW
  obtain ⟨p, q, hA0, hV, rfl, hfz, hnd⟩ := hW
  have hA : DataW.TrodAll enc Tryd.prog W 0 (fun _ => true) true Tryd.f10.params.toList args.toList ds p := hA0
  rw [Tryd.params10] at hA hval
  obtain ⟨v0, vs0, d0, ds0, p0, q0, hargs, rfl, rfl, h0, r0⟩ := trodAll_cons hA
  obtain ⟨v1, vs1, d1, ds1, p1, q1, rfl, rfl, rfl, h1, r1⟩ := trodAll_cons r0
  obtain ⟨rfl, rfl, rfl⟩ := trodAll_nil r1
  obtain rfl : args = #[v0, v1] := by cases args; simp_all
  obtain ⟨rfl, rfl⟩ := trodVars_none hV
  obtain ⟨x0, rfl, rfl, rfl, w0⟩ := open_string Tryd.underlying9 (hval 0 9 v0 rfl rfl) h0
  have h1k := h1
  obtain ⟨l1, sl1⟩ := open_attrs Tryd.underlying46 Tryd.underlying51 Tryd.underlying9 rfl rfl ⟨rfl, rfl⟩ rfl rfl (by kernel_rfl) (by kernel_rfl) (hval 1 46 v1 rfl rfl) h1
  clear hA0
  simp only [List.append_nil, List.nil_append] at hW'
  have hlt : ∀ x ∈ p1, x.block < W.heap.size := fun x hx => hW'.lt x (by simpa using hx)

  refine (urlfields_law x0 v1 l1 W (Tryd.laysM145.s1_3 W hc4) sl1).mono fun e W' ⟨he, hb⟩ => ?_
  subst he
  exact ⟨_, rfl, _, _, _, [], _, [], hW', trodAll_cons_mk (shut_bool Tryd.underlying4 _) trodAll_mk0, trodAll_cons_mk (shut_string Tryd.underlying9 w0) (trodAll_cons_mk (Below.trod laidOut (by kernel_rfl) (of_decide_eq_true (by kernel_rfl)) h1k hb (fun x hx => hlt x (by simp [hx]))) trodAll_mk0), rfl, hb.frame _, fun h => by cases h⟩

theorem said : Rows.UrlFieldsSaid :=
  OpenClaim.holds_of_cond 10 Tryd.f10 rfl rfl rfl rfl rfl rfl rfl ⟨rfl, rfl, rfl, rfl, rfl⟩ rfl rfl rfl rfl rfl (by kernel_rfl) Tryd.func10 (by kernel_rfl)
    (of_decide_eq_true (by kernel_rfl)) (by unfold Func.isWrapper; first | (rw [if_pos (by decide +kernel)]; kernel_rfl) | (rw [if_neg (by decide +kernel)]; exact ⟨rfl, rfl⟩))
    (fun os started H enc _ F => by rw [OpenClaim.pre_eq_preRow]; exact lifted os started H enc F)
theorem plain (f : FuncId) (fn : Func) (hf : Tryd.pinned.checked.prog.funcNamed "knapsack/knapsacklaw41.UrlFields" = some f) (hfn : Tryd.pinned.checked.prog.funcs[f]? = some fn) :
    false = Tryd.pinned.checked.prog.looks [] ∧ ∀ (j : Nat) t, fn.params[j]? = some t → Tryd.pinned.checked.prog.wantsStandIn t = false := by
  obtain rfl : f = 10 := Option.some.inj ((show Tryd.prog.funcNamed "knapsack/knapsacklaw41.UrlFields" = some 10 by kernel_rfl).symm.trans hf) |>.symm
  obtain rfl : fn = Tryd.f10 := (Option.some.inj (Tryd.func10.symm.trans hfn)).symm
  refine ⟨by kernel_rfl, fun j t ht => ?_⟩
  rw [Tryd.params10] at ht
  have hm : t ∈ [9, 46] := by simpa using Array.mem_of_getElem? ht
  have hall : ([9, 46].all fun u => !Tryd.prog.wantsStandIn u) = true := by kernel_rfl
  exact (show Tryd.prog.wantsStandIn t = false by simpa using List.all_eq_true.1 hall t hm)
/-- the card of UrlFields -/
theorem card : Rows.UrlFieldsCardSaid :=
  Claim7.holds_tied_plain_at .later [] _ _ _ _ said (fun _ h => by cases h) (by kernel_rfl) (fun _ h => by cases h) urlFields_row_tie rfl ⟨rfl, rfl⟩ (by kernel_rfl) rfl plain (by kernel_rfl)
end Go.Proofs.YtgbinadjbikhhaaDoor.urlFields
