/- UrlAbsolute: the frame of the row, and the card. The law returns true for every input; its arguments read as before. -/
import Derived.Test.YtgbinadjbikhhaaDoorRJ
import Derived.Test.YtgbinadjbikhhaaDoorCards
import Derived.Test.YtgbinadjbikhhaaDoorTie
import Derived.ProofKit
import Derived.OpenShut
import Derived.Deep.DeepHandedRow
import Derived.Lay
import Derived.SevenTiedAt
import Derived.LaidOnce
import Derived.MakeChecks
namespace Go.Proofs.YtgbinadjbikhhaaDoor.urlAbsolute
set_option linter.unusedVariables false
set_option linter.unusedSimpArgs false
open Go.ChangeShapes Go.WideShapes Go.ChangeAt Go.RowKit
open Go.ChangeMaps (open_string shut_string)

theorem open_url {H : Type} {enc : TypeId × Value → H} {P : Program} {w : World} {base : Nat} {spare : Nat → Bool} {held : Bool} {r : Reach} {b0 : Nat} {t e : TypeId} {fs : Array Field} {v : Value} {d : DataW H} {ps : List MemPlace}
    (hs : P.underlying t = some (.struct fs)) (he : P.underlying e = some .string) (hfs : ∀ j, j < 6 → ∃ f, fs[j]? = some f ∧ f.offset = j ∧ f.type = e) (hce : P.cellsOf e = 1) (hC : P.cellsOf t = 6) (hn : fs.size = 6)
    (hval : Value.okWide P w r b0 t v) (hd : DataW.Trod enc P w base spare held t v d ps) : ∃ a b c d e f : ByteArray, v = .agg #[.string a, .string b, .string c, .string d, .string e, .string f] := by
  obtain ⟨cs, rfl, hsz⟩ := okWide_struct hs hval
  obtain ⟨c0, c1, c2, c3, c4, c5, rfl⟩ : ∃ c0 c1 c2 c3 c4 c5, cs = #[c0, c1, c2, c3, c4, c5] := by
    have h2 := hsz.trans hC
    obtain ⟨l⟩ := cs
    match l, h2 with
    | [c0, c1, c2, c3, c4, c5], _ => exact ⟨c0, c1, c2, c3, c4, c5, rfl⟩
  obtain ⟨fuel, hf⟩ := hd
  obtain ⟨xs, m, _, _, _, hx, hi⟩ := DataW.trod_struct hs hf
  have key : ∀ j (hj : j < 6), ∃ s : ByteArray, [c0, c1, c2, c3, c4, c5][j]'hj = .string s := fun j hj => by
    obtain ⟨f, h1, h2, h3⟩ := hfs j hj
    have h4 := hi j f h1
    rw [h2, h3, hce] at h4
    obtain ⟨y, hy⟩ : ∃ y, xs[j]? = some y := ⟨xs[j]'(by omega), List.getElem?_eq_getElem _⟩
    rw [hy] at h4
    obtain ⟨s, h5, _⟩ := DataW.trod_string he h4
    have h6 : (Value.cells (.agg #[c0, c1, c2, c3, c4, c5])).toList = [c0, c1, c2, c3, c4, c5] := rfl
    rw [h6, List.drop_eq_getElem_cons hj, List.take_succ_cons] at h5
    exact ⟨s, (List.cons.inj h5).1⟩
  obtain ⟨s0, e0⟩ := key 0 (by omega)
  obtain ⟨s1, e1⟩ := key 1 (by omega)
  obtain ⟨s2, e2⟩ := key 2 (by omega)
  obtain ⟨s3, e3⟩ := key 3 (by omega)
  obtain ⟨s4, e4⟩ := key 4 (by omega)
  obtain ⟨s5, e5⟩ := key 5 (by omega)
  simp only [List.getElem_cons_zero, List.getElem_cons_succ] at e0 e1 e2 e3 e4 e5
  exact ⟨s0, s1, s2, s3, s4, s5, by rw [e0, e1, e2, e3, e4, e5]⟩

theorem own : ownKnob Tryd.prog.godebug = none := by kernel_rfl
theorem laidOut : laidOutB Tryd.prog = true := by kernel_rfl
theorem laid_met (os : Os) : laidMet Tryd.prog Rows.urlAbsoluteRow.laid (((World.laidAll Tryd.prog os Rows.urlAbsoluteRow.laid)).forCall (fun _ _ => 0) ⟨#[], #[.agg #[.string ⟨#[]⟩, .string ⟨#[]⟩, .string ⟨#[]⟩, .string ⟨#[]⟩, .string ⟨#[]⟩, .string ⟨#[]⟩], .string ⟨#[]⟩, .string ⟨#[]⟩], []⟩).memory := laidMet_laidAll _ (by kernel_rfl) (by kernel_rfl)
theorem reads (os : Os) {H : Type} (enc : TypeId × Value → H) : ∃ places, DataW.whole enc Tryd.prog ((World.laidAll Tryd.prog os Rows.urlAbsoluteRow.laid).forCall (fun _ _ => 0) ⟨#[], #[.agg #[.string ⟨#[]⟩, .string ⟨#[]⟩, .string ⟨#[]⟩, .string ⟨#[]⟩, .string ⟨#[]⟩, .string ⟨#[]⟩], .string ⟨#[]⟩, .string ⟨#[]⟩], []⟩).memory Tryd.f9.params.toList Rows.urlAbsoluteSpec.vars false (#[.agg #[.string ⟨#[]⟩, .string ⟨#[]⟩, .string ⟨#[]⟩, .string ⟨#[]⟩, .string ⟨#[]⟩, .string ⟨#[]⟩], .string ⟨#[]⟩, .string ⟨#[]⟩] : Array Value).toList 8 = some ([.agg [.lit (.string []), .lit (.string []), .lit (.string []), .lit (.string []), .lit (.string []), .lit (.string [])], .lit (.string []), .lit (.string [])], [], places) :=
  ⟨[], by kernel_rfl⟩

set_option maxRecDepth 100000 in
theorem lifted (os : Os) (started : os.Started) (H : Type) (enc : TypeId × Value → H) (F : Stop.Interp) :
    ReturnsInHanded {} Tryd.checked os 9 .any ((OpenSpec.ofChange Rows.urlAbsoluteSpec).preRow enc Tryd.prog Tryd.f9 Rows.urlAbsoluteRow.domain false Rows.urlAbsoluteRow.laid) (((OpenSpec.ofChange Rows.urlAbsoluteSpec).at F).post enc Tryd.prog Tryd.f9 false true false false) := by
  obtain ⟨places, hx⟩ := reads os enc
  refine returnsInHanded_of_row (C := Tryd.checked) (s := (OpenSpec.ofChange Rows.urlAbsoluteSpec)) own started (by kernel_rfl) Tryd.func9
    (witness_row_at (enc := enc) (C := Tryd.checked) false (World.laidAll Tryd.prog os Rows.urlAbsoluteRow.laid) #[.agg #[.string ⟨#[]⟩, .string ⟨#[]⟩, .string ⟨#[]⟩, .string ⟨#[]⟩, .string ⟨#[]⟩, .string ⟨#[]⟩], .string ⟨#[]⟩, .string ⟨#[]⟩] (World.laidAll_os _ _ _) (by kernel_rfl) (by kernel_rfl) (by kernel_rfl)
      (OpenSpec.preRow_of_cond 8 hx (by kernel_rfl) (fun k hk => by cases hk) (by kernel_rfl) (laid_met os))) ?_
  intro W base args ds gs before hval hW hc1 hc2 hc3 hL hc4 hc5
  have hW' := hW
  obtain ⟨p, q, hA0, hV, rfl, hfz, hnd⟩ := hW
  have hA : DataW.TrodAll enc Tryd.prog W 0 (fun _ => true) true Tryd.f9.params.toList args.toList ds p := hA0
  rw [Tryd.params9] at hA hval
  obtain ⟨v0, vs0, d0, ds0, p0, q0, hargs, rfl, rfl, h0, r0⟩ := trodAll_cons hA
  obtain ⟨v1, vs1, d1, ds1, p1, q1, rfl, rfl, rfl, h1, r1⟩ := trodAll_cons r0
  obtain ⟨v2, vs2, d2, ds2, p2, q2, rfl, rfl, rfl, h2, r2⟩ := trodAll_cons r1
  obtain ⟨rfl, rfl, rfl⟩ := trodAll_nil r2
  obtain rfl : args = #[v0, v1, v2] := by cases args; simp_all
  obtain ⟨rfl, rfl⟩ := trodVars_none hV
  have h0k := h0
  obtain ⟨xa0, xb0, xc0, xd0, xe0, xf0, rfl⟩ := open_url Tryd.underlying25 Tryd.underlying9 (fun j hj => by match j, hj with | 0, _ => exact ⟨_, rfl, rfl, rfl⟩ | 1, _ => exact ⟨_, rfl, rfl, rfl⟩ | 2, _ => exact ⟨_, rfl, rfl, rfl⟩ | 3, _ => exact ⟨_, rfl, rfl, rfl⟩ | 4, _ => exact ⟨_, rfl, rfl, rfl⟩ | 5, _ => exact ⟨_, rfl, rfl, rfl⟩) (by kernel_rfl) (by kernel_rfl) rfl (hval 0 25 v0 rfl rfl) h0
  obtain ⟨x1, rfl, rfl, rfl, w1⟩ := open_string Tryd.underlying9 (hval 1 9 v1 rfl rfl) h1
  obtain ⟨x2, rfl, rfl, rfl, w2⟩ := open_string Tryd.underlying9 (hval 2 9 v2 rfl rfl) h2
  clear hA0
  simp only [List.append_nil, List.nil_append] at hW'
  have hlt : ∀ x ∈ p0, x.block < W.heap.size := fun x hx => hW'.lt x (by simpa using hx)
  refine (urlabsolute_law xa0 xb0 xc0 xd0 xe0 xf0 x1 x2 W (Tryd.laysM145.s1_3 W hc4)).mono fun e W' ⟨he, hb⟩ => ?_
  subst he
  exact ⟨_, rfl, _, _, _, [], _, [], hW', trodAll_cons_mk (shut_bool Tryd.underlying4 _) trodAll_mk0, trodAll_cons_mk (Below.trod laidOut (by kernel_rfl) (of_decide_eq_true (by kernel_rfl)) h0k hb (fun x hx => hlt x (by simp [hx]))) (trodAll_cons_mk (shut_string Tryd.underlying9 w1) (trodAll_cons_mk (shut_string Tryd.underlying9 w2) trodAll_mk0)), rfl, hb.frame _, fun h => by cases h⟩

theorem said : Rows.UrlAbsoluteSaid :=
  OpenClaim.holds_of_cond 9 Tryd.f9 rfl rfl rfl rfl rfl rfl rfl ⟨rfl, rfl, rfl, rfl, rfl⟩ rfl rfl rfl rfl rfl (by kernel_rfl) Tryd.func9 (by kernel_rfl)
    (of_decide_eq_true (by kernel_rfl)) (by unfold Func.isWrapper; first | (rw [if_pos (by decide +kernel)]; kernel_rfl) | (rw [if_neg (by decide +kernel)]; exact ⟨rfl, rfl⟩))
    (fun os started H enc _ F => by rw [OpenClaim.pre_eq_preRow]; exact lifted os started H enc F)
theorem plain (f : FuncId) (fn : Func) (hf : Tryd.pinned.checked.prog.funcNamed "knapsack/knapsacklaw41.UrlAbsolute" = some f) (hfn : Tryd.pinned.checked.prog.funcs[f]? = some fn) :
    false = Tryd.pinned.checked.prog.looks [] ∧ ∀ (j : Nat) t, fn.params[j]? = some t → Tryd.pinned.checked.prog.wantsStandIn t = false := by
  obtain rfl : f = 9 := Option.some.inj ((show Tryd.prog.funcNamed "knapsack/knapsacklaw41.UrlAbsolute" = some 9 by kernel_rfl).symm.trans hf) |>.symm
  obtain rfl : fn = Tryd.f9 := (Option.some.inj (Tryd.func9.symm.trans hfn)).symm
  refine ⟨by kernel_rfl, fun j t ht => ?_⟩
  rw [Tryd.params9] at ht
  have hm : t ∈ [25, 9, 9] := by simpa using Array.mem_of_getElem? ht
  have hall : ([25, 9, 9].all fun u => !Tryd.prog.wantsStandIn u) = true := by kernel_rfl
  exact (show Tryd.prog.wantsStandIn t = false by simpa using List.all_eq_true.1 hall t hm)
/-- the card of UrlAbsolute -/
theorem card : Rows.UrlAbsoluteCardSaid :=
  Claim7.holds_tied_plain_at .later [] _ _ _ _ said (fun _ h => by cases h) (by kernel_rfl) (fun _ h => by cases h) urlAbsolute_row_tie rfl ⟨rfl, rfl⟩ (by kernel_rfl) rfl plain (by kernel_rfl)
end Go.Proofs.YtgbinadjbikhhaaDoor.urlAbsolute
