/- FetchReadable: the frame of the row, and the card. The law returns true for every input; its arguments read as before. -/
import Derived.Test.YtjdhaacmlpegoaaGreatDoorB7
import Derived.Test.YtjdhaacmlpegoaaGreatDoorTL
import Derived.Test.YtjdhaacmlpegoaaGreatDoorCards
import Derived.Test.YtjdhaacmlpegoaaGreatDoorTie
import Derived.ProofKit
import Derived.OpenShut
import Derived.Deep.DeepHandedRow
import Derived.Lay
import Derived.SevenTiedAt
import Derived.LaidOnce
import Derived.MakeChecks
namespace Go.Proofs.YtjdhaacmlpegoaaGreatDoor.fetchReadable
set_option linter.unusedVariables false
set_option linter.unusedSimpArgs false
open Go.ChangeShapes Go.WideShapes Go.ChangeAt Go.RowKit
open Go.ChangeMaps (open_string shut_string)

theorem open_url {H : Type} {enc : TypeId × Value → H} {P : Program} {w : World} {base : Nat} {spare : Nat → Bool} {held : Bool} {r : Reach} {b0 : Nat} {t e : TypeId} {fs : Array Field} {v : Value} {d : DataW H} {ps : List MemPlace}
    (hs : P.underlying t = some (.struct fs)) (he : P.underlying e = some .string) (hfs : ∀ j, j < 6 → ∃ f, fs[j]? = some f ∧ f.offset = j ∧ f.type = e) (hce : P.cellsOf e = 1) (hC : P.cellsOf t = 6) (hn : fs.size = 6)
    (hval : Value.okWide P w r b0 t v) (hd : DataW.Trod enc P w base spare held t v d ps) : ∃ a b c d e f : ByteArray, v = .agg #[.string a, .string b, .string c, .string d, .string e, .string f] := by
  obtain ⟨cs, rfl, hsz⟩ := okWide_struct hs hval
  obtain ⟨c0, c1, c2, c3, c4, c5, rfl⟩ : ∃ c0 c1 c2 c3 c4 c5, cs = #[c0, c1, c2, c3, c4, c5] := by
    have h2 := hsz.trans hC
    obtain ⟨l⟩ := cs
    match l, h2 with
    | [c0, c1, c2, c3, c4, c5], _ => exact ⟨c0, c1, c2, c3, c4, c5, rfl⟩
  obtain ⟨fuel, hf⟩ := hd
  obtain ⟨xs, m, _, _, _, hx, hi⟩ := DataW.trod_struct hs hf
  have key : ∀ j (hj : j < 6), ∃ s : ByteArray, [c0, c1, c2, c3, c4, c5][j]'hj = .string s := fun j hj => by
    obtain ⟨f, h1, h2, h3⟩ := hfs j hj
    have h4 := hi j f h1
    rw [h2, h3, hce] at h4
    obtain ⟨y, hy⟩ : ∃ y, xs[j]? = some y := ⟨xs[j]'(by omega), List.getElem?_eq_getElem _⟩
    rw [hy] at h4
    obtain ⟨s, h5, _⟩ := DataW.trod_string he h4
    have h6 : (Value.cells (.agg #[c0, c1, c2, c3, c4, c5])).toList = [c0, c1, c2, c3, c4, c5] := rfl
    rw [h6, List.drop_eq_getElem_cons hj, List.take_succ_cons] at h5
    exact ⟨s, (List.cons.inj h5).1⟩
  obtain ⟨s0, e0⟩ := key 0 (by omega)
  obtain ⟨s1, e1⟩ := key 1 (by omega)
  obtain ⟨s2, e2⟩ := key 2 (by omega)
  obtain ⟨s3, e3⟩ := key 3 (by omega)
  obtain ⟨s4, e4⟩ := key 4 (by omega)
  obtain ⟨s5, e5⟩ := key 5 (by omega)
  simp only [List.getElem_cons_zero, List.getElem_cons_succ] at e0 e1 e2 e3 e4 e5
  exact ⟨s0, s1, s2, s3, s4, s5, by rw [e0, e1, e2, e3, e4, e5]⟩

theorem own : ownKnob Tryz.prog.godebug = none := by kernel_rfl
theorem laidOut : laidOutB Tryz.prog = true := by kernel_rfl
theorem laid_met (os : Os) : laidMet Tryz.prog Rows.fetchReadableRow.laid (((World.laidAll Tryz.prog os Rows.fetchReadableRow.laid)).forCall (fun _ _ => 0) ⟨#[], #[.agg #[.int .i64 0, .string ⟨#[]⟩, .string ⟨#[]⟩, .string ⟨#[]⟩, .int .i64 0, .slice none 0 0, .string ⟨#[]⟩, .bool false], .agg #[.string ⟨#[]⟩, .string ⟨#[]⟩, .string ⟨#[]⟩, .string ⟨#[]⟩, .string ⟨#[]⟩, .string ⟨#[]⟩], .agg #[.int .i64 0, .string ⟨#[]⟩, .string ⟨#[]⟩, .string ⟨#[]⟩, .int .i64 0, .slice none 0 0, .string ⟨#[]⟩, .bool false, .int .i64 0, .string ⟨#[]⟩, .string ⟨#[]⟩, .string ⟨#[]⟩, .string ⟨#[]⟩, .string ⟨#[]⟩, .string ⟨#[]⟩, .string ⟨#[]⟩, .int .i64 0, .bool false, .bool false, .int .i64 0, .slice none 0 0, .string ⟨#[]⟩, .int .i64 0]], []⟩).memory := laidMet_laidAll _ (by kernel_rfl) (by kernel_rfl)
theorem reads (os : Os) {H : Type} (enc : TypeId × Value → H) : ∃ places, DataW.whole enc Tryz.prog ((World.laidAll Tryz.prog os Rows.fetchReadableRow.laid).forCall (fun _ _ => 0) ⟨#[], #[.agg #[.int .i64 0, .string ⟨#[]⟩, .string ⟨#[]⟩, .string ⟨#[]⟩, .int .i64 0, .slice none 0 0, .string ⟨#[]⟩, .bool false], .agg #[.string ⟨#[]⟩, .string ⟨#[]⟩, .string ⟨#[]⟩, .string ⟨#[]⟩, .string ⟨#[]⟩, .string ⟨#[]⟩], .agg #[.int .i64 0, .string ⟨#[]⟩, .string ⟨#[]⟩, .string ⟨#[]⟩, .int .i64 0, .slice none 0 0, .string ⟨#[]⟩, .bool false, .int .i64 0, .string ⟨#[]⟩, .string ⟨#[]⟩, .string ⟨#[]⟩, .string ⟨#[]⟩, .string ⟨#[]⟩, .string ⟨#[]⟩, .string ⟨#[]⟩, .int .i64 0, .bool false, .bool false, .int .i64 0, .slice none 0 0, .string ⟨#[]⟩, .int .i64 0]], []⟩).memory Tryz.f5.params.toList Rows.fetchReadableSpec.vars false (#[.agg #[.int .i64 0, .string ⟨#[]⟩, .string ⟨#[]⟩, .string ⟨#[]⟩, .int .i64 0, .slice none 0 0, .string ⟨#[]⟩, .bool false], .agg #[.string ⟨#[]⟩, .string ⟨#[]⟩, .string ⟨#[]⟩, .string ⟨#[]⟩, .string ⟨#[]⟩, .string ⟨#[]⟩], .agg #[.int .i64 0, .string ⟨#[]⟩, .string ⟨#[]⟩, .string ⟨#[]⟩, .int .i64 0, .slice none 0 0, .string ⟨#[]⟩, .bool false, .int .i64 0, .string ⟨#[]⟩, .string ⟨#[]⟩, .string ⟨#[]⟩, .string ⟨#[]⟩, .string ⟨#[]⟩, .string ⟨#[]⟩, .string ⟨#[]⟩, .int .i64 0, .bool false, .bool false, .int .i64 0, .slice none 0 0, .string ⟨#[]⟩, .int .i64 0]] : Array Value).toList 8 = some ([.agg [.lit (.int .i64 0), .lit (.string []), .lit (.string []), .lit (.string []), .lit (.int .i64 0), .nil, .lit (.string []), .lit (.bool false)], .agg [.lit (.string []), .lit (.string []), .lit (.string []), .lit (.string []), .lit (.string []), .lit (.string [])], .agg [.agg [.lit (.int .i64 0), .lit (.string []), .lit (.string []), .lit (.string []), .lit (.int .i64 0), .nil, .lit (.string []), .lit (.bool false)], .lit (.int .i64 0), .agg [.lit (.string []), .lit (.string []), .lit (.string []), .lit (.string []), .lit (.string []), .lit (.string [])], .lit (.string []), .lit (.int .i64 0), .lit (.bool false), .lit (.bool false), .lit (.int .i64 0), .nil, .lit (.string []), .lit (.int .i64 0)]], [], places) :=
  ⟨[], by kernel_rfl⟩

set_option maxRecDepth 100000 in
theorem lifted (os : Os) (started : os.Started) (H : Type) (enc : TypeId × Value → H) (F : Stop.Interp) :
    ReturnsInHanded {} Tryz.checked os 5 .any ((OpenSpec.ofChange Rows.fetchReadableSpec).preRow enc Tryz.prog Tryz.f5 Rows.fetchReadableRow.domain false Rows.fetchReadableRow.laid) (((OpenSpec.ofChange Rows.fetchReadableSpec).at F).post enc Tryz.prog Tryz.f5 false true false false) := by
  obtain ⟨places, hx⟩ := reads os enc
  refine returnsInHanded_of_row (C := Tryz.checked) (s := (OpenSpec.ofChange Rows.fetchReadableSpec)) own started (by kernel_rfl) Tryz.func5
    (witness_row_at (enc := enc) (C := Tryz.checked) false (World.laidAll Tryz.prog os Rows.fetchReadableRow.laid) #[.agg #[.int .i64 0, .string ⟨#[]⟩, .string ⟨#[]⟩, .string ⟨#[]⟩, .int .i64 0, .slice none 0 0, .string ⟨#[]⟩, .bool false], .agg #[.string ⟨#[]⟩, .string ⟨#[]⟩, .string ⟨#[]⟩, .string ⟨#[]⟩, .string ⟨#[]⟩, .string ⟨#[]⟩], .agg #[.int .i64 0, .string ⟨#[]⟩, .string ⟨#[]⟩, .string ⟨#[]⟩, .int .i64 0, .slice none 0 0, .string ⟨#[]⟩, .bool false, .int .i64 0, .string ⟨#[]⟩, .string ⟨#[]⟩, .string ⟨#[]⟩, .string ⟨#[]⟩, .string ⟨#[]⟩, .string ⟨#[]⟩, .string ⟨#[]⟩, .int .i64 0, .bool false, .bool false, .int .i64 0, .slice none 0 0, .string ⟨#[]⟩, .int .i64 0]] (World.laidAll_os _ _ _) (by kernel_rfl) (by kernel_rfl) (by kernel_rfl)
      (OpenSpec.preRow_of_cond 8 hx (by kernel_rfl) (fun k hk => by cases hk) (by kernel_rfl) (laid_met os))) ?_
  intro W base args ds gs before hval hW hc1 hc2 hc3 hL hc4 hc5
  have hW' := hW
  obtain ⟨p, q, hA0, hV, rfl, hfz, hnd⟩ := hW
  have hA : DataW.TrodAll enc Tryz.prog W 0 (fun _ => true) true Tryz.f5.params.toList args.toList ds p := hA0
  rw [Tryz.params5] at hA hval
  obtain ⟨v0, vs0, d0, ds0, p0, q0, hargs, rfl, rfl, h0, r0⟩ := trodAll_cons hA
  obtain ⟨v1, vs1, d1, ds1, p1, q1, rfl, rfl, rfl, h1, r1⟩ := trodAll_cons r0
  obtain ⟨v2, vs2, d2, ds2, p2, q2, rfl, rfl, rfl, h2, r2⟩ := trodAll_cons r1
  obtain ⟨rfl, rfl, rfl⟩ := trodAll_nil r2
  obtain rfl : args = #[v0, v1, v2] := by cases args; simp_all
  obtain ⟨rfl, rfl⟩ := trodVars_none hV
  have h0k := h0
  obtain ⟨qt0, qm0, qu0, qg0, qo0, qv0, qb0, qk0, l0, rfl, sl0, sz0⟩ := open_fqP (⟨(⟨Tryz.underlying28, Tryz.underlying70, Tryz.underlying9, ⟨rfl, rfl, rfl, rfl⟩, by kernel_rfl, by kernel_rfl, by kernel_rfl⟩), Tryz.underlying30, Tryz.underlying3, Tryz.underlying4, ⟨rfl, rfl, rfl, rfl, rfl, rfl, rfl, rfl⟩, ⟨rfl, rfl, rfl, rfl, rfl, rfl, rfl, rfl⟩, by kernel_rfl, by kernel_rfl, by kernel_rfl⟩) (hval 0 30 v0 rfl rfl) h0
  have h1k := h1
  obtain ⟨xa1, xb1, xc1, xd1, xe1, xf1, rfl⟩ := open_url Tryz.underlying37 Tryz.underlying9 (fun j hj => by match j, hj with | 0, _ => exact ⟨_, rfl, rfl, rfl⟩ | 1, _ => exact ⟨_, rfl, rfl, rfl⟩ | 2, _ => exact ⟨_, rfl, rfl, rfl⟩ | 3, _ => exact ⟨_, rfl, rfl, rfl⟩ | 4, _ => exact ⟨_, rfl, rfl, rfl⟩ | 5, _ => exact ⟨_, rfl, rfl, rfl⟩) (by kernel_rfl) (by kernel_rfl) rfl (hval 1 37 v1 rfl rfl) h1
  have h2k := h2
  obtain ⟨qt2, qm2, qu2, qg2, qo2, qv2, qb2, qk2, l2, fp2, xa2, xb2, xc2, xd2, xe2, xf2, fm2, fh2, fc2, fi2, ft2, wv2, k2, fb2, fe2, rfl, sl2, tl2⟩ := open_fsP (⟨(⟨(⟨Tryz.underlying28, Tryz.underlying70, Tryz.underlying9, ⟨rfl, rfl, rfl, rfl⟩, by kernel_rfl, by kernel_rfl, by kernel_rfl⟩), Tryz.underlying30, Tryz.underlying3, Tryz.underlying4, ⟨rfl, rfl, rfl, rfl, rfl, rfl, rfl, rfl⟩, ⟨rfl, rfl, rfl, rfl, rfl, rfl, rfl, rfl⟩, by kernel_rfl, by kernel_rfl, by kernel_rfl⟩), (⟨Tryz.underlying37, Tryz.underlying9, ⟨rfl, rfl, rfl, rfl, rfl, rfl⟩, ⟨rfl, rfl, rfl, rfl, rfl, rfl⟩, by kernel_rfl, by kernel_rfl⟩), Tryz.underlying40, Tryz.underlying38, ⟨rfl, rfl, rfl, rfl, rfl, rfl, rfl, rfl, rfl, rfl, rfl⟩, ⟨rfl, rfl, rfl, rfl, rfl, rfl, rfl, rfl, rfl, rfl, rfl⟩, by kernel_rfl, by kernel_rfl⟩) (hval 2 40 v2 rfl rfl) h2
  clear hA0
  simp only [List.append_nil, List.nil_append] at hW'
  have hlt : ∀ x ∈ p0 ++ p1 ++ p2, x.block < W.heap.size := fun x hx => hW'.lt x (by simpa using hx)

  refine (fetchreadable_law qt0 qm0 qu0 qg0 qo0 qv0 qb0 qk0 l0 xa1 xb1 xc1 xd1 xe1 xf1 qt2 qm2 qu2 qg2 qo2 qv2 qb2 qk2 l2 fp2 xa2 xb2 xc2 xd2 xe2 xf2 fm2 fh2 fc2 fi2 ft2 wv2 k2 fb2 fe2 W (Tryz.laysM145.s1_3 W hc4) sl0 (sz0 (wt_at hc3 0 rfl rfl)) sl2 tl2).mono fun e W' ⟨he, hb⟩ => ?_
  subst he
  exact ⟨_, rfl, _, _, _, [], _, [], hW', trodAll_cons_mk (shut_bool Tryz.underlying4 _) trodAll_mk0, trodAll_cons_mk (Below.trod laidOut (by kernel_rfl) (of_decide_eq_true (by kernel_rfl)) h0k hb (fun x hx => hlt x (by simp [hx]))) (trodAll_cons_mk (Below.trod laidOut (by kernel_rfl) (of_decide_eq_true (by kernel_rfl)) h1k hb (fun x hx => hlt x (by simp [hx]))) (trodAll_cons_mk (Below.trod laidOut (by kernel_rfl) (of_decide_eq_true (by kernel_rfl)) h2k hb (fun x hx => hlt x (by simp [hx]))) trodAll_mk0)), rfl, hb.frame _, fun h => by cases h⟩

theorem saidName : Tryz.pinned.checked.prog.funcNamed Rows.fetchReadableRow.func = some 5 := by kernel_rfl
theorem saidFacts : joinedFacts Tryz.pinned.checked.prog 5 Tryz.f5 (OpenSpec.ofChange Rows.fetchReadableSpec).bare Rows.fetchReadableRow = true := by kernel_rfl
theorem saidInst : Tryz.f5.isInstance Tryz.pinned.checked.prog Rows.fetchReadableRow.origin Rows.fetchReadableRow.targs := of_decide_eq_true (by kernel_rfl)
theorem saidWrap : Tryz.f5.isWrapper Tryz.pinned.checked.prog Rows.fetchReadableRow.wrapper Rows.fetchReadableRow.mainSum := by unfold Func.isWrapper; first | (rw [if_pos (by decide +kernel)]; kernel_rfl) | (rw [if_neg (by decide +kernel)]; exact ⟨rfl, rfl⟩)
theorem said : Rows.FetchReadableSaid :=
  OpenClaim.holds_of_cond 5 Tryz.f5 rfl rfl rfl rfl rfl rfl rfl ⟨rfl, rfl, rfl, rfl, rfl⟩ rfl rfl rfl rfl rfl saidName Tryz.func5 saidFacts saidInst saidWrap
    (fun os started H enc _ F => by rw [OpenClaim.pre_eq_preRow]; exact lifted os started H enc F)
theorem plain (f : FuncId) (fn : Func) (hf : Tryz.pinned.checked.prog.funcNamed "knapsack/knapsacklaw44.FetchReadable" = some f) (hfn : Tryz.pinned.checked.prog.funcs[f]? = some fn) :
    true = Tryz.pinned.checked.prog.looks [] ∧ ∀ (j : Nat) t, fn.params[j]? = some t → Tryz.pinned.checked.prog.wantsStandIn t = false := by
  obtain rfl : f = 5 := Option.some.inj ((show Tryz.prog.funcNamed "knapsack/knapsacklaw44.FetchReadable" = some 5 by kernel_rfl).symm.trans hf) |>.symm
  obtain rfl : fn = Tryz.f5 := (Option.some.inj (Tryz.func5.symm.trans hfn)).symm
  refine ⟨by kernel_rfl, fun j t ht => ?_⟩
  rw [Tryz.params5] at ht
  have hm : t ∈ [30, 37, 40] := by simpa using Array.mem_of_getElem? ht
  have hall : ([30, 37, 40].all fun u => !Tryz.prog.wantsStandIn u) = true := by kernel_rfl
  exact (show Tryz.prog.wantsStandIn t = false by simpa using List.all_eq_true.1 hall t hm)
/-- the card of FetchReadable -/
theorem card : Rows.FetchReadableCardSaid :=
  Claim7.holds_tied_plain_at .later [] _ _ _ _ said (fun _ h => by cases h) (by kernel_rfl) (fun _ h => by cases h) fetchReadable_row_tie rfl ⟨rfl, rfl⟩ (by kernel_rfl) rfl plain (by kernel_rfl)
end Go.Proofs.YtjdhaacmlpegoaaGreatDoor.fetchReadable
