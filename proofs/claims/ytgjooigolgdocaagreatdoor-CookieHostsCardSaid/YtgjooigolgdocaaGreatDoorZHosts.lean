/- CookieHosts: the frame of the row, and the card. The law returns true for every input; its arguments read as before. -/
import Derived.Test.YtgjooigolgdocaaGreatDoorDE
import Derived.Test.YtgjooigolgdocaaGreatDoorCards
import Derived.Test.YtgjooigolgdocaaGreatDoorTie
import Derived.ProofKit
import Derived.OpenShut
import Derived.Deep.DeepHandedRow
import Derived.Lay
import Derived.SevenTiedAt
import Derived.LaidOnce
import Derived.MakeChecks
namespace Go.Proofs.YtgjooigolgdocaaGreatDoor.cookieHosts
set_option linter.unusedVariables false
set_option linter.unusedSimpArgs false
open Go.ChangeShapes Go.WideShapes Go.ChangeAt Go.RowKit
open Go.ChangeMaps (open_string shut_string)

theorem open_ask {H : Type} {enc : TypeId × Value → H} {P : Program} {w : World} {base : Nat} {spare : Nat → Bool} {held : Bool} {r : Reach} {b0 : Nat} {t u e i : TypeId} {fs us : Array Field} {f0 f1 : Field} {v : Value} {d : DataW H} {ps : List MemPlace}
    (hs : P.underlying t = some (.struct fs)) (hu : P.underlying u = some (.struct us)) (he : P.underlying e = some .string) (hi3 : P.underlying i = some (.int .i64)) (h0 : fs[0]? = some f0) (o0 : f0.offset = 0 ∧ f0.type = u) (h1 : fs[1]? = some f1) (o1 : f1.offset = 6 ∧ f1.type = i)
    (hus : ∀ j, j < 6 → ∃ f, us[j]? = some f ∧ f.offset = j ∧ f.type = e) (hce : P.cellsOf e = 1) (hci : P.cellsOf i = 1) (hcu : P.cellsOf u = 6) (hC : P.cellsOf t = 7) (hn : us.size = 6)
    (hval : Value.okWide P w r b0 t v) (hd : DataW.Trod enc P w base spare held t v d ps) : ∃ (a b c d e f : ByteArray) (n : Int), v = .agg #[.string a, .string b, .string c, .string d, .string e, .string f, .int .i64 n] := by
  obtain ⟨cs, rfl, hsz⟩ := okWide_struct hs hval
  obtain ⟨c0, c1, c2, c3, c4, c5, c6, rfl⟩ : ∃ c0 c1 c2 c3 c4 c5 c6, cs = #[c0, c1, c2, c3, c4, c5, c6] := by
    have h2 := hsz.trans hC
    obtain ⟨l⟩ := cs
    match l, h2 with
    | [c0, c1, c2, c3, c4, c5, c6], _ => exact ⟨c0, c1, c2, c3, c4, c5, c6, rfl⟩
  obtain ⟨fuel, hf⟩ := hd
  obtain ⟨xs, m, _, _, _, hx, hi⟩ := DataW.trod_struct hs hf
  have g0 := hi 0 f0 h0
  have g1 := hi 1 f1 h1
  have l0 := (Array.getElem?_eq_some_iff.1 h0).1
  have l1 := (Array.getElem?_eq_some_iff.1 h1).1
  rw [o0.1, o0.2, hcu] at g0
  rw [o1.1, o1.2, hci] at g1
  obtain ⟨y0, hy0⟩ : ∃ y, xs[0]? = some y := ⟨xs[0]'(by omega), List.getElem?_eq_getElem _⟩
  obtain ⟨y1, hy1⟩ : ∃ y, xs[1]? = some y := ⟨xs[1]'(by omega), List.getElem?_eq_getElem _⟩
  rw [hy0] at g0
  rw [hy1] at g1
  obtain ⟨n, hn6, _⟩ := DataW.trod_int hi3 g1
  obtain ⟨zs, m2, _, _, _, hz, hj⟩ := DataW.trod_struct hu g0
  have hcell : (Value.cells (.agg #[c0, c1, c2, c3, c4, c5, c6])).toList = [c0, c1, c2, c3, c4, c5, c6] := rfl
  rw [hcell] at hn6 hj
  have key : ∀ j (hj6 : j < 6), ∃ s : ByteArray, [c0, c1, c2, c3, c4, c5][j]'hj6 = .string s := fun j hj6 => by
    obtain ⟨f, k1, k2, k3⟩ := hus j hj6
    have h4 := hj j f k1
    rw [k2, k3, hce] at h4
    obtain ⟨y, hy⟩ : ∃ y, zs[j]? = some y := ⟨zs[j]'(by omega), List.getElem?_eq_getElem _⟩
    rw [hy] at h4
    obtain ⟨s, h5, _⟩ := DataW.trod_string he h4
    have h6 : ([c0, c1, c2, c3, c4, c5, c6].drop 0).take 6 = [c0, c1, c2, c3, c4, c5] := rfl
    rw [h6, List.drop_eq_getElem_cons hj6, List.take_succ_cons] at h5
    exact ⟨s, (List.cons.inj h5).1⟩
  obtain ⟨s0, e0⟩ := key 0 (by omega)
  obtain ⟨s1, e1⟩ := key 1 (by omega)
  obtain ⟨s2, e2⟩ := key 2 (by omega)
  obtain ⟨s3, e3⟩ := key 3 (by omega)
  obtain ⟨s4, e4⟩ := key 4 (by omega)
  obtain ⟨s5, e5⟩ := key 5 (by omega)
  simp only [List.getElem_cons_zero, List.getElem_cons_succ] at e0 e1 e2 e3 e4 e5
  have e6 : c6 = .int .i64 n := (List.cons.inj hn6).1
  exact ⟨s0, s1, s2, s3, s4, s5, n, by rw [e0, e1, e2, e3, e4, e5, e6]⟩

theorem own : ownKnob Tryz.prog.godebug = none := by kernel_rfl
theorem laidOut : laidOutB Tryz.prog = true := by kernel_rfl
theorem laid_met (os : Os) : laidMet Tryz.prog Rows.cookieHostsRow.laid (((World.laidAll Tryz.prog os Rows.cookieHostsRow.laid)).forCall (fun _ _ => 0) ⟨#[], #[.string ⟨#[]⟩, .agg #[.string ⟨#[]⟩, .string ⟨#[]⟩, .string ⟨#[]⟩, .string ⟨#[]⟩, .string ⟨#[]⟩, .string ⟨#[]⟩, .int .i64 0], .agg #[.string ⟨#[]⟩, .string ⟨#[]⟩, .string ⟨#[]⟩, .string ⟨#[]⟩, .string ⟨#[]⟩, .string ⟨#[]⟩, .int .i64 0]], []⟩).memory := laidMet_laidAll _ (by kernel_rfl) (by kernel_rfl)
theorem reads (os : Os) {H : Type} (enc : TypeId × Value → H) : ∃ places, DataW.whole enc Tryz.prog ((World.laidAll Tryz.prog os Rows.cookieHostsRow.laid).forCall (fun _ _ => 0) ⟨#[], #[.string ⟨#[]⟩, .agg #[.string ⟨#[]⟩, .string ⟨#[]⟩, .string ⟨#[]⟩, .string ⟨#[]⟩, .string ⟨#[]⟩, .string ⟨#[]⟩, .int .i64 0], .agg #[.string ⟨#[]⟩, .string ⟨#[]⟩, .string ⟨#[]⟩, .string ⟨#[]⟩, .string ⟨#[]⟩, .string ⟨#[]⟩, .int .i64 0]], []⟩).memory Tryz.f5.params.toList Rows.cookieHostsSpec.vars false (#[.string ⟨#[]⟩, .agg #[.string ⟨#[]⟩, .string ⟨#[]⟩, .string ⟨#[]⟩, .string ⟨#[]⟩, .string ⟨#[]⟩, .string ⟨#[]⟩, .int .i64 0], .agg #[.string ⟨#[]⟩, .string ⟨#[]⟩, .string ⟨#[]⟩, .string ⟨#[]⟩, .string ⟨#[]⟩, .string ⟨#[]⟩, .int .i64 0]] : Array Value).toList 8 = some ([.lit (.string []), .agg [.agg [.lit (.string []), .lit (.string []), .lit (.string []), .lit (.string []), .lit (.string []), .lit (.string [])], .lit (.int .i64 0)], .agg [.agg [.lit (.string []), .lit (.string []), .lit (.string []), .lit (.string []), .lit (.string []), .lit (.string [])], .lit (.int .i64 0)]], [], places) :=
  ⟨[], by kernel_rfl⟩

set_option maxRecDepth 100000 in
theorem lifted (os : Os) (started : os.Started) (H : Type) (enc : TypeId × Value → H) (F : Stop.Interp) :
    ReturnsInHanded {} Tryz.checked os 5 .any ((OpenSpec.ofChange Rows.cookieHostsSpec).preRow enc Tryz.prog Tryz.f5 Rows.cookieHostsRow.domain false Rows.cookieHostsRow.laid) (((OpenSpec.ofChange Rows.cookieHostsSpec).at F).post enc Tryz.prog Tryz.f5 false true false false) := by
  obtain ⟨places, hx⟩ := reads os enc
  refine returnsInHanded_of_row (C := Tryz.checked) (s := (OpenSpec.ofChange Rows.cookieHostsSpec)) own started (by kernel_rfl) Tryz.func5
    (witness_row_at (enc := enc) (C := Tryz.checked) false (World.laidAll Tryz.prog os Rows.cookieHostsRow.laid) #[.string ⟨#[]⟩, .agg #[.string ⟨#[]⟩, .string ⟨#[]⟩, .string ⟨#[]⟩, .string ⟨#[]⟩, .string ⟨#[]⟩, .string ⟨#[]⟩, .int .i64 0], .agg #[.string ⟨#[]⟩, .string ⟨#[]⟩, .string ⟨#[]⟩, .string ⟨#[]⟩, .string ⟨#[]⟩, .string ⟨#[]⟩, .int .i64 0]] (World.laidAll_os _ _ _) (by kernel_rfl) (by kernel_rfl) (by kernel_rfl)
      (OpenSpec.preRow_of_cond 8 hx (by kernel_rfl) (fun k hk => by cases hk) (by kernel_rfl) (laid_met os))) ?_
  intro W base args ds gs before hval hW hc1 hc2 hc3 hL hc4 hc5
  have hW' := hW
  obtain ⟨p, q, hA0, hV, rfl, hfz, hnd⟩ := hW
  have hA : DataW.TrodAll enc Tryz.prog W 0 (fun _ => true) true Tryz.f5.params.toList args.toList ds p := hA0
  rw [Tryz.params5] at hA hval
  obtain ⟨v0, vs0, d0, ds0, p0, q0, hargs, rfl, rfl, h0, r0⟩ := trodAll_cons hA
  obtain ⟨v1, vs1, d1, ds1, p1, q1, rfl, rfl, rfl, h1, r1⟩ := trodAll_cons r0
  obtain ⟨v2, vs2, d2, ds2, p2, q2, rfl, rfl, rfl, h2, r2⟩ := trodAll_cons r1
  obtain ⟨rfl, rfl, rfl⟩ := trodAll_nil r2
  obtain rfl : args = #[v0, v1, v2] := by cases args; simp_all
  obtain ⟨rfl, rfl⟩ := trodVars_none hV
  obtain ⟨x0, rfl, rfl, rfl, w0⟩ := open_string Tryz.underlying9 (hval 0 9 v0 rfl rfl) h0
  have h1k := h1
  obtain ⟨xa1, xb1, xc1, xd1, xe1, xf1, xn1, rfl⟩ := open_ask Tryz.underlying25 Tryz.underlying23 Tryz.underlying9 Tryz.underlying3 rfl ⟨rfl, rfl⟩ rfl ⟨rfl, rfl⟩ (fun j hj => by match j, hj with | 0, _ => exact ⟨_, rfl, rfl, rfl⟩ | 1, _ => exact ⟨_, rfl, rfl, rfl⟩ | 2, _ => exact ⟨_, rfl, rfl, rfl⟩ | 3, _ => exact ⟨_, rfl, rfl, rfl⟩ | 4, _ => exact ⟨_, rfl, rfl, rfl⟩ | 5, _ => exact ⟨_, rfl, rfl, rfl⟩) (by kernel_rfl) (by kernel_rfl) (by kernel_rfl) (by kernel_rfl) rfl (hval 1 25 v1 rfl rfl) h1
  have h2k := h2
  obtain ⟨xa2, xb2, xc2, xd2, xe2, xf2, xn2, rfl⟩ := open_ask Tryz.underlying25 Tryz.underlying23 Tryz.underlying9 Tryz.underlying3 rfl ⟨rfl, rfl⟩ rfl ⟨rfl, rfl⟩ (fun j hj => by match j, hj with | 0, _ => exact ⟨_, rfl, rfl, rfl⟩ | 1, _ => exact ⟨_, rfl, rfl, rfl⟩ | 2, _ => exact ⟨_, rfl, rfl, rfl⟩ | 3, _ => exact ⟨_, rfl, rfl, rfl⟩ | 4, _ => exact ⟨_, rfl, rfl, rfl⟩ | 5, _ => exact ⟨_, rfl, rfl, rfl⟩) (by kernel_rfl) (by kernel_rfl) (by kernel_rfl) (by kernel_rfl) rfl (hval 2 25 v2 rfl rfl) h2
  clear hA0
  simp only [List.append_nil, List.nil_append] at hW'
  have hlt : ∀ x ∈ p1 ++ p2, x.block < W.heap.size := fun x hx => hW'.lt x (by simpa using hx)
  refine (cookiehosts_law x0 xa1 xb1 xc1 xd1 xe1 xf1 xn1 xa2 xb2 xc2 xd2 xe2 xf2 xn2 W (Tryz.laysM145.s1_3 W hc4)).mono fun e W' ⟨he, hb⟩ => ?_
  subst he
  exact ⟨_, rfl, _, _, _, [], _, [], hW', trodAll_cons_mk (shut_bool Tryz.underlying4 _) trodAll_mk0, trodAll_cons_mk (shut_string Tryz.underlying9 w0) (trodAll_cons_mk (Below.trod laidOut (by kernel_rfl) (of_decide_eq_true (by kernel_rfl)) h1k hb (fun x hx => hlt x (by simp [hx]))) (trodAll_cons_mk (Below.trod laidOut (by kernel_rfl) (of_decide_eq_true (by kernel_rfl)) h2k hb (fun x hx => hlt x (by simp [hx]))) trodAll_mk0)), rfl, hb.frame _, fun h => by cases h⟩

theorem said : Rows.CookieHostsSaid :=
  OpenClaim.holds_of_cond 5 Tryz.f5 rfl rfl rfl rfl rfl rfl rfl ⟨rfl, rfl, rfl, rfl, rfl⟩ rfl rfl rfl rfl rfl (by kernel_rfl) Tryz.func5 (by kernel_rfl)
    (of_decide_eq_true (by kernel_rfl)) (by unfold Func.isWrapper; first | (rw [if_pos (by decide +kernel)]; kernel_rfl) | (rw [if_neg (by decide +kernel)]; exact ⟨rfl, rfl⟩))
    (fun os started H enc _ F => by rw [OpenClaim.pre_eq_preRow]; exact lifted os started H enc F)
theorem plain (f : FuncId) (fn : Func) (hf : Tryz.pinned.checked.prog.funcNamed "knapsack/knapsacklaw42.CookieHosts" = some f) (hfn : Tryz.pinned.checked.prog.funcs[f]? = some fn) :
    false = Tryz.pinned.checked.prog.looks [] ∧ ∀ (j : Nat) t, fn.params[j]? = some t → Tryz.pinned.checked.prog.wantsStandIn t = false := by
  obtain rfl : f = 5 := Option.some.inj ((show Tryz.prog.funcNamed "knapsack/knapsacklaw42.CookieHosts" = some 5 by kernel_rfl).symm.trans hf) |>.symm
  obtain rfl : fn = Tryz.f5 := (Option.some.inj (Tryz.func5.symm.trans hfn)).symm
  refine ⟨by kernel_rfl, fun j t ht => ?_⟩
  rw [Tryz.params5] at ht
  have hm : t ∈ [9, 25, 25] := by simpa using Array.mem_of_getElem? ht
  have hall : ([9, 25, 25].all fun u => !Tryz.prog.wantsStandIn u) = true := by kernel_rfl
  exact (show Tryz.prog.wantsStandIn t = false by simpa using List.all_eq_true.1 hall t hm)
/-- the card of CookieHosts -/
theorem card : Rows.CookieHostsCardSaid :=
  Claim7.holds_tied_plain_at .later [] _ _ _ _ said (fun _ h => by cases h) (by kernel_rfl) (fun _ h => by cases h) cookieHosts_row_tie rfl ⟨rfl, rfl⟩ (by kernel_rfl) rfl plain (by kernel_rfl)
end Go.Proofs.YtgjooigolgdocaaGreatDoor.cookieHosts
