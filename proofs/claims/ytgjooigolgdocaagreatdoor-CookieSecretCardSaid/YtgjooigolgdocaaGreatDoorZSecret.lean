/- CookieSecret: the frame of the row, and the card. The law returns true for every input; its arguments read as before. -/
import Derived.Deep.Slices
import Derived.Test.YtgjooigolgdocaaGreatDoorWA
import Derived.Test.YtgjooigolgdocaaGreatDoorMI
import Derived.Test.YtgjooigolgdocaaGreatDoorCards
import Derived.Test.YtgjooigolgdocaaGreatDoorTie
import Derived.ProofKit
import Derived.OpenShut
import Derived.Deep.DeepHandedRow
import Derived.Lay
import Derived.SevenTiedAt
import Derived.LaidOnce
import Derived.MakeChecks
namespace Go.Proofs.YtgjooigolgdocaaGreatDoor.cookieSecret
set_option linter.unusedVariables false
set_option linter.unusedSimpArgs false
open Go.ChangeShapes Go.WideShapes Go.ChangeAt Go.RowKit
open Go.ChangeMaps (open_string shut_string)

theorem pick_jar {α : Type} (n : Nat) (Q : Nat → α → Prop) (h : ∀ i, i < n → ∃ p, Q i p) : ∃ l : List α, l.length = n ∧ ∀ i (hi : i < l.length), Q i l[i] := by
  induction n with
  | zero => exact ⟨[], rfl, fun i hi => by simp at hi⟩
  | succ n ih =>
    obtain ⟨l, hl, hq⟩ := ih (fun i hi => h i (by omega))
    obtain ⟨p, hp⟩ := h n (by omega)
    refine ⟨l ++ [p], by simp [hl], fun i hi => ?_⟩
    by_cases hin : i < l.length
    · rw [List.getElem_append_left hin]; exact hq i hin
    · obtain rfl : i = l.length := by simp at hi; omega
      rw [List.getElem_append_right (Nat.le_refl _)]
      simpa [hl] using hp
theorem cell_spot {w : World} {a : Addr} {u : Value} (h : w.cell? a = some u) : a.spot = none ∧ a.block < w.heap.size := by
  unfold World.cell? at h
  by_cases hlt : a.block < w.heap.size
  · refine ⟨?_, hlt⟩
    cases hs : a.spot with
    | none => rfl
    | some k =>
      split at h
      · simp [hs] at h
      · cases h
  · rw [Array.getElem?_eq_none (by omega)] at h
    simp at h
theorem open_jarz {H : Type} {enc : TypeId × Value → H} {P : Program} {w : World} {base : Nat} {held : Bool} {r : Reach} {b0 : Nat} {t sl e s b i : TypeId} {fs es : Array Field} {f0 f1 : Field} {v : Value} {d : DataW H} {ps : List MemPlace}
    (hs : P.underlying t = some (.struct fs)) (hsl : P.underlying sl = some (.slice e)) (he : P.underlying e = some (.struct es)) (hst : P.underlying s = some .string) (hbo : P.underlying b = some .bool) (hi3 : P.underlying i = some (.int .i64))
    (h0 : fs[0]? = some f0) (o0 : f0.offset = 0 ∧ f0.type = sl) (h1 : fs[1]? = some f1) (o1 : f1.offset = 1 ∧ f1.type = i)
    (hes : ∀ j, j < 4 → ∃ f, es[j]? = some f ∧ f.offset = j ∧ f.type = s) (heb : ∀ j, j < 3 → ∃ f, es[4 + j]? = some f ∧ f.offset = 4 + j ∧ f.type = b) (hei : ∀ j, j < 2 → ∃ f, es[7 + j]? = some f ∧ f.offset = 7 + j ∧ f.type = i)
    (hcs : P.cellsOf s = 1) (hcb : P.cellsOf b = 1) (hci : P.cellsOf i = 1) (hcl : P.cellsOf sl = 1) (hC : P.cellsOf e = 9) (hCt : P.cellsOf t = 2) (hen : es.size = 9)
    (hval : Value.okWide P w r b0 t v) (hd : DataW.Trod enc P w base (fun _ => true) held t v d ps) : ∃ (l : List Ck) (u : Value) (n : Int), v = .agg #[u, .int .i64 n] ∧ SlK ckL 9 w u l ∧ (WtOk P t d → ∀ c ∈ l, lenC c ≤ 4611686018427387904) := by
  obtain ⟨cs, rfl, hsz⟩ := okWide_struct hs hval
  obtain ⟨c0, c1, rfl⟩ : ∃ c0 c1, cs = #[c0, c1] := by
    have h2 := hsz.trans hCt
    obtain ⟨l⟩ := cs
    match l, h2 with
    | [c0, c1], _ => exact ⟨c0, c1, rfl⟩
  obtain ⟨fuel, hf⟩ := hd
  obtain ⟨xs, m, _, hdx, _, hx, hi⟩ := DataW.trod_struct hs hf
  have g0 := hi 0 f0 h0
  have g1 := hi 1 f1 h1
  have l0 := (Array.getElem?_eq_some_iff.1 h0).1
  have l1 := (Array.getElem?_eq_some_iff.1 h1).1
  rw [o0.1, o0.2, hcl] at g0
  rw [o1.1, o1.2, hci] at g1
  obtain ⟨y0, hy0⟩ : ∃ y, xs[0]? = some y := ⟨xs[0]'(by omega), List.getElem?_eq_getElem _⟩
  obtain ⟨y1, hy1⟩ : ∃ y, xs[1]? = some y := ⟨xs[1]'(by omega), List.getElem?_eq_getElem _⟩
  rw [hy0] at g0
  rw [hy1] at g1
  have hcell : (Value.cells (.agg #[c0, c1])).toList = [c0, c1] := rfl
  rw [hcell] at g0 g1
  obtain ⟨n, hn, _⟩ := DataW.trod_int hi3 g1
  have e1 : c1 = .int .i64 n := (List.cons.inj hn).1
  rcases Go.Deep.open_slice hsl g0 with ⟨hc0, -⟩ | ⟨a, len, cap, m2, n', D, Pl, hcs2, hb, hl, hm, hmm, hx2, hi2⟩
  · have e0 : c0 = .slice none 0 0 := (List.cons.inj hc0).1
    exact ⟨[], c0, n, by rw [e1], .inl ⟨rfl, none, 0, e0, Nat.zero_le _⟩, fun _ c hc => by cases hc⟩
  · have e0 : c0 = .slice (some a) len cap := (List.cons.inj hcs2).1
    have key : ∀ k, k < len → ∃ c : Ck, (∀ j u, (ckL c)[j]? = some u → w.cell? ((a.add (k * 9)).add j) = some u) ∧ (WtOk P e (D k) → lenC c ≤ 4611686018427387904) := fun k hk => by
      obtain ⟨cs', hc', ht'⟩ := hi2 k (by rw [hmm]; simp; omega)
      rw [hC] at hc'
      obtain ⟨_, hcl9, hat⟩ := World.cells?_some hc'
      obtain ⟨zs, n2, _, hdz, _, hz, hz2⟩ := DataW.trod_struct he ht'
      have hDk : D k = .agg (zs.map (·.1)) := (Prod.mk.inj hdz).1
      have key2 : ∀ j, j < 9 → ∃ y, zs[j]? = some y := fun j hj => ⟨zs[j]'(by omega), List.getElem?_eq_getElem _⟩
      match cs', hcl9 with
      | [u0, u1, u2, u3, u4, u5, u6, u7, u8], _ =>
        have ks : ∀ j (hj : j < 4), ∃ s : ByteArray, ([u0, u1, u2, u3, u4, u5, u6, u7, u8].drop j).take 1 = [.string s] ∧ (WtOk P e (D k) → s.size ≤ 140737488351232) := fun j hj => by
          obtain ⟨f, k1, k2, k3⟩ := hes j hj
          have h4 := hz2 j f k1
          rw [k2, k3, hcs] at h4
          obtain ⟨y, hy⟩ := key2 j (by omega)
          rw [hy] at h4
          obtain ⟨q, h5, h6, _⟩ := DataW.trod_string hst h4
          refine ⟨q, h5, fun hw => ?_⟩
          rw [hDk] at hw
          have hw2 := hw.struct he j k1 (d := y.1) (by rw [List.getElem?_map, hy]; rfl)
          rw [h6] at hw2
          exact hw2.str
        have kb : ∀ j (hj : j < 3), ∃ q : Bool, ([u0, u1, u2, u3, u4, u5, u6, u7, u8].drop (4 + j)).take 1 = [.bool q] := fun j hj => by
          obtain ⟨f, k1, k2, k3⟩ := heb j hj
          have h4 := hz2 (4 + j) f k1
          rw [k2, k3, hcb] at h4
          obtain ⟨y, hy⟩ := key2 (4 + j) (by omega)
          rw [hy] at h4
          obtain ⟨q, h5, _⟩ := DataW.trod_bool hbo h4
          exact ⟨q, h5⟩
        have ki : ∀ j (hj : j < 2), ∃ q : Int, ([u0, u1, u2, u3, u4, u5, u6, u7, u8].drop (7 + j)).take 1 = [.int .i64 q] := fun j hj => by
          obtain ⟨f, k1, k2, k3⟩ := hei j hj
          have h4 := hz2 (7 + j) f k1
          rw [k2, k3, hci] at h4
          obtain ⟨y, hy⟩ := key2 (7 + j) (by omega)
          rw [hy] at h4
          obtain ⟨q, h5, _⟩ := DataW.trod_int hi3 h4
          exact ⟨q, h5⟩
        obtain ⟨s0, r0, z0⟩ := ks 0 (by omega)
        obtain ⟨s1, r1, z1⟩ := ks 1 (by omega)
        obtain ⟨s2, r2, z2⟩ := ks 2 (by omega)
        obtain ⟨s3, r3, z3⟩ := ks 3 (by omega)
        obtain ⟨b4, r4⟩ := kb 0 (by omega)
        obtain ⟨b5, r5⟩ := kb 1 (by omega)
        obtain ⟨b6, r6⟩ := kb 2 (by omega)
        obtain ⟨i7, r7⟩ := ki 0 (by omega)
        obtain ⟨i8, r8⟩ := ki 1 (by omega)
        simp at r0 r1 r2 r3 r4 r5 r6 r7 r8
        subst r0 r1 r2 r3 r4 r5 r6 r7 r8
        refine ⟨⟨s0, s1, s2, s3, b4, b5, b6, i7, i8⟩, fun j u hu => ?_, fun hw => ?_⟩
        rotate_left
        · have := z0 hw
          have := z1 hw
          have := z2 hw
          have := z3 hw
          show s0.size + s1.size + s2.size + s3.size ≤ 4611686018427387904
          omega
        have hj : j < 9 := (List.getElem?_eq_some_iff.1 hu).1
        rw [hat j hj]; exact hu
    obtain ⟨l, hll, hq⟩ := pick_jar len _ key
    refine ⟨l, c0, n, by rw [e1], ?_, fun hw c hc => ?_⟩
    rotate_left
    · obtain ⟨k, hk, rfl⟩ := List.getElem_of_mem hc
      have hdd : d = .agg (xs.map (·.1)) := (Prod.mk.inj hdx).1
      rw [hdd] at hw
      have hw2 := hw.struct hs 0 h0 (d := y0.1) (by rw [List.getElem?_map, hy0]; rfl)
      rw [o0.2, hx2] at hw2
      have hw3 := hw2.slice hsl k (d := D k) (by rw [List.getElem?_map, List.getElem?_range (by omega)]; rfl)
      exact (hq k hk).2 hw3
    rw [e0]
    cases l with
    | nil => exact .inl ⟨rfl, some a, cap, by rw [← hll]; rfl, hm⟩
    | cons p l =>
      have z0 := (hq 0 (by simp)).1 0 _ rfl
      have hz : (a.add (0 * 9)).add 0 = a := by unfold Addr.add; simp
      rw [hz] at z0
      obtain ⟨hsp, hlt⟩ := cell_spot z0
      obtain ⟨ab, ao, sp⟩ := a
      have hsp : sp = none := hsp
      subst hsp
      refine .inr ⟨by simp, ab, ao, cap, by rw [hll], by omega, hm, hlt, fun k hk j u hu => ?_⟩
      have := (hq k hk).1 j u hu
      have e1 : ∀ o x : Nat, (⟨ab, o, none⟩ : Addr).add x = ⟨ab, o + x, none⟩ := fun o x => by unfold Addr.add; split <;> simp_all
      rw [e1, e1] at this
      exact this

theorem open_ask {H : Type} {enc : TypeId × Value → H} {P : Program} {w : World} {base : Nat} {spare : Nat → Bool} {held : Bool} {r : Reach} {b0 : Nat} {t u e i : TypeId} {fs us : Array Field} {f0 f1 : Field} {v : Value} {d : DataW H} {ps : List MemPlace}
    (hs : P.underlying t = some (.struct fs)) (hu : P.underlying u = some (.struct us)) (he : P.underlying e = some .string) (hi3 : P.underlying i = some (.int .i64)) (h0 : fs[0]? = some f0) (o0 : f0.offset = 0 ∧ f0.type = u) (h1 : fs[1]? = some f1) (o1 : f1.offset = 6 ∧ f1.type = i)
    (hus : ∀ j, j < 6 → ∃ f, us[j]? = some f ∧ f.offset = j ∧ f.type = e) (hce : P.cellsOf e = 1) (hci : P.cellsOf i = 1) (hcu : P.cellsOf u = 6) (hC : P.cellsOf t = 7) (hn : us.size = 6)
    (hval : Value.okWide P w r b0 t v) (hd : DataW.Trod enc P w base spare held t v d ps) : ∃ (a b c d e f : ByteArray) (n : Int), v = .agg #[.string a, .string b, .string c, .string d, .string e, .string f, .int .i64 n] := by
  obtain ⟨cs, rfl, hsz⟩ := okWide_struct hs hval
  obtain ⟨c0, c1, c2, c3, c4, c5, c6, rfl⟩ : ∃ c0 c1 c2 c3 c4 c5 c6, cs = #[c0, c1, c2, c3, c4, c5, c6] := by
    have h2 := hsz.trans hC
    obtain ⟨l⟩ := cs
    match l, h2 with
    | [c0, c1, c2, c3, c4, c5, c6], _ => exact ⟨c0, c1, c2, c3, c4, c5, c6, rfl⟩
  obtain ⟨fuel, hf⟩ := hd
  obtain ⟨xs, m, _, _, _, hx, hi⟩ := DataW.trod_struct hs hf
  have g0 := hi 0 f0 h0
  have g1 := hi 1 f1 h1
  have l0 := (Array.getElem?_eq_some_iff.1 h0).1
  have l1 := (Array.getElem?_eq_some_iff.1 h1).1
  rw [o0.1, o0.2, hcu] at g0
  rw [o1.1, o1.2, hci] at g1
  obtain ⟨y0, hy0⟩ : ∃ y, xs[0]? = some y := ⟨xs[0]'(by omega), List.getElem?_eq_getElem _⟩
  obtain ⟨y1, hy1⟩ : ∃ y, xs[1]? = some y := ⟨xs[1]'(by omega), List.getElem?_eq_getElem _⟩
  rw [hy0] at g0
  rw [hy1] at g1
  obtain ⟨n, hn6, _⟩ := DataW.trod_int hi3 g1
  obtain ⟨zs, m2, _, _, _, hz, hj⟩ := DataW.trod_struct hu g0
  have hcell : (Value.cells (.agg #[c0, c1, c2, c3, c4, c5, c6])).toList = [c0, c1, c2, c3, c4, c5, c6] := rfl
  rw [hcell] at hn6 hj
  have key : ∀ j (hj6 : j < 6), ∃ s : ByteArray, [c0, c1, c2, c3, c4, c5][j]'hj6 = .string s := fun j hj6 => by
    obtain ⟨f, k1, k2, k3⟩ := hus j hj6
    have h4 := hj j f k1
    rw [k2, k3, hce] at h4
    obtain ⟨y, hy⟩ : ∃ y, zs[j]? = some y := ⟨zs[j]'(by omega), List.getElem?_eq_getElem _⟩
    rw [hy] at h4
    obtain ⟨s, h5, _⟩ := DataW.trod_string he h4
    have h6 : ([c0, c1, c2, c3, c4, c5, c6].drop 0).take 6 = [c0, c1, c2, c3, c4, c5] := rfl
    rw [h6, List.drop_eq_getElem_cons hj6, List.take_succ_cons] at h5
    exact ⟨s, (List.cons.inj h5).1⟩
  obtain ⟨s0, e0⟩ := key 0 (by omega)
  obtain ⟨s1, e1⟩ := key 1 (by omega)
  obtain ⟨s2, e2⟩ := key 2 (by omega)
  obtain ⟨s3, e3⟩ := key 3 (by omega)
  obtain ⟨s4, e4⟩ := key 4 (by omega)
  obtain ⟨s5, e5⟩ := key 5 (by omega)
  simp only [List.getElem_cons_zero, List.getElem_cons_succ] at e0 e1 e2 e3 e4 e5
  have e6 : c6 = .int .i64 n := (List.cons.inj hn6).1
  exact ⟨s0, s1, s2, s3, s4, s5, n, by rw [e0, e1, e2, e3, e4, e5, e6]⟩

theorem own : ownKnob Tryz.prog.godebug = none := by kernel_rfl
theorem laidOut : laidOutB Tryz.prog = true := by kernel_rfl
theorem laid_met (os : Os) : laidMet Tryz.prog Rows.cookieSecretRow.laid (((World.laidAll Tryz.prog os Rows.cookieSecretRow.laid)).forCall (fun _ _ => 0) ⟨#[], #[.agg #[.slice none 0 0, .int .i64 0], .agg #[.string ⟨#[]⟩, .string ⟨#[]⟩, .string ⟨#[]⟩, .string ⟨#[]⟩, .string ⟨#[]⟩, .string ⟨#[]⟩, .int .i64 0]], []⟩).memory := laidMet_laidAll _ (by kernel_rfl) (by kernel_rfl)
theorem reads (os : Os) {H : Type} (enc : TypeId × Value → H) : ∃ places, DataW.whole enc Tryz.prog ((World.laidAll Tryz.prog os Rows.cookieSecretRow.laid).forCall (fun _ _ => 0) ⟨#[], #[.agg #[.slice none 0 0, .int .i64 0], .agg #[.string ⟨#[]⟩, .string ⟨#[]⟩, .string ⟨#[]⟩, .string ⟨#[]⟩, .string ⟨#[]⟩, .string ⟨#[]⟩, .int .i64 0]], []⟩).memory Tryz.f7.params.toList Rows.cookieSecretSpec.vars false (#[.agg #[.slice none 0 0, .int .i64 0], .agg #[.string ⟨#[]⟩, .string ⟨#[]⟩, .string ⟨#[]⟩, .string ⟨#[]⟩, .string ⟨#[]⟩, .string ⟨#[]⟩, .int .i64 0]] : Array Value).toList 8 = some ([.agg [.nil, .lit (.int .i64 0)], .agg [.agg [.lit (.string []), .lit (.string []), .lit (.string []), .lit (.string []), .lit (.string []), .lit (.string [])], .lit (.int .i64 0)]], [], places) :=
  ⟨[], by kernel_rfl⟩

set_option maxRecDepth 100000 in
theorem lifted (os : Os) (started : os.Started) (H : Type) (enc : TypeId × Value → H) (F : Stop.Interp) :
    ReturnsInHanded {} Tryz.checked os 7 .any ((OpenSpec.ofChange Rows.cookieSecretSpec).preRow enc Tryz.prog Tryz.f7 Rows.cookieSecretRow.domain false Rows.cookieSecretRow.laid) (((OpenSpec.ofChange Rows.cookieSecretSpec).at F).post enc Tryz.prog Tryz.f7 false true false false) := by
  obtain ⟨places, hx⟩ := reads os enc
  refine returnsInHanded_of_row (C := Tryz.checked) (s := (OpenSpec.ofChange Rows.cookieSecretSpec)) own started (by kernel_rfl) Tryz.func7
    (witness_row_at (enc := enc) (C := Tryz.checked) false (World.laidAll Tryz.prog os Rows.cookieSecretRow.laid) #[.agg #[.slice none 0 0, .int .i64 0], .agg #[.string ⟨#[]⟩, .string ⟨#[]⟩, .string ⟨#[]⟩, .string ⟨#[]⟩, .string ⟨#[]⟩, .string ⟨#[]⟩, .int .i64 0]] (World.laidAll_os _ _ _) (by kernel_rfl) (by kernel_rfl) (by kernel_rfl)
      (OpenSpec.preRow_of_cond 8 hx (by kernel_rfl) (fun k hk => by cases hk) (by kernel_rfl) (laid_met os))) ?_
  intro W base args ds gs before hval hW hc1 hc2 hc3 hL hc4 hc5
  have hW' := hW
  obtain ⟨p, q, hA0, hV, rfl, hfz, hnd⟩ := hW
  have hA : DataW.TrodAll enc Tryz.prog W 0 (fun _ => true) true Tryz.f7.params.toList args.toList ds p := hA0
  rw [Tryz.params7] at hA hval
  obtain ⟨v0, vs0, d0, ds0, p0, q0, hargs, rfl, rfl, h0, r0⟩ := trodAll_cons hA
  obtain ⟨v1, vs1, d1, ds1, p1, q1, rfl, rfl, rfl, h1, r1⟩ := trodAll_cons r0
  obtain ⟨rfl, rfl, rfl⟩ := trodAll_nil r1
  obtain rfl : args = #[v0, v1] := by cases args; simp_all
  obtain ⟨rfl, rfl⟩ := trodVars_none hV
  have h0k := h0
  obtain ⟨l0, v0, n0, rfl, sl0, sz0⟩ := open_jarz Tryz.underlying38 Tryz.underlying36 Tryz.underlying29 Tryz.underlying9 Tryz.underlying4 Tryz.underlying3 rfl ⟨rfl, rfl⟩ rfl ⟨rfl, rfl⟩ (fun j hj => by match j, hj with | 0, _ => exact ⟨_, rfl, rfl, rfl⟩ | 1, _ => exact ⟨_, rfl, rfl, rfl⟩ | 2, _ => exact ⟨_, rfl, rfl, rfl⟩ | 3, _ => exact ⟨_, rfl, rfl, rfl⟩) (fun j hj => by match j, hj with | 0, _ => exact ⟨_, rfl, rfl, rfl⟩ | 1, _ => exact ⟨_, rfl, rfl, rfl⟩ | 2, _ => exact ⟨_, rfl, rfl, rfl⟩) (fun j hj => by match j, hj with | 0, _ => exact ⟨_, rfl, rfl, rfl⟩ | 1, _ => exact ⟨_, rfl, rfl, rfl⟩) (by kernel_rfl) (by kernel_rfl) (by kernel_rfl) (by kernel_rfl) (by kernel_rfl) (by kernel_rfl) (by rfl) (hval 0 38 v0 rfl rfl) h0
  have h1k := h1
  obtain ⟨xa1, xb1, xc1, xd1, xe1, xf1, xn1, rfl⟩ := open_ask Tryz.underlying25 Tryz.underlying23 Tryz.underlying9 Tryz.underlying3 rfl ⟨rfl, rfl⟩ rfl ⟨rfl, rfl⟩ (fun j hj => by match j, hj with | 0, _ => exact ⟨_, rfl, rfl, rfl⟩ | 1, _ => exact ⟨_, rfl, rfl, rfl⟩ | 2, _ => exact ⟨_, rfl, rfl, rfl⟩ | 3, _ => exact ⟨_, rfl, rfl, rfl⟩ | 4, _ => exact ⟨_, rfl, rfl, rfl⟩ | 5, _ => exact ⟨_, rfl, rfl, rfl⟩) (by kernel_rfl) (by kernel_rfl) (by kernel_rfl) (by kernel_rfl) rfl (hval 1 25 v1 rfl rfl) h1
  clear hA0
  simp only [List.append_nil, List.nil_append] at hW'
  have hlt : ∀ x ∈ p0 ++ p1, x.block < W.heap.size := fun x hx => hW'.lt x (by simpa using hx)

  refine (cookiesecret_law l0 v0 n0 xa1 xb1 xc1 xd1 xe1 xf1 xn1 W (Tryz.laysM145.s1_3 W hc4) sl0 (slk_len sl0) (sz0 (wt_at hc3 0 rfl rfl))).mono fun e W' ⟨he, hb⟩ => ?_
  subst he
  exact ⟨_, rfl, _, _, _, [], _, [], hW', trodAll_cons_mk (shut_bool Tryz.underlying4 _) trodAll_mk0, trodAll_cons_mk (Below.trod laidOut (by kernel_rfl) (of_decide_eq_true (by kernel_rfl)) h0k hb (fun x hx => hlt x (by simp [hx]))) (trodAll_cons_mk (Below.trod laidOut (by kernel_rfl) (of_decide_eq_true (by kernel_rfl)) h1k hb (fun x hx => hlt x (by simp [hx]))) trodAll_mk0), rfl, hb.frame _, fun h => by cases h⟩

theorem said : Rows.CookieSecretSaid :=
  OpenClaim.holds_of_cond 7 Tryz.f7 rfl rfl rfl rfl rfl rfl rfl ⟨rfl, rfl, rfl, rfl, rfl⟩ rfl rfl rfl rfl rfl (by kernel_rfl) Tryz.func7 (by kernel_rfl)
    (of_decide_eq_true (by kernel_rfl)) (by unfold Func.isWrapper; first | (rw [if_pos (by decide +kernel)]; kernel_rfl) | (rw [if_neg (by decide +kernel)]; exact ⟨rfl, rfl⟩))
    (fun os started H enc _ F => by rw [OpenClaim.pre_eq_preRow]; exact lifted os started H enc F)
theorem plain (f : FuncId) (fn : Func) (hf : Tryz.pinned.checked.prog.funcNamed "knapsack/knapsacklaw42.CookieSecret" = some f) (hfn : Tryz.pinned.checked.prog.funcs[f]? = some fn) :
    false = Tryz.pinned.checked.prog.looks [] ∧ ∀ (j : Nat) t, fn.params[j]? = some t → Tryz.pinned.checked.prog.wantsStandIn t = false := by
  obtain rfl : f = 7 := Option.some.inj ((show Tryz.prog.funcNamed "knapsack/knapsacklaw42.CookieSecret" = some 7 by kernel_rfl).symm.trans hf) |>.symm
  obtain rfl : fn = Tryz.f7 := (Option.some.inj (Tryz.func7.symm.trans hfn)).symm
  refine ⟨by kernel_rfl, fun j t ht => ?_⟩
  rw [Tryz.params7] at ht
  have hm : t ∈ [38, 25] := by simpa using Array.mem_of_getElem? ht
  have hall : ([38, 25].all fun u => !Tryz.prog.wantsStandIn u) = true := by kernel_rfl
  exact (show Tryz.prog.wantsStandIn t = false by simpa using List.all_eq_true.1 hall t hm)
/-- the card of CookieSecret -/
theorem card : Rows.CookieSecretCardSaid :=
  Claim7.holds_tied_plain_at .later [] _ _ _ _ said (fun _ h => by cases h) (by kernel_rfl) (fun _ h => by cases h) cookieSecret_row_tie rfl ⟨rfl, rfl⟩ (by kernel_rfl) rfl plain (by kernel_rfl)
end Go.Proofs.YtgjooigolgdocaaGreatDoor.cookieSecret
