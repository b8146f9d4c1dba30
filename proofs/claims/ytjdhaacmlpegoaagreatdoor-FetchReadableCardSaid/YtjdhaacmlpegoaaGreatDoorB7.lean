import Derived.Test.YtjdhaacmlpegoaaGreatDoorB4
import Derived.ProofKit
import Derived.Deep.Slices
import Derived.JoinedCond
/- Cache: the laws' check of sizes: attrs, few. -/
namespace Go.Proofs.YtjdhaacmlpegoaaGreatDoor
set_option linter.unusedVariables false
set_option linter.unusedSimpArgs false
open Go.RowKit

abbrev okH (h : Hd) : Bool := decide (h.1.size + h.2.size ≤ 200)
def attrB (l : List Hd) : Bool := l.all okH && decide (l.length ≤ 10)
/-- sizes that no machine passes -/
def WtH (l : List Hd) : Prop := ∀ h ∈ l, h.1.size ≤ 140737488355328 ∧ h.2.size ≤ 140737488355328
theorem attrB_sz {l : List Hd} (h : attrB l = true) : HdSz l ∧ l.length ≤ 10 ∧ ∀ x ∈ l, x.1.size + x.2.size ≤ 200 := by
  unfold attrB at h
  rw [Bool.and_eq_true, List.all_eq_true, decide_eq_true_eq] at h
  have h1 : ∀ x ∈ l, x.1.size + x.2.size ≤ 200 := fun x hx => of_decide_eq_true (h.1 x hx)
  exact ⟨⟨by omega, fun x hx => by have := h1 x hx; omega⟩, h.2, h1⟩
def okE (e : En) : Bool := attrB e.va && (attrB e.hd && decide (e.bo.size ≤ 500))
def fewA (es : List En) (rq : List Hd) : Bool := es.all okE && (decide (es.length ≤ 12) && attrB rq)
def WtE (e : En) : Prop := WtH e.va ∧ WtH e.hd ∧ e.bo.size ≤ 140737488355328
theorem okE_sz {e : En} (h : okE e = true) : HdSz e.va ∧ HdSz e.hd ∧ e.bo.size ≤ 500 := by
  unfold okE at h
  rw [Bool.and_eq_true, Bool.and_eq_true, decide_eq_true_eq] at h
  exact ⟨(attrB_sz h.1).1, (attrB_sz h.2.1).1, h.2.2⟩
theorem fewA_sz {es : List En} {rq : List Hd} (h : fewA es rq = true) : (∀ e ∈ es, okE e = true) ∧ es.length ≤ 12 ∧ attrB rq = true := by
  unfold fewA at h
  rw [Bool.and_eq_true, Bool.and_eq_true, decide_eq_true_eq, List.all_eq_true] at h
  exact ⟨h.1, h.2⟩
end Go.Proofs.YtjdhaacmlpegoaaGreatDoor

/- What the form's own reach says of the sizes of an argument's parts. -/
namespace Go.Proofs.YtjdhaacmlpegoaaGreatDoor
set_option linter.unusedVariables false
set_option linter.unusedSimpArgs false
open Go.RowKit

theorem wt_each {H : Type} {P : Program} : ∀ {ts : List TypeId} {ds : List (DataW H)} (i : Nat) {t : TypeId} {d : DataW H} {n : Nat}, ts[i]? = some t → ds[i]? = some d → n ∈ d.weights P t → n ∈ DataW.weightsEach P ts ds := by
  intro ts
  induction ts with
  | nil => intro ds i t d n h; simp at h
  | cons u ts ih =>
    intro ds i t d n h1 h2 h3
    cases ds with
    | nil => simp at h2
    | cons x ds =>
      unfold DataW.weightsEach
      cases i with
      | zero =>
        simp at h1 h2
        subst h1 h2
        exact List.mem_append_left _ h3
      | succ i => exact List.mem_append_right _ (ih i (by simpa using h1) (by simpa using h2) h3)
theorem wt_all {H : Type} {P : Program} {e : TypeId} : ∀ {ds : List (DataW H)} (i : Nat) {d : DataW H} {n : Nat}, ds[i]? = some d → n ∈ d.weights P e → n ∈ DataW.weightsAll P e ds := by
  intro ds
  induction ds with
  | nil => intro i d n h; simp at h
  | cons x ds ih =>
    intro i d n h1 h2
    unfold DataW.weightsAll
    cases i with
    | zero =>
      simp at h1
      subst h1
      exact List.mem_append_left _ h2
    | succ i => exact List.mem_append_right _ (ih i (by simpa using h1) h2)
theorem wt_struct {H : Type} {P : Program} {t : TypeId} {fs : Array Field} (ht : P.underlying t = some (.struct fs)) {parts : List (DataW H)} (i : Nat) {f : Field} {d : DataW H} {n : Nat} (hf : fs[i]? = some f) (hd : parts[i]? = some d) (h : n ∈ d.weights P f.type) : n ∈ (DataW.agg parts).weights P t := by
  unfold DataW.weights
  rw [ht]
  refine wt_each i ?_ hd h
  rw [List.getElem?_map]
  have : fs.toList[i]? = some f := by simpa using hf
  rw [this]; rfl
theorem wt_slice {H : Type} {P : Program} {t e : TypeId} (ht : P.underlying t = some (.slice e)) {elems spare : List (DataW H)} (i : Nat) {d : DataW H} {n : Nat} (hd : elems[i]? = some d) (h : n ∈ d.weights P e) : n ∈ (DataW.slice elems spare).weights P t := by
  unfold DataW.weights
  rw [ht]
  exact List.mem_cons_of_mem _ (List.mem_append_left _ (wt_all i hd h))
theorem wt_len {H : Type} {P : Program} {t e : TypeId} (ht : P.underlying t = some (.slice e)) {elems spare : List (DataW H)} : (elems.length + spare.length) * P.bytesOf e ∈ (DataW.slice elems spare).weights P t := by
  unfold DataW.weights
  rw [ht]
  exact List.mem_cons_self
theorem wt_string {H : Type} {P : Program} {t : TypeId} (s : ByteArray) : s.size ∈ (DataW.lit (H := H) (.string s.data.toList)).weights P t := by
  unfold DataW.weights
  simp
/-- all weights of a datum are within the reach -/
def WtOk {H : Type} (P : Program) (t : TypeId) (d : DataW H) : Prop := ∀ n ∈ d.weights P t, n ≤ reachBytes
theorem wt_at {H : Type} {P : Program} {ts : List TypeId} {ds : List (DataW H)} (h : (DataW.weightsEach P ts ds).all (· ≤ reachBytes) = true) (i : Nat) {t : TypeId} {d : DataW H} (ht : ts[i]? = some t) (hd : ds[i]? = some d) : WtOk P t d := fun n hn => by
  have := List.all_eq_true.1 h n (wt_each i ht hd hn)
  simpa using this
theorem WtOk.struct {H : Type} {P : Program} {t : TypeId} {fs : Array Field} {parts : List (DataW H)} (h : WtOk P t (.agg parts)) (ht : P.underlying t = some (.struct fs)) (i : Nat) {f : Field} {d : DataW H} (hf : fs[i]? = some f) (hd : parts[i]? = some d) : WtOk P f.type d := fun n hn => h n (wt_struct ht i hf hd hn)
theorem WtOk.slice {H : Type} {P : Program} {t e : TypeId} {elems spare : List (DataW H)} (h : WtOk P t (.slice elems spare)) (ht : P.underlying t = some (.slice e)) (i : Nat) {d : DataW H} (hd : elems[i]? = some d) : WtOk P e d := fun n hn => h n (wt_slice ht i hd hn)
theorem WtOk.str {H : Type} {P : Program} {t : TypeId} {s : ByteArray} (h : WtOk P t (DataW.lit (H := H) (.string s.data.toList))) : s.size ≤ 140737488351232 := h _ (wt_string s)
end Go.Proofs.YtjdhaacmlpegoaaGreatDoor

/- What a caller hands in: headers, entries, caches, requests, with their sizes out of the form's reach. -/
namespace Go.Proofs.YtjdhaacmlpegoaaGreatDoor
set_option linter.unusedVariables false
set_option linter.unusedSimpArgs false
open Go.RowKit

section
variable {H : Type} {enc : TypeId × Value → H} {P : Program} {w : World} {base : Nat} {held : Bool}
theorem pick_rows {α : Type} (n : Nat) (Q : Nat → α → Prop) (h : ∀ i, i < n → ∃ p, Q i p) : ∃ l : List α, l.length = n ∧ ∀ i (hi : i < l.length), Q i l[i] := by
  induction n with
  | zero => exact ⟨[], rfl, fun i hi => by simp at hi⟩
  | succ n ih =>
    obtain ⟨l, hl, hq⟩ := ih (fun i hi => h i (by omega))
    obtain ⟨p, hp⟩ := h n (by omega)
    refine ⟨l ++ [p], by simp [hl], fun i hi => ?_⟩
    by_cases hin : i < l.length
    · rw [List.getElem_append_left hin]; exact hq i hin
    · obtain rfl : i = l.length := by simp at hi; omega
      rw [List.getElem_append_right (Nat.le_refl _)]
      simpa [hl] using hp
theorem cell_spot2 {w : World} {a : Addr} {u : Value} (h : w.cell? a = some u) : a.spot = none ∧ a.block < w.heap.size := by
  unfold World.cell? at h
  by_cases hlt : a.block < w.heap.size
  · refine ⟨?_, hlt⟩
    cases hs : a.spot with
    | none => rfl
    | some k =>
      split at h
      · simp [hs] at h
      · cases h
  · rw [Array.getElem?_eq_none (by omega)] at h
    simp at h
/-- a slice of things that are opened one by one -/
theorem open_rows {α : Type} (en : α → List Value) (K : Nat) (hK : ∀ x, (en x).length = K) (hK0 : 0 < K) (Good Wt : α → Prop) {t e : TypeId} {fuel : Nat} {cs : List Value} {x : DataW H × List MemPlace}
    (ht : P.underlying t = some (.slice e)) (hce : P.cellsOf e = K)
    (each : ∀ n cs (x : DataW H × List MemPlace), DataW.trod enc P w base (fun _ => true) held n e cs = some x → ∃ c, cs = en c ∧ Good c ∧ (WtOk P e x.1 → Wt c))
    (h : DataW.trod enc P w base (fun _ => true) held fuel t cs = some x) : ∃ v l, cs = [v] ∧ SlK en K w v l ∧ (∀ c ∈ l, Good c) ∧ (WtOk P t x.1 → ∀ c ∈ l, Wt c) := by
  rcases Go.Deep.open_slice ht h with ⟨hc0, -⟩ | ⟨a, len, cap, m, n, D, Pl, hcs, hb, hl, hm, hmm, hx, hi⟩
  · exact ⟨_, [], hc0, .inl ⟨rfl, none, 0, rfl, Nat.zero_le _⟩, (fun c hc => by cases hc), (fun _ c hc => by cases hc)⟩
  · have key : ∀ k, k < len → ∃ c : α, (∀ j u, (en c)[j]? = some u → w.cell? ((a.add (k * K)).add j) = some u) ∧ Good c ∧ (WtOk P e (D k) → Wt c) := fun k hk => by
      obtain ⟨cs', hc', ht'⟩ := hi k (by rw [hmm]; simp; omega)
      rw [hce] at hc'
      obtain ⟨_, hcl, hat⟩ := World.cells?_some hc'
      obtain ⟨c, rfl, hg, hw⟩ := each _ _ _ ht'
      refine ⟨c, fun j u hu => ?_, hg, hw⟩
      have hj : j < K := by rw [← hK c]; exact (List.getElem?_eq_some_iff.1 hu).1
      rw [hat j hj]; exact hu
    obtain ⟨l, hll, hq⟩ := pick_rows len _ key
    refine ⟨_, l, hcs, ?_, fun c hc => ?_, fun hw c hc => ?_⟩
    · cases l with
      | nil => exact .inl ⟨rfl, some a, cap, by rw [← hll]; rfl, hm⟩
      | cons p l =>
        have hp : 0 < (en p).length := by rw [hK]; exact hK0
        have z0 := (hq 0 (by simp)).1 0 _ (List.getElem?_eq_getElem hp)
        have hz : (a.add (0 * K)).add 0 = a := by unfold Addr.add; simp
        rw [hz] at z0
        obtain ⟨hsp, hlt⟩ := cell_spot2 z0
        obtain ⟨ab, ao, sp⟩ := a
        have hsp : sp = none := hsp
        subst hsp
        refine .inr ⟨by simp, ab, ao, cap, by rw [hll], by omega, hm, hlt, fun k hk j u hu => ?_⟩
        have := (hq k hk).1 j u hu
        have e1 : ∀ o x : Nat, (⟨ab, o, none⟩ : Addr).add x = ⟨ab, o + x, none⟩ := fun o x => by unfold Addr.add; split <;> simp_all
        rw [e1, e1] at this
        exact this
    · obtain ⟨k, hk, rfl⟩ := List.getElem_of_mem hc
      exact (hq k hk).2.1
    · obtain ⟨k, hk, rfl⟩ := List.getElem_of_mem hc
      rw [hx] at hw
      exact (hq k hk).2.2 (hw.slice ht k (d := D k) (by rw [List.getElem?_map, List.getElem?_range (by omega)]; rfl))
/-- a header -/
theorem open_hd {e s : TypeId} {f0 f1 : Field} {fuel : Nat} {cs : List Value} {x : DataW H × List MemPlace} (he : P.underlying e = some (.struct #[f0, f1])) (hs : P.underlying s = some .string) (o : f0.offset = 0 ∧ f1.offset = 1 ∧ f0.type = s ∧ f1.type = s) (hcs : P.cellsOf s = 1) (hce : P.cellsOf e = 2)
    (h : DataW.trod enc P w base (fun _ => true) held fuel e cs = some x) : ∃ c : Hd, cs = hdC c ∧ True ∧ (WtOk P e x.1 → c.1.size ≤ 140737488355328 ∧ c.2.size ≤ 140737488355328) := by
  obtain ⟨xs, n, _, rfl, hl, hlen, hf⟩ := DataW.trod_struct he h
  match xs, hlen with
  | [y0, y1], _ =>
    have g0 := hf 0 f0 rfl
    have g1 := hf 1 f1 rfl
    rw [o.1, o.2.2.1, hcs] at g0
    rw [o.2.1, o.2.2.2, hcs] at g1
    obtain ⟨s0, e0, d0, _⟩ := DataW.trod_string hs g0
    obtain ⟨s1, e1, d1, _⟩ := DataW.trod_string hs g1
    rw [hce] at hl
    match cs, hl with
    | [u0, u1], _ =>
      simp at e0 e1
      subst e0 e1
      refine ⟨(s0, s1), rfl, trivial, fun hw => ?_⟩
      have w0 := hw.struct he 0 (f := f0) (d := y0.1) rfl rfl
      have w1 := hw.struct he 1 (f := f1) (d := y1.1) rfl rfl
      rw [d0] at w0
      rw [d1] at w1
      exact ⟨Nat.le_trans w0.str (by decide), Nat.le_trans w1.str (by decide)⟩
/-- what is known of the types of headers -/
structure HTy (P : Program) (t e s : TypeId) (f0 f1 : Field) : Prop where
  ht : P.underlying t = some (.slice e)
  he : P.underlying e = some (.struct #[f0, f1])
  hs : P.underlying s = some .string
  o : f0.offset = 0 ∧ f1.offset = 1 ∧ f0.type = s ∧ f1.type = s
  cs : P.cellsOf s = 1
  ce : P.cellsOf e = 2
  ct : P.cellsOf t = 1
theorem open_hds {t e s : TypeId} {f0 f1 : Field} (ty : HTy P t e s f0 f1) {fuel : Nat} {cs : List Value} {x : DataW H × List MemPlace}
    (h : DataW.trod enc P w base (fun _ => true) held fuel t cs = some x) : ∃ (v : Value) (l : List Hd), cs = [v] ∧ SlK hdC 2 w v l ∧ (WtOk P t x.1 → WtH l) := by
  obtain ⟨v, l, h1, h2, _, h3⟩ := open_rows hdC 2 (fun _ => rfl) (by decide) (fun _ => True) (fun c => c.1.size ≤ 140737488355328 ∧ c.2.size ≤ 140737488355328) ty.ht ty.ce (fun n cs x hx => open_hd ty.he ty.hs ty.o ty.cs ty.ce hx) h
  exact ⟨v, l, h1, h2, h3⟩
/-- an entry -/
structure ETy (P : Program) (t h e s i : TypeId) (f0 f1 g0 g1 g2 g3 g4 g5 : Field) : Prop where
  hh : HTy P h e s f0 f1
  ht : P.underlying t = some (.struct #[g0, g1, g2, g3, g4, g5])
  hi : P.underlying i = some (.int .i64)
  o : g0.offset = 0 ∧ g1.offset = 1 ∧ g2.offset = 2 ∧ g3.offset = 3 ∧ g4.offset = 4 ∧ g5.offset = 5
  tt : g0.type = s ∧ g1.type = h ∧ g2.type = i ∧ g3.type = h ∧ g4.type = s ∧ g5.type = i
  ci : P.cellsOf i = 1
  ct : P.cellsOf t = 6
theorem open_ent {t h e s i : TypeId} {f0 f1 g0 g1 g2 g3 g4 g5 : Field} (ty : ETy P t h e s i f0 f1 g0 g1 g2 g3 g4 g5) {fuel : Nat} {cs : List Value} {x : DataW H × List MemPlace}
    (hx : DataW.trod enc P w base (fun _ => true) held fuel t cs = some x) : ∃ y : Ee, cs = eeC y ∧ Rd w y.1 y.2 ∧ (WtOk P t x.1 → WtE y.2) := by
  obtain ⟨xs, n, _, rfl, hl, hlen, hf⟩ := DataW.trod_struct ty.ht hx
  match xs, hlen with
  | [y0, y1, y2, y3, y4, y5], _ =>
    have k0 := hf 0 g0 rfl
    have k1 := hf 1 g1 rfl
    have k2 := hf 2 g2 rfl
    have k3 := hf 3 g3 rfl
    have k4 := hf 4 g4 rfl
    have k5 := hf 5 g5 rfl
    obtain ⟨o0, o1, o2, o3, o4, o5⟩ := ty.o
    obtain ⟨t0, t1, t2, t3, t4, t5⟩ := ty.tt
    rw [o0, t0, ty.hh.cs] at k0
    rw [o1, t1, ty.hh.ct] at k1
    rw [o2, t2, ty.ci] at k2
    rw [o3, t3, ty.hh.ct] at k3
    rw [o4, t4, ty.hh.cs] at k4
    rw [o5, t5, ty.ci] at k5
    obtain ⟨s0, e0, d0, _⟩ := DataW.trod_string ty.hh.hs k0
    obtain ⟨v1, l1, e1, b1, z1⟩ := open_hds ty.hh k1
    obtain ⟨n2, e2, _⟩ := DataW.trod_int ty.hi k2
    obtain ⟨v3, l3, e3, b3, z3⟩ := open_hds ty.hh k3
    obtain ⟨s4, e4, d4, _⟩ := DataW.trod_string ty.hh.hs k4
    obtain ⟨n5, e5, _⟩ := DataW.trod_int ty.hi k5
    rw [ty.ct] at hl
    match cs, hl with
    | [u0, u1, u2, u3, u4, u5], _ =>
      simp at e0 e1 e2 e3 e4 e5
      subst e0 e1 e2 e3 e4 e5
      refine ⟨(⟨s0, u1, n2, u3, s4, n5⟩, ⟨s0, l1, n2, l3, s4, n5⟩), rfl, ⟨rfl, rfl, rfl, rfl, b1, b3⟩, fun hw => ⟨?_, ?_, ?_⟩⟩
      · have := hw.struct ty.ht 1 (f := g1) (d := y1.1) rfl rfl
        rw [t1] at this
        exact z1 this
      · have := hw.struct ty.ht 3 (f := g3) (d := y3.1) rfl rfl
        rw [t3] at this
        exact z3 this
      · have := hw.struct ty.ht 4 (f := g4) (d := y4.1) rfl rfl
        rw [d4] at this
        exact Nat.le_trans this.str (by decide)
/-- a slice of headers as a parameter -/
theorem open_hdsP {b0 : Nat} {r : Reach} {t e s : TypeId} {f0 f1 : Field} (ty : HTy P t e s f0 f1) {v : Value} {d : DataW H} {ps : List MemPlace}
    (hval : Value.okWide P w r b0 t v) (hd : DataW.Trod enc P w base (fun _ => true) held t v d ps) : ∃ l : List Hd, SlK hdC 2 w v l ∧ (WtOk P t d → WtH l) := by
  obtain ⟨fuel, hf⟩ := hd
  have hv : ∃ o n c, v = .slice o n c := by
    cases v with
    | slice o n c => exact ⟨o, n, c, rfl⟩
    | _ => simp [Value.okWide, Cell.okWide, Cell.ok, ty.ht] at hval
  obtain ⟨o, n, c, rfl⟩ := hv
  obtain ⟨v, l, h1, h2, h3⟩ := open_hds ty hf
  have : Value.slice o n c = v := by simpa [Value.cells] using h1
  subst this
  exact ⟨l, h2, h3⟩
/-- an entry as a parameter -/
theorem open_entP {b0 : Nat} {r : Reach} {t h e s i : TypeId} {f0 f1 g0 g1 g2 g3 g4 g5 : Field} (ty : ETy P t h e s i f0 f1 g0 g1 g2 g3 g4 g5) {v : Value} {d : DataW H} {ps : List MemPlace}
    (hval : Value.okWide P w r b0 t v) (hd : DataW.Trod enc P w base (fun _ => true) held t v d ps) : ∃ y : Ee, v = eeA y ∧ Rd w y.1 y.2 ∧ (WtOk P t d → WtE y.2) := by
  obtain ⟨cs, rfl, hsz⟩ := Go.WideShapes.okWide_struct ty.ht hval
  obtain ⟨fuel, hf⟩ := hd
  obtain ⟨y, h1, h2, h3⟩ := open_ent ty hf
  refine ⟨y, ?_, h2, h3⟩
  have : cs.toList = eeC y := h1
  obtain ⟨cs⟩ := cs
  subst this
  rfl
/-- a cache as a parameter -/
theorem open_cacheP {b0 : Nat} {r : Reach} {c l t h e s i : TypeId} {q0 f0 f1 g0 g1 g2 g3 g4 g5 : Field} (ty : ETy P t h e s i f0 f1 g0 g1 g2 g3 g4 g5) (hc : P.underlying c = some (.struct #[q0])) (o : q0.offset = 0 ∧ q0.type = l) (hl : P.underlying l = some (.slice t)) (cl : P.cellsOf l = 1) (cc : P.cellsOf c = 1) {v : Value} {d : DataW H} {ps : List MemPlace}
    (hval : Value.okWide P w r b0 c v) (hd : DataW.Trod enc P w base (fun _ => true) held c v d ps) : ∃ (u : Value) (es : List Ee), v = .agg #[u] ∧ SlK eeC 6 w u es ∧ (∀ y ∈ es, Rd w y.1 y.2) ∧ (WtOk P c d → ∀ y ∈ es, WtE y.2) := by
  obtain ⟨cs, rfl, hsz⟩ := Go.WideShapes.okWide_struct hc hval
  obtain ⟨fuel, hf⟩ := hd
  obtain ⟨xs, n, _, hx, hlc, hlen, hfs⟩ := DataW.trod_struct hc hf
  match xs, hlen with
  | [y0], _ =>
    have k0 := hfs 0 q0 rfl
    rw [o.1, o.2, cl] at k0
    obtain ⟨u, es, h1, h2, h3, h4⟩ := open_rows eeC 6 (fun _ => rfl) (by decide) (fun y => Rd w y.1 y.2) (fun y => WtE y.2) hl ty.ct (fun n cs x hx => open_ent ty hx) k0
    obtain ⟨cs⟩ := cs
    have hsz : cs.length = P.cellsOf c := hsz
    rw [cc] at hsz
    match cs, hsz with
    | [u0], _ =>
      have : u0 = u := by simpa [Value.cells] using h1
      subst this
      refine ⟨_, es, rfl, h2, h3, fun hw => h4 ?_⟩
      have hdd : d = .agg [y0.1] := (Prod.mk.inj hx).1
      rw [hdd] at hw
      have := hw.struct hc 0 (f := q0) (d := y0.1) rfl rfl
      rw [o.2] at this
      exact this
/-- a request (its address, its headers, a time) as a parameter -/
theorem open_reqP {b0 : Nat} {r : Reach} {c t e s i : TypeId} {q0 q1 q2 f0 f1 : Field} (ty : HTy P t e s f0 f1) (hc : P.underlying c = some (.struct #[q0, q1, q2])) (hi : P.underlying i = some (.int .i64)) (ci : P.cellsOf i = 1) (o : q0.offset = 0 ∧ q1.offset = 1 ∧ q2.offset = 2) (tt : q0.type = s ∧ q1.type = t ∧ q2.type = i) (cc : P.cellsOf c = 3) {v : Value} {d : DataW H} {ps : List MemPlace}
    (hval : Value.okWide P w r b0 c v) (hd : DataW.Trod enc P w base (fun _ => true) held c v d ps) : ∃ (u : ByteArray) (x : Value) (n : Int) (l : List Hd), v = .agg #[.string u, x, .int .i64 n] ∧ SlK hdC 2 w x l ∧ (WtOk P c d → WtH l ∧ u.size ≤ 140737488355328) := by
  obtain ⟨cs, rfl, hsz⟩ := Go.WideShapes.okWide_struct hc hval
  obtain ⟨fuel, hf⟩ := hd
  obtain ⟨xs, n, _, hx, hlc, hlen, hfs⟩ := DataW.trod_struct hc hf
  match xs, hlen with
  | [y0, y1, y2], _ =>
    have k0 := hfs 0 q0 rfl
    have k1 := hfs 1 q1 rfl
    have k2 := hfs 2 q2 rfl
    rw [o.1, tt.1, ty.cs] at k0
    rw [o.2.1, tt.2.1, ty.ct] at k1
    rw [o.2.2, tt.2.2, ci] at k2
    obtain ⟨s0, e0, d0, _⟩ := DataW.trod_string ty.hs k0
    obtain ⟨v1, l1, e1, b1, z1⟩ := open_hds ty k1
    obtain ⟨n2, e2, _⟩ := DataW.trod_int hi k2
    obtain ⟨cs⟩ := cs
    have hsz : cs.length = P.cellsOf c := hsz
    rw [cc] at hsz
    match cs, hsz with
    | [u0, u1, u2], _ =>
      have r0 : u0 = .string s0 := by simpa [Value.cells] using e0
      have r1 : u1 = v1 := by simpa [Value.cells] using e1
      have r2 : u2 = .int .i64 n2 := by simpa [Value.cells] using e2
      clear e0 e1 e2
      subst r0 r1 r2
      have hdd : d = .agg [y0.1, y1.1, y2.1] := (Prod.mk.inj hx).1
      refine ⟨_, _, _, l1, rfl, b1, fun hw => ⟨z1 ?_, ?_⟩⟩
      · rw [hdd] at hw
        have := hw.struct hc 1 (f := q1) (d := y1.1) rfl rfl
        rw [tt.2.1] at this
        exact this
      · rw [hdd] at hw
        have := hw.struct hc 0 (f := q0) (d := y0.1) rfl rfl
        rw [d0] at this
        exact Nat.le_trans this.str (by decide)
end
end Go.Proofs.YtjdhaacmlpegoaaGreatDoor

/- What a caller hands in: requests of fetch, addresses, states of fetch. -/
namespace Go.Proofs.YtjdhaacmlpegoaaGreatDoor
set_option linter.unusedVariables false
set_option linter.unusedSimpArgs false
open Go.RowKit

/-- the cells of a request of fetch -/
abbrev fqC (tk : Int) (me ur og : ByteArray) (mo : Int) (vh : Value) (bo : ByteArray) (ck : Bool) : List Value := [.int .i64 tk, .string me, .string ur, .string og, .int .i64 mo, vh, .string bo, .bool ck]
/-- the cells of an address -/
abbrev u6C (a b c d e f : ByteArray) : List Value := [.string a, .string b, .string c, .string d, .string e, .string f]
section
variable {H : Type} {enc : TypeId × Value → H} {P : Program} {w : World} {base : Nat} {held : Bool}
structure UTy (P : Program) (t s : TypeId) (g0 g1 g2 g3 g4 g5 : Field) : Prop where
  ht : P.underlying t = some (.struct #[g0, g1, g2, g3, g4, g5])
  hs : P.underlying s = some .string
  o : g0.offset = 0 ∧ g1.offset = 1 ∧ g2.offset = 2 ∧ g3.offset = 3 ∧ g4.offset = 4 ∧ g5.offset = 5
  tt : g0.type = s ∧ g1.type = s ∧ g2.type = s ∧ g3.type = s ∧ g4.type = s ∧ g5.type = s
  cs : P.cellsOf s = 1
  ct : P.cellsOf t = 6
theorem open_u6 {t s : TypeId} {g0 g1 g2 g3 g4 g5 : Field} (ty : UTy P t s g0 g1 g2 g3 g4 g5) {fuel : Nat} {cs : List Value} {x : DataW H × List MemPlace}
    (hx : DataW.trod enc P w base (fun _ => true) held fuel t cs = some x) : ∃ a b c d e f : ByteArray, cs = u6C a b c d e f := by
  obtain ⟨xs, n, _, rfl, hl, hlen, hf⟩ := DataW.trod_struct ty.ht hx
  match xs, hlen with
  | [y0, y1, y2, y3, y4, y5], _ =>
    have k0 := hf 0 g0 rfl
    have k1 := hf 1 g1 rfl
    have k2 := hf 2 g2 rfl
    have k3 := hf 3 g3 rfl
    have k4 := hf 4 g4 rfl
    have k5 := hf 5 g5 rfl
    obtain ⟨o0, o1, o2, o3, o4, o5⟩ := ty.o
    obtain ⟨t0, t1, t2, t3, t4, t5⟩ := ty.tt
    rw [o0, t0, ty.cs] at k0
    rw [o1, t1, ty.cs] at k1
    rw [o2, t2, ty.cs] at k2
    rw [o3, t3, ty.cs] at k3
    rw [o4, t4, ty.cs] at k4
    rw [o5, t5, ty.cs] at k5
    obtain ⟨s0, e0, _⟩ := DataW.trod_string ty.hs k0
    obtain ⟨s1, e1, _⟩ := DataW.trod_string ty.hs k1
    obtain ⟨s2, e2, _⟩ := DataW.trod_string ty.hs k2
    obtain ⟨s3, e3, _⟩ := DataW.trod_string ty.hs k3
    obtain ⟨s4, e4, _⟩ := DataW.trod_string ty.hs k4
    obtain ⟨s5, e5, _⟩ := DataW.trod_string ty.hs k5
    rw [ty.ct] at hl
    match cs, hl with
    | [u0, u1, u2, u3, u4, u5], _ =>
      simp at e0 e1 e2 e3 e4 e5
      subst e0 e1 e2 e3 e4 e5
      exact ⟨s0, s1, s2, s3, s4, s5, rfl⟩
structure QTy (P : Program) (t h e s i b : TypeId) (f0 f1 g0 g1 g2 g3 g4 g5 g6 g7 : Field) : Prop where
  hh : HTy P h e s f0 f1
  ht : P.underlying t = some (.struct #[g0, g1, g2, g3, g4, g5, g6, g7])
  hi : P.underlying i = some (.int .i64)
  hb : P.underlying b = some .bool
  o : g0.offset = 0 ∧ g1.offset = 1 ∧ g2.offset = 2 ∧ g3.offset = 3 ∧ g4.offset = 4 ∧ g5.offset = 5 ∧ g6.offset = 6 ∧ g7.offset = 7
  tt : g0.type = i ∧ g1.type = s ∧ g2.type = s ∧ g3.type = s ∧ g4.type = i ∧ g5.type = h ∧ g6.type = s ∧ g7.type = b
  ci : P.cellsOf i = 1
  cb : P.cellsOf b = 1
  ct : P.cellsOf t = 8
theorem open_fq {t h e s i b : TypeId} {f0 f1 g0 g1 g2 g3 g4 g5 g6 g7 : Field} (ty : QTy P t h e s i b f0 f1 g0 g1 g2 g3 g4 g5 g6 g7) {fuel : Nat} {cs : List Value} {x : DataW H × List MemPlace}
    (hx : DataW.trod enc P w base (fun _ => true) held fuel t cs = some x) : ∃ (tk : Int) (me ur og : ByteArray) (mo : Int) (vh : Value) (bo : ByteArray) (ck : Bool) (l : List Hd), cs = fqC tk me ur og mo vh bo ck ∧ SlK hdC 2 w vh l ∧ (WtOk P t x.1 → WtH l) := by
  obtain ⟨xs, n, _, rfl, hl, hlen, hf⟩ := DataW.trod_struct ty.ht hx
  match xs, hlen with
  | [y0, y1, y2, y3, y4, y5, y6, y7], _ =>
    have k0 := hf 0 g0 rfl
    have k1 := hf 1 g1 rfl
    have k2 := hf 2 g2 rfl
    have k3 := hf 3 g3 rfl
    have k4 := hf 4 g4 rfl
    have k5 := hf 5 g5 rfl
    have k6 := hf 6 g6 rfl
    have k7 := hf 7 g7 rfl
    obtain ⟨o0, o1, o2, o3, o4, o5, o6, o7⟩ := ty.o
    obtain ⟨t0, t1, t2, t3, t4, t5, t6, t7⟩ := ty.tt
    rw [o0, t0, ty.ci] at k0
    rw [o1, t1, ty.hh.cs] at k1
    rw [o2, t2, ty.hh.cs] at k2
    rw [o3, t3, ty.hh.cs] at k3
    rw [o4, t4, ty.ci] at k4
    rw [o5, t5, ty.hh.ct] at k5
    rw [o6, t6, ty.hh.cs] at k6
    rw [o7, t7, ty.cb] at k7
    obtain ⟨n0, e0, _⟩ := DataW.trod_int ty.hi k0
    obtain ⟨s1, e1, _⟩ := DataW.trod_string ty.hh.hs k1
    obtain ⟨s2, e2, _⟩ := DataW.trod_string ty.hh.hs k2
    obtain ⟨s3, e3, _⟩ := DataW.trod_string ty.hh.hs k3
    obtain ⟨n4, e4, _⟩ := DataW.trod_int ty.hi k4
    obtain ⟨v5, l5, e5, b5, z5⟩ := open_hds ty.hh k5
    obtain ⟨s6, e6, _⟩ := DataW.trod_string ty.hh.hs k6
    obtain ⟨q7, e7, _⟩ := DataW.trod_bool ty.hb k7
    rw [ty.ct] at hl
    match cs, hl with
    | [u0, u1, u2, u3, u4, u5, u6, u7], _ =>
      simp at e0 e1 e2 e3 e4 e5 e6 e7
      subst e0 e1 e2 e3 e4 e5 e6 e7
      refine ⟨n0, s1, s2, s3, n4, u5, s6, q7, l5, rfl, b5, fun hw => ?_⟩
      have := hw.struct ty.ht 5 (f := g5) (d := y5.1) rfl rfl
      rw [t5] at this
      exact z5 this
structure STy (P : Program) (t q u h e s i b r : TypeId) (f0 f1 q0 q1 q2 q3 q4 q5 q6 q7 u0 u1 u2 u3 u4 u5 g0 g1 g2 g3 g4 g5 g6 g7 g8 g9 g10 : Field) : Prop where
  qq : QTy P q h e s i b f0 f1 q0 q1 q2 q3 q4 q5 q6 q7
  uu : UTy P u s u0 u1 u2 u3 u4 u5
  ht : P.underlying t = some (.struct #[g0, g1, g2, g3, g4, g5, g6, g7, g8, g9, g10])
  hr : P.underlying r = some (.int .i64)
  o : g0.offset = 0 ∧ g1.offset = 8 ∧ g2.offset = 9 ∧ g3.offset = 15 ∧ g4.offset = 16 ∧ g5.offset = 17 ∧ g6.offset = 18 ∧ g7.offset = 19 ∧ g8.offset = 20 ∧ g9.offset = 21 ∧ g10.offset = 22
  tt : g0.type = q ∧ g1.type = i ∧ g2.type = u ∧ g3.type = s ∧ g4.type = i ∧ g5.type = b ∧ g6.type = b ∧ g7.type = i ∧ g8.type = h ∧ g9.type = s ∧ g10.type = r
  cr : P.cellsOf r = 1
  ct : P.cellsOf t = 23
/-- the cells of a state of fetch -/
abbrev fsC (tk : Int) (me ur og : ByteArray) (mo : Int) (vh : Value) (bo : ByteArray) (ck : Bool) (ph : Int) (a b c d e f : ByteArray) (sm : ByteArray) (ho : Int) (ch hi : Bool) (st : Int) (wh : Value) (sb : ByteArray) (er : Int) : List Value := [.int .i64 tk, .string me, .string ur, .string og, .int .i64 mo, vh, .string bo, .bool ck, .int .i64 ph, .string a, .string b, .string c, .string d, .string e, .string f, .string sm, .int .i64 ho, .bool ch, .bool hi, .int .i64 st, wh, .string sb, .int .i64 er]
theorem open_fs {t q u h e s i b r : TypeId} {f0 f1 q0 q1 q2 q3 q4 q5 q6 q7 u0 u1 u2 u3 u4 u5 g0 g1 g2 g3 g4 g5 g6 g7 g8 g9 g10 : Field} (ty : STy P t q u h e s i b r f0 f1 q0 q1 q2 q3 q4 q5 q6 q7 u0 u1 u2 u3 u4 u5 g0 g1 g2 g3 g4 g5 g6 g7 g8 g9 g10) {fuel : Nat} {cs : List Value} {x : DataW H × List MemPlace}
    (hx : DataW.trod enc P w base (fun _ => true) held fuel t cs = some x) : ∃ (tk : Int) (me ur og : ByteArray) (mo : Int) (vh : Value) (bo : ByteArray) (ck : Bool) (l : List Hd) (ph : Int) (a b c d e f sm : ByteArray) (ho : Int) (ch hi : Bool) (st : Int) (wh : Value) (l2 : List Hd) (sb : ByteArray) (er : Int), cs = fsC tk me ur og mo vh bo ck ph a b c d e f sm ho ch hi st wh sb er ∧ SlK hdC 2 w vh l ∧ SlK hdC 2 w wh l2 := by
  obtain ⟨xs, n, _, rfl, hl, hlen, hf⟩ := DataW.trod_struct ty.ht hx
  match xs, hlen with
  | [y0, y1, y2, y3, y4, y5, y6, y7, y8, y9, y10], _ =>
    have k0 := hf 0 g0 rfl
    have k1 := hf 1 g1 rfl
    have k2 := hf 2 g2 rfl
    have k3 := hf 3 g3 rfl
    have k4 := hf 4 g4 rfl
    have k5 := hf 5 g5 rfl
    have k6 := hf 6 g6 rfl
    have k7 := hf 7 g7 rfl
    have k8 := hf 8 g8 rfl
    have k9 := hf 9 g9 rfl
    have k10 := hf 10 g10 rfl
    obtain ⟨o0, o1, o2, o3, o4, o5, o6, o7, o8, o9, o10⟩ := ty.o
    obtain ⟨t0, t1, t2, t3, t4, t5, t6, t7, t8, t9, t10⟩ := ty.tt
    rw [o0, t0, ty.qq.ct] at k0
    rw [o1, t1, ty.qq.ci] at k1
    rw [o2, t2, ty.uu.ct] at k2
    rw [o3, t3, ty.uu.cs] at k3
    rw [o4, t4, ty.qq.ci] at k4
    rw [o5, t5, ty.qq.cb] at k5
    rw [o6, t6, ty.qq.cb] at k6
    rw [o7, t7, ty.qq.ci] at k7
    rw [o8, t8, ty.qq.hh.ct] at k8
    rw [o9, t9, ty.uu.cs] at k9
    rw [o10, t10, ty.cr] at k10
    obtain ⟨tk, me, ur, og, mo, vh, bo, ck, l, e0, b0, _⟩ := open_fq ty.qq k0
    obtain ⟨n1, e1, _⟩ := DataW.trod_int ty.qq.hi k1
    obtain ⟨a, b, c, d, e, f, e2⟩ := open_u6 ty.uu k2
    obtain ⟨s3, e3, _⟩ := DataW.trod_string ty.uu.hs k3
    obtain ⟨n4, e4, _⟩ := DataW.trod_int ty.qq.hi k4
    obtain ⟨p5, e5, _⟩ := DataW.trod_bool ty.qq.hb k5
    obtain ⟨p6, e6, _⟩ := DataW.trod_bool ty.qq.hb k6
    obtain ⟨n7, e7, _⟩ := DataW.trod_int ty.qq.hi k7
    obtain ⟨v8, l8, e8, b8, _⟩ := open_hds ty.qq.hh k8
    obtain ⟨s9, e9, _⟩ := DataW.trod_string ty.uu.hs k9
    obtain ⟨n10, e10, _⟩ := DataW.trod_int ty.hr k10
    rw [ty.ct] at hl
    match cs, hl with
    | [c0, c1, c2, c3, c4, c5, c6, c7, c8, c9, c10, c11, c12, c13, c14, c15, c16, c17, c18, c19, c20, c21, c22], _ =>
      simp at e0 e1 e2 e3 e4 e5 e6 e7 e8 e9 e10
      obtain ⟨rfl, rfl, rfl, rfl, rfl, rfl, rfl, rfl⟩ := e0
      obtain ⟨rfl, rfl, rfl, rfl, rfl, rfl⟩ := e2
      subst e1 e3 e4 e5 e6 e7 e8 e9 e10
      exact ⟨tk, me, ur, og, mo, _, bo, ck, l, n1, a, b, c, d, e, f, s3, n4, p5, p6, n7, _, l8, s9, n10, rfl, b0, b8⟩
/-- a request of fetch as a parameter -/
theorem open_fqP {b0 : Nat} {r : Reach} {t h e s i b : TypeId} {f0 f1 g0 g1 g2 g3 g4 g5 g6 g7 : Field} (ty : QTy P t h e s i b f0 f1 g0 g1 g2 g3 g4 g5 g6 g7) {v : Value} {d : DataW H} {ps : List MemPlace}
    (hval : Value.okWide P w r b0 t v) (hd : DataW.Trod enc P w base (fun _ => true) held t v d ps) : ∃ (tk : Int) (me ur og : ByteArray) (mo : Int) (vh : Value) (bo : ByteArray) (ck : Bool) (l : List Hd), v = .agg #[.int .i64 tk, .string me, .string ur, .string og, .int .i64 mo, vh, .string bo, .bool ck] ∧ SlK hdC 2 w vh l ∧ (WtOk P t d → WtH l) := by
  obtain ⟨cs, rfl, hsz⟩ := Go.WideShapes.okWide_struct ty.ht hval
  obtain ⟨fuel, hf⟩ := hd
  obtain ⟨tk, me, ur, og, mo, vh, bo, ck, l, h1, h2, h3⟩ := open_fq ty hf
  refine ⟨tk, me, ur, og, mo, vh, bo, ck, l, ?_, h2, h3⟩
  obtain ⟨cs⟩ := cs
  have h1 : cs = fqC tk me ur og mo vh bo ck := h1
  subst h1
  rfl
/-- a state of fetch as a parameter -/
theorem open_fsP {b0 : Nat} {rr : Reach} {t q u h e s i b r : TypeId} {f0 f1 q0 q1 q2 q3 q4 q5 q6 q7 u0 u1 u2 u3 u4 u5 g0 g1 g2 g3 g4 g5 g6 g7 g8 g9 g10 : Field} (ty : STy P t q u h e s i b r f0 f1 q0 q1 q2 q3 q4 q5 q6 q7 u0 u1 u2 u3 u4 u5 g0 g1 g2 g3 g4 g5 g6 g7 g8 g9 g10) {v : Value} {d : DataW H} {ps : List MemPlace}
    (hval : Value.okWide P w rr b0 t v) (hd : DataW.Trod enc P w base (fun _ => true) held t v d ps) : ∃ (tk : Int) (me ur og : ByteArray) (mo : Int) (vh : Value) (bo : ByteArray) (ck : Bool) (l : List Hd) (ph : Int) (a b c d e f sm : ByteArray) (ho : Int) (ch hi : Bool) (st : Int) (wh : Value) (l2 : List Hd) (sb : ByteArray) (er : Int), v = .agg #[.int .i64 tk, .string me, .string ur, .string og, .int .i64 mo, vh, .string bo, .bool ck, .int .i64 ph, .string a, .string b, .string c, .string d, .string e, .string f, .string sm, .int .i64 ho, .bool ch, .bool hi, .int .i64 st, wh, .string sb, .int .i64 er] ∧ SlK hdC 2 w vh l ∧ SlK hdC 2 w wh l2 := by
  obtain ⟨cs, rfl, hsz⟩ := Go.WideShapes.okWide_struct ty.ht hval
  obtain ⟨fuel, hf⟩ := hd
  obtain ⟨tk, me, ur, og, mo, vh, bo, ck, l, ph, a, b, c, d, e, f, sm, ho, ch, hi, st, wh, l2, sb, er, h1, h2, h3⟩ := open_fs ty hf
  refine ⟨tk, me, ur, og, mo, vh, bo, ck, l, ph, a, b, c, d, e, f, sm, ho, ch, hi, st, wh, l2, sb, er, ?_, h2, h3⟩
  obtain ⟨cs⟩ := cs
  have h1 : cs = fsC tk me ur og mo vh bo ck ph a b c d e f sm ho ch hi st wh sb er := h1
  subst h1
  rfl
end
end Go.Proofs.YtjdhaacmlpegoaaGreatDoor
