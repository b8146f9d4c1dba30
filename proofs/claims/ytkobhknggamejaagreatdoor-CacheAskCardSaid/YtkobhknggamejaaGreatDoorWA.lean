/- What the form's own reach says of the sizes of an argument's parts. -/
import Derived.ProofKit
import Derived.Deep.Slices
import Derived.JoinedCond
namespace Go.Proofs.YtkobhknggamejaaGreatDoor
set_option linter.unusedVariables false
set_option linter.unusedSimpArgs false
open Go.RowKit

theorem wt_each {H : Type} {P : Program} : ∀ {ts : List TypeId} {ds : List (DataW H)} (i : Nat) {t : TypeId} {d : DataW H} {n : Nat}, ts[i]? = some t → ds[i]? = some d → n ∈ d.weights P t → n ∈ DataW.weightsEach P ts ds := by
  intro ts
  induction ts with
  | nil => intro ds i t d n h; simp at h
  | cons u ts ih =>
    intro ds i t d n h1 h2 h3
    cases ds with
    | nil => simp at h2
    | cons x ds =>
      unfold DataW.weightsEach
      cases i with
      | zero =>
        simp at h1 h2
        subst h1 h2
        exact List.mem_append_left _ h3
      | succ i => exact List.mem_append_right _ (ih i (by simpa using h1) (by simpa using h2) h3)
theorem wt_all {H : Type} {P : Program} {e : TypeId} : ∀ {ds : List (DataW H)} (i : Nat) {d : DataW H} {n : Nat}, ds[i]? = some d → n ∈ d.weights P e → n ∈ DataW.weightsAll P e ds := by
  intro ds
  induction ds with
  | nil => intro i d n h; simp at h
  | cons x ds ih =>
    intro i d n h1 h2
    unfold DataW.weightsAll
    cases i with
    | zero =>
      simp at h1
      subst h1
      exact List.mem_append_left _ h2
    | succ i => exact List.mem_append_right _ (ih i (by simpa using h1) h2)
theorem wt_struct {H : Type} {P : Program} {t : TypeId} {fs : Array Field} (ht : P.underlying t = some (.struct fs)) {parts : List (DataW H)} (i : Nat) {f : Field} {d : DataW H} {n : Nat} (hf : fs[i]? = some f) (hd : parts[i]? = some d) (h : n ∈ d.weights P f.type) : n ∈ (DataW.agg parts).weights P t := by
  unfold DataW.weights
  rw [ht]
  refine wt_each i ?_ hd h
  rw [List.getElem?_map]
  have : fs.toList[i]? = some f := by simpa using hf
  rw [this]; rfl
theorem wt_slice {H : Type} {P : Program} {t e : TypeId} (ht : P.underlying t = some (.slice e)) {elems spare : List (DataW H)} (i : Nat) {d : DataW H} {n : Nat} (hd : elems[i]? = some d) (h : n ∈ d.weights P e) : n ∈ (DataW.slice elems spare).weights P t := by
  unfold DataW.weights
  rw [ht]
  exact List.mem_cons_of_mem _ (List.mem_append_left _ (wt_all i hd h))
theorem wt_len {H : Type} {P : Program} {t e : TypeId} (ht : P.underlying t = some (.slice e)) {elems spare : List (DataW H)} : (elems.length + spare.length) * P.bytesOf e ∈ (DataW.slice elems spare).weights P t := by
  unfold DataW.weights
  rw [ht]
  exact List.mem_cons_self
theorem wt_string {H : Type} {P : Program} {t : TypeId} (s : ByteArray) : s.size ∈ (DataW.lit (H := H) (.string s.data.toList)).weights P t := by
  unfold DataW.weights
  simp
/-- all weights of a datum are within the reach -/
def WtOk {H : Type} (P : Program) (t : TypeId) (d : DataW H) : Prop := ∀ n ∈ d.weights P t, n ≤ reachBytes
theorem wt_at {H : Type} {P : Program} {ts : List TypeId} {ds : List (DataW H)} (h : (DataW.weightsEach P ts ds).all (· ≤ reachBytes) = true) (i : Nat) {t : TypeId} {d : DataW H} (ht : ts[i]? = some t) (hd : ds[i]? = some d) : WtOk P t d := fun n hn => by
  have := List.all_eq_true.1 h n (wt_each i ht hd hn)
  simpa using this
theorem WtOk.struct {H : Type} {P : Program} {t : TypeId} {fs : Array Field} {parts : List (DataW H)} (h : WtOk P t (.agg parts)) (ht : P.underlying t = some (.struct fs)) (i : Nat) {f : Field} {d : DataW H} (hf : fs[i]? = some f) (hd : parts[i]? = some d) : WtOk P f.type d := fun n hn => h n (wt_struct ht i hf hd hn)
theorem WtOk.slice {H : Type} {P : Program} {t e : TypeId} {elems spare : List (DataW H)} (h : WtOk P t (.slice elems spare)) (ht : P.underlying t = some (.slice e)) (i : Nat) {d : DataW H} (hd : elems[i]? = some d) : WtOk P e d := fun n hn => h n (wt_slice ht i hd hn)
theorem WtOk.str {H : Type} {P : Program} {t : TypeId} {s : ByteArray} (h : WtOk P t (DataW.lit (H := H) (.string s.data.toList))) : s.size ≤ 140737488351232 := h _ (wt_string s)
end Go.Proofs.YtkobhknggamejaaGreatDoor
