/- Plain: the fields of a query. -/
import Derived.Test.YtgbinadjbikhhaaDoorLPA
import Derived.Test.YtgbinadjbikhhaaDoorUJ
import Derived.Lib.Replace
namespace Go.Proofs.YtgbinadjbikhhaaDoor
set_option linter.unusedVariables false
set_option linter.unusedSimpArgs false
open Go.RowKit

/-- one byte in the place of another -/
def subB (a b x : UInt8) : UInt8 := if x = a then b else x
def subL (a b : UInt8) (l : List UInt8) : List UInt8 := l.map (subB a b)
theorem sub_len (a b : UInt8) (l : List UInt8) : (subL a b l).length = l.length := by simp [subL]
theorem sub_app (a b : UInt8) (l m : List UInt8) : subL a b (l ++ m) = subL a b l ++ subL a b m := by simp [subL]
theorem sub_not (a b : UInt8) (l : List UInt8) (h : a ∉ l) : subL a b l = l := by
  induction l with
  | nil => rfl
  | cons x l ih =>
    have hx : x ≠ a := fun e => h (by simp [e])
    have := ih (fun q => h (List.mem_cons_of_mem _ q))
    simp only [subL, List.map_cons, subB, if_neg hx]
    rw [show l.map (subB a b) = l from this]
theorem sub_back (a b : UInt8) (l : List UInt8) (h : b ∉ l) : subL b a (subL a b l) = l := by
  induction l with
  | nil => rfl
  | cons x l ih =>
    have hx : x ≠ b := fun e => h (by simp [e])
    have := ih (fun q => h (List.mem_cons_of_mem _ q))
    simp only [subL, List.map_cons] at *
    rw [this]
    congr 1
    unfold subB
    by_cases hxa : x = a
    · rw [if_pos hxa, if_pos rfl, hxa]
    · rw [if_neg hxa, if_neg hx]
theorem sub_mem (a b c : UInt8) (l : List UInt8) (hc : c ≠ b) (h : c ∉ l) : c ∉ subL a b l := by
  intro hm
  obtain ⟨x, hx, hxc⟩ := List.mem_map.1 hm
  unfold subB at hxc
  split at hxc
  · exact hc hxc.symm
  · exact h (hxc ▸ hx)
theorem pre_sub (a b c : UInt8) (ha : c ≠ a) (hb : c ≠ b) (l : List UInt8) : pre c (subL a b l) = subL a b (pre c l) ∧ post c (subL a b l) = subL a b (post c l) := by
  induction l with
  | nil => simp [pre, post, subL]
  | cons x l ih =>
    have h1 : (subB a b x == c) = (x == c) := by
      unfold subB
      split
      · next h => rw [h, beq_eq_false_iff_ne.2 (Ne.symm hb), beq_eq_false_iff_ne.2 (Ne.symm ha)]
      · rfl
    unfold pre post at *
    simp only [subL, List.map_cons] at *
    by_cases hx : x = c
    · have h2 : (subB a b x != c) = false := by rw [bne, h1, hx]; simp
      have h3 : (x != c) = false := by simp [hx]
      simp [List.takeWhile_cons, List.dropWhile_cons, h2, h3]
    · have h2 : (subB a b x != c) = true := by simp [bne, h1, hx]
      have h3 : (x != c) = true := by simp [hx]
      simp [List.takeWhile_cons, List.dropWhile_cons, h2, h3]
      simpa using ih
theorem repl_key (a b : UInt8) : ∀ n (l : List UInt8), l.length ≤ n → Lib.replaceK [a] [b] (l.count a) l = subL a b l := by
  intro n
  induction n with
  | zero => intro l hl; obtain rfl := List.eq_nil_of_length_eq_zero (Nat.le_zero.1 hl); rfl
  | succ n ih =>
    intro l hl
    by_cases h : a ∈ l
    · have e := pre_post a l h
      have hn := pre_not a l
      have hc : l.count a = (post a l).count a + 1 := by
        have h2 := congrArg (List.count a) e
        rw [List.count_append, List.count_cons_self, List.count_eq_zero_of_not_mem hn] at h2
        omega
      have hlen : (post a l).length ≤ n := by
        have h2 := congrArg List.length e
        rw [List.length_append, List.length_cons] at h2
        omega
      have hi : Lib.index l [a] = ((pre a l).length : Nat) := by rw [Lib.index_one, indexByte_pre, if_pos h]
      have e1 : l.take (pre a l).length = pre a l := by
        have h2 := congrArg (List.take (pre a l).length) e
        rw [h2]; exact List.take_left' rfl
      have e2 : l.drop ((pre a l).length + 1) = post a l := by
        have h2 := congrArg (List.drop ((pre a l).length + 1)) e
        rw [h2, ← List.drop_drop, List.drop_left' rfl]; rfl
      rw [hc, Lib.replaceK_hit [a] [b] _ l _ hi, List.length_singleton, e1, e2, ih _ hlen]
      have h3 : subL a b l = subL a b (pre a l ++ a :: post a l) := congrArg _ e
      rw [h3, sub_app, sub_not a b _ hn]
      simp [subL, subB]
    · rw [List.count_eq_zero_of_not_mem h, sub_not a b l h]; rfl
theorem replaceAll_sub (a b : UInt8) (hab : a ≠ b) (l : List UInt8) : Lib.replaceAll l [a] [b] = subL a b l := by
  unfold Lib.replaceAll Lib.replace
  have h1 : ([a] == [b]) = false := by simp [hab]
  rw [if_neg (by rw [h1]; exact Bool.false_ne_true)]
  unfold Lib.replaceNum
  rw [if_pos (.inl (by decide)), Lib.count_one]
  exact repl_key a b _ l (Nat.le_refl _)
/-- a name and a value -/
abbrev Fld := List UInt8 × List UInt8
def fieldOf (p : List UInt8) : Fld := (unescL (subL 43 32 (pre 61 p)), unescL (subL 43 32 (post 61 p)))
/-- the fields of a query -/
def fieldsL (q : List UInt8) : List Fld := ((segs 38 q).filter fun p => !p.isEmpty).map fieldOf
def encL (x : List UInt8) : List UInt8 := subL 32 43 (conv (plainL ++ [32]) false x)
def pairL (f : Fld) : List UInt8 := encL f.1 ++ 61 :: encL f.2
/-- the query with these fields -/
def queryL (l : List Fld) : List UInt8 := Lib.join (l.map pairL) [38]
theorem conv_has (c : UInt8) (hc : okC (plainL ++ [32]) c = false) (h37 : c ≠ 37) (x : List UInt8) : c ∉ conv (plainL ++ [32]) false x := fun hm => by
  rcases conv_mem _ _ _ c hm with h | h
  · rw [hc] at h; cases h
  · exact h37 h
theorem enc_has (c : UInt8) (hc : okC (plainL ++ [32]) c = false) (h37 : c ≠ 37) (h43 : c ≠ 43) (x : List UInt8) : c ∉ encL x := sub_mem 32 43 c _ h43 (conv_has c hc h37 x)
theorem enc_back (x : List UInt8) : unescL (subL 43 32 (encL x)) = x := by
  unfold encL
  rw [sub_back 32 43 _ (conv_has 43 (by decide) (by decide) x), unesc_conv _ (by decide)]
theorem cut_stop (c : UInt8) (p r : List UInt8) (h : c ∉ p) : pre c (p ++ c :: r) = p ∧ post c (p ++ c :: r) = r := by
  induction p with
  | nil => simp [pre, post]
  | cons b p ih =>
    have hb : (b != c) = true := by simp; intro e; exact h (by simp [e])
    have := ih (fun q => h (List.mem_cons_of_mem _ q))
    unfold pre post at *
    simp only [List.cons_append, List.takeWhile_cons, List.dropWhile_cons, hb, if_true]
    exact ⟨by rw [this.1], this.2⟩
theorem field_pair (f : Fld) : fieldOf (pairL f) = f := by
  obtain ⟨x, y⟩ := f
  obtain ⟨h1, h2⟩ := cut_stop 61 (encL x) (encL y) (enc_has 61 (by decide) (by decide) (by decide) x)
  unfold fieldOf pairL
  simp only
  rw [h1, h2, enc_back, enc_back]
theorem pair_has (f : Fld) : (38 : UInt8) ∉ pairL f := by
  unfold pairL
  intro h
  rcases List.mem_append.1 h with h | h
  · exact enc_has 38 (by decide) (by decide) (by decide) _ h
  · rcases List.mem_cons.1 h with h | h
    · exact absurd h (by decide)
    · exact enc_has 38 (by decide) (by decide) (by decide) _ h
theorem segs_join (c : UInt8) : ∀ xs : List (List UInt8), xs ≠ [] → (∀ x ∈ xs, c ∉ x) → segs c (Lib.join xs [c]) = xs := by
  intro xs
  induction xs with
  | nil => intro h; exact absurd rfl h
  | cons x r ih =>
    intro _ h
    cases r with
    | nil => rw [Lib.join_one]; exact segs_one c x (h x (by simp))
    | cons y r =>
      have e : Lib.join (x :: y :: r) [c] = x ++ c :: Lib.join (y :: r) [c] := by simp [Lib.join, List.intercalate]
      rw [e, segs_pre c _ x (h x (by simp)), ih (by simp) (fun z hz => h z (by simp only [List.mem_cons] at *; exact .inr hz))]
/-- the fields of a query that was made from fields are these -/
theorem fields_query (l : List Fld) : fieldsL (queryL l) = l := by
  unfold fieldsL queryL
  by_cases h : l = []
  · subst h; decide
  · rw [segs_join 38 (l.map pairL) (by simp [h]) (fun x hx => by obtain ⟨f, -, rfl⟩ := List.mem_map.1 hx; exact pair_has f)]
    have hf : (l.map pairL).filter (fun p => !p.isEmpty) = l.map pairL := by
      rw [List.filter_eq_self]
      intro x hx
      obtain ⟨f, -, rfl⟩ := List.mem_map.1 hx
      unfold pairL
      cases encL f.1 <;> simp
    rw [hf, List.map_map]
    have : (fieldOf ∘ pairL) = id := funext fun f => field_pair f
    rw [this, List.map_id]
/-- replacing in the whole pair, as the code does -/
theorem pair_sub (x y : List UInt8) : subL 32 43 (conv (plainL ++ [32]) false x ++ [61] ++ conv (plainL ++ [32]) false y) = pairL (x, y) := by
  rw [sub_app, sub_app]
  unfold pairL encL
  rw [show subL 32 43 [61] = [61] from by decide, List.append_assoc]
  rfl
end Go.Proofs.YtgbinadjbikhhaaDoor
