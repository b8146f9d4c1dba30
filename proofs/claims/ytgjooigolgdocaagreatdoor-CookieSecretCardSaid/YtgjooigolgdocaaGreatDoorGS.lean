import Derived.Sort.LotA
import Derived.Sort.WalkA
import Derived.Test.YtgjooigolgdocaaGreatDoorUA
import Derived.Lib.Hide
import Derived.Test.YtgjooigolgdocaaGreatDoorDK
import Derived.Deep.QuietTactic
import Derived.BigQuiet
import Derived.Deep.RegionHeld3
import Derived.Deep.LoopGhost
import Derived.Deep.CutRange
import Derived.Test.YtgjooigolgdocaaGreatDoorG2
/- Plain: a stable insertion, the stable merge, and insertion sort in an array as stable insertions. -/
namespace Go.Proofs.YtgjooigolgdocaaGreatDoor
set_option linter.unusedVariables false
set_option linter.unusedSimpArgs false
open Go.Sort

section
variable {α : Type} (lt : α → α → Bool)

/-- x behind all that it is not less than, looked for from the end -/
def insRev (x : α) : List α → List α
  | [] => [x]
  | y :: r => if lt x y then y :: insRev x r else x :: y :: r
def insR (x : α) (l : List α) : List α := (insRev lt x l.reverse).reverse
def insS (l : List α) : List α := l.foldl (fun acc x => insR lt x acc) []
def le (x y : α) : Bool := !lt y x
def mg (a b : List α) : List α := List.merge a b (le lt)

theorem insR_nil (x : α) : insR lt x [] = [x] := rfl
theorem insR_snoc (x y : α) (l : List α) : insR lt x (l ++ [y]) = if lt x y then insR lt x l ++ [y] else l ++ [y, x] := by
  unfold insR
  rw [List.reverse_append]
  simp only [List.reverse_singleton, List.singleton_append, insRev]
  split <;> simp
theorem insR_length (x : α) (l : List α) : (insR lt x l).length = l.length + 1 := by
  have h : ∀ l : List α, (insRev lt x l).length = l.length + 1 := by
    intro l
    induction l with
    | nil => rfl
    | cons y r ih => unfold insRev; split <;> simp [ih]
  unfold insR; rw [List.length_reverse, h, List.length_reverse]
theorem insS_snoc (l : List α) (x : α) : insS lt (l ++ [x]) = insR lt x (insS lt l) := by simp [insS, List.foldl_append]
theorem insS_length (l : List α) : (insS lt l).length = l.length := by
  have : ∀ l : List α, ∀ acc, (l.foldl (fun acc x => insR lt x acc) acc).length = acc.length + l.length := by
    intro l
    induction l with
    | nil => intro acc; simp
    | cons x r ih => intro acc; rw [List.foldl_cons, ih, insR_length]; simp; omega
  unfold insS; rw [this]; simp

/-- sorted: no later element is less than an earlier one -/
def Srt (l : List α) : Prop := l.Pairwise fun a b => lt b a = false
theorem le_trans' (hO : SWO lt) (a b c : α) (h1 : le lt a b = true) (h2 : le lt b c = true) : le lt a c = true := by
  unfold le at *
  simp only [Bool.not_eq_true'] at *
  exact hO.ntrans c b a h2 h1
theorem le_total' (hO : SWO lt) (a b : α) : (le lt a b || le lt b a) = true := by
  unfold le
  cases h1 : lt b a with
  | false => rfl
  | true =>
    cases h2 : lt a b with
    | false => rfl
    | true => have := hO.trans a b a h2 h1; rw [hO.irrefl] at this; cases this
theorem mg_nil (b : List α) : mg lt [] b = b := by unfold mg; simp
theorem mg_nil' (a : List α) : mg lt a [] = a := by unfold mg; simp
theorem mg_cons (x y : α) (a b : List α) : mg lt (x :: a) (y :: b) = if lt y x then y :: mg lt (x :: a) b else x :: mg lt a (y :: b) := by
  unfold mg
  rw [List.cons_merge_cons]
  unfold le
  cases lt y x <;> simp
theorem mg_length (a b : List α) : (mg lt a b).length = a.length + b.length := by
  unfold mg; rw [List.length_merge]
theorem mg_mem (a b : List α) (x : α) : x ∈ mg lt a b ↔ x ∈ a ∨ x ∈ b := by unfold mg; rw [List.mem_merge]

theorem srt_mg (hO : SWO lt) : ∀ (a b : List α), Srt lt a → Srt lt b → Srt lt (mg lt a b) := by
  intro a
  induction a with
  | nil => intro b _ hb; rw [mg_nil]; exact hb
  | cons x a iha =>
    intro b
    induction b with
    | nil => intro ha _; rw [mg_nil']; exact ha
    | cons y b ihb =>
      intro ha hb
      rw [mg_cons]
      have hax := List.pairwise_cons.1 ha
      have hby := List.pairwise_cons.1 hb
      cases h : lt y x with
      | true =>
        rw [if_pos rfl]
        refine List.pairwise_cons.2 ⟨fun z hz => ?_, ihb ha hby.2⟩
        rcases (mg_mem lt _ _ _).1 hz with hz | hz
        · have hxy : lt x y = false := by
            cases e : lt x y with
            | false => rfl
            | true => have := hO.trans x y x e h; rw [hO.irrefl] at this; cases this
          rcases List.mem_cons.1 hz with rfl | hz
          · exact hxy
          · exact hO.ntrans z x y (hax.1 z hz) hxy
        · exact hby.1 z hz
      | false =>
        rw [if_neg (by simp)]
        refine List.pairwise_cons.2 ⟨fun z hz => ?_, iha (y :: b) hax.2 hb⟩
        rcases (mg_mem lt _ _ _).1 hz with hz | hz
        · exact hax.1 z hz
        · rcases List.mem_cons.1 hz with rfl | hz
          · exact h
          · exact hO.ntrans z y x (hby.1 z hz) h

/-- two pairs of pieces that are in order are merged each by itself -/
theorem mg_parts : ∀ (n : Nat) (u1 u2 v1 v2 : List α), u1.length + v1.length ≤ n → (∀ x ∈ u1, ∀ y ∈ v2, lt y x = false) → (∀ y ∈ v1, ∀ x ∈ u2, lt y x = true) →
    mg lt (u1 ++ u2) (v1 ++ v2) = mg lt u1 v1 ++ mg lt u2 v2 := by
  intro n
  induction n with
  | zero =>
    intro u1 u2 v1 v2 h _ _
    obtain rfl : u1 = [] := List.eq_nil_of_length_eq_zero (by omega)
    obtain rfl : v1 = [] := List.eq_nil_of_length_eq_zero (by omega)
    rw [mg_nil]; rfl
  | succ n ih =>
    intro u1 u2 v1 v2 h h1 h2
    cases u1 with
    | nil =>
      cases v1 with
      | nil => rw [mg_nil]; rfl
      | cons y v1 =>
        rw [mg_nil, List.nil_append]
        cases u2 with
        | nil => rw [mg_nil, mg_nil]
        | cons x u2 =>
          have hyx := h2 y (by simp) x (by simp)
          rw [List.cons_append, mg_cons, hyx, if_pos rfl]
          have := ih [] (x :: u2) v1 v2 (by simp at h ⊢; omega) (fun z hz => by simp at hz) (fun z hz => h2 z (List.mem_cons_of_mem _ hz))
          rw [List.nil_append, mg_nil] at this
          rw [this]; rfl
    | cons x u1 =>
      cases v1 with
      | nil =>
        rw [mg_nil', List.nil_append]
        cases v2 with
        | nil => rw [mg_nil', mg_nil']
        | cons y v2 =>
          have hyx := h1 x (by simp) y (by simp)
          rw [List.cons_append, mg_cons, hyx, if_neg (by simp)]
          have := ih u1 u2 [] (y :: v2) (by simp at h ⊢; omega) (fun z hz => h1 z (List.mem_cons_of_mem _ hz)) (fun z hz => by simp at hz)
          rw [List.nil_append, mg_nil'] at this
          rw [this]; rfl
      | cons y v1 =>
        rw [List.cons_append, List.cons_append, mg_cons, mg_cons]
        cases hyx : lt y x with
        | true =>
          rw [if_pos rfl, if_pos rfl]
          have := ih (x :: u1) u2 v1 v2 (by simp at h ⊢; omega) h1 (fun z hz => h2 z (List.mem_cons_of_mem _ hz))
          rw [List.cons_append] at this
          rw [this]; rfl
        | false =>
          rw [if_neg (by simp), if_neg (by simp)]
          have := ih u1 u2 (y :: v1) v2 (by simp at h ⊢; omega) (fun z hz => h1 z (List.mem_cons_of_mem _ hz)) h2
          rw [List.cons_append] at this
          rw [this]; rfl

theorem mg_one (x : α) (l : List α) : mg lt l [x] = l.takeWhile (fun y => !lt x y) ++ x :: l.dropWhile (fun y => !lt x y) := by
  induction l with
  | nil => rw [mg_nil]; rfl
  | cons y l ih =>
    rw [mg_cons, List.takeWhile_cons, List.dropWhile_cons]
    cases h : lt x y with
    | true => simp [mg_nil']
    | false => simp [ih]
/-- in a sorted list, looked for from the end or from the beginning -/
theorem insR_srt (hO : SWO lt) (x : α) : ∀ (l : List α), Srt lt l → insR lt x l = mg lt l [x] := by
  have key : ∀ (n : Nat) (l : List α), l.length = n → Srt lt l → insR lt x l = mg lt l [x] := by
    intro n
    induction n with
    | zero =>
      intro l hl _
      obtain rfl : l = [] := List.eq_nil_of_length_eq_zero hl
      rw [mg_nil]; rfl
    | succ n ih =>
      intro l hl hs
      obtain ⟨l', y, rfl⟩ : ∃ l' y, l = l' ++ [y] := ⟨l.dropLast, l.getLast (by intro e; rw [e] at hl; simp at hl), (List.dropLast_concat_getLast _).symm⟩
      have hs' := List.pairwise_append.1 hs
      rw [insR_snoc]
      cases h : lt x y with
      | true =>
        rw [if_pos rfl, ih l' (by simpa using hl) hs'.1]
        have := mg_parts lt _ l' [y] [x] [] (Nat.le_refl _) (fun _ _ z hz => by simp at hz) (fun z hz w hw => by simp at hz hw; rw [hz, hw]; exact h)
        rw [List.append_nil, mg_nil'] at this
        exact this.symm
      | false =>
        rw [if_neg (by simp)]
        have := mg_parts lt _ (l' ++ [y]) [] [] [x] (Nat.le_refl _) (fun z hz w hw => by
          simp at hw; subst hw
          rcases List.mem_append.1 hz with hz | hz
          · exact hO.ntrans w y z h (hs'.2.2 z hz y (by simp))
          · simp at hz; rw [hz]; exact h) (fun z hz => by simp at hz)
        rw [List.append_nil, List.nil_append, mg_nil', mg_nil] at this
        rw [this]; simp
  exact fun l => key l.length l rfl
theorem srt_insR (hO : SWO lt) (x : α) (l : List α) (h : Srt lt l) : Srt lt (insR lt x l) := by
  rw [insR_srt lt hO x l h]
  exact srt_mg lt hO l [x] h (List.pairwise_singleton _ _)
theorem srt_foldl (hO : SWO lt) : ∀ (l acc : List α), Srt lt acc → Srt lt (l.foldl (fun acc x => insR lt x acc) acc) := by
  intro l
  induction l with
  | nil => intro acc h; exact h
  | cons x r ih => intro acc h; exact ih _ (srt_insR lt hO x acc h)
theorem srt_insS (hO : SWO lt) (l : List α) : Srt lt (insS lt l) := srt_foldl lt hO l [] List.Pairwise.nil

theorem mg_assoc (hO : SWO lt) : ∀ (n : Nat) (a b c : List α), a.length + b.length + c.length ≤ n → mg lt (mg lt a b) c = mg lt a (mg lt b c) := by
  intro n
  induction n with
  | zero =>
    intro a b c h
    obtain rfl : a = [] := List.eq_nil_of_length_eq_zero (by omega)
    rw [mg_nil, mg_nil]
  | succ n ih =>
    intro a b c h
    cases a with
    | nil => rw [mg_nil, mg_nil]
    | cons x a =>
      cases b with
      | nil => rw [mg_nil', mg_nil]
      | cons y b =>
        cases c with
        | nil => rw [mg_nil', mg_nil']
        | cons z c =>
          rw [mg_cons, mg_cons]
          simp only [List.length_cons] at h
          cases hyx : lt y x with
          | true =>
            rw [if_pos rfl, mg_cons]
            cases hzy : lt z y with
            | true =>
              have hzx := hO.trans z y x hzy hyx
              rw [if_pos rfl, if_pos rfl, mg_cons, hzx, if_pos rfl]
              have e := ih (x :: a) (y :: b) c (by simp; omega)
              rw [mg_cons, hyx, if_pos rfl] at e
              rw [e]
            | false =>
              rw [if_neg (by simp), if_neg (by simp), mg_cons, hyx, if_pos rfl]
              exact congrArg (y :: ·) (ih (x :: a) b (z :: c) (by simp; omega))
          | false =>
            rw [if_neg (by simp), mg_cons]
            cases hzx : lt z x with
            | true =>
              rw [if_pos rfl]
              have hzy : lt z y = true := by
                cases e : lt z y with
                | true => rfl
                | false => have := hO.ntrans z y x e hyx; rw [this] at hzx; cases hzx
              rw [hzy, if_pos rfl, mg_cons, hzx, if_pos rfl]
              have e := ih (x :: a) (y :: b) c (by simp; omega)
              rw [mg_cons, hyx, if_neg (by simp)] at e
              rw [e]
            | false =>
              rw [if_neg (by simp)]
              have e := ih a (y :: b) (z :: c) (by simp; omega)
              rw [e, mg_cons]
              cases hzy : lt z y with
              | true => rw [if_pos rfl, mg_cons, hzx, if_neg (by simp)]
              | false => rw [if_neg (by simp), mg_cons, hyx, if_neg (by simp)]
theorem insS_append (hO : SWO lt) (l1 : List α) : ∀ l2 : List α, insS lt (l1 ++ l2) = mg lt (insS lt l1) (insS lt l2) := by
  have key : ∀ (n : Nat) (l2 : List α), l2.length = n → insS lt (l1 ++ l2) = mg lt (insS lt l1) (insS lt l2) := by
    intro n
    induction n with
    | zero =>
      intro l2 hl
      obtain rfl : l2 = [] := List.eq_nil_of_length_eq_zero hl
      rw [List.append_nil, show insS lt [] = [] from rfl, mg_nil']
    | succ n ih =>
      intro l2 hl
      obtain ⟨l', y, rfl⟩ : ∃ l' y, l2 = l' ++ [y] := ⟨l2.dropLast, l2.getLast (by intro e; rw [e] at hl; simp at hl), (List.dropLast_concat_getLast _).symm⟩
      rw [← List.append_assoc, insS_snoc, insS_snoc, ih l' (by simpa using hl), insR_srt lt hO y _ (srt_mg lt hO _ _ (srt_insS lt hO _) (srt_insS lt hO _)), insR_srt lt hO y _ (srt_insS lt hO _), mg_assoc lt hO _ _ _ _ (Nat.le_refl _)]
  exact fun l2 => key l2.length l2 rfl
end

section
variable {α : Type} [Inhabited α] (lt : α → α → Bool)
theorem arr_at (X : List α) (y : α) (Y : List α) : (X ++ y :: Y).toArray[X.length]! = y := by simp
theorem arr_at' (X : List α) (y : α) (Y : List α) (n : Nat) (h : n = X.length) : (X ++ y :: Y).toArray[n]! = y := by subst h; exact arr_at X y Y
theorem arr_ext {d e : Array α} (h : d.size = e.size) (hi : ∀ i, i < d.size → d[i]! = e[i]!) : d = e := by
  refine Array.ext h fun i h1 h2 => ?_
  have := hi i h1
  rwa [getElem!_pos d i h1, getElem!_pos e i h2] at this
/-- an exchange of two elements -/
theorem swp_lists (X M Y : List α) (p q : α) (i j : Nat) (hi : i = X.length) (hj : j = X.length + 1 + M.length) : swp (X ++ p :: (M ++ q :: Y)).toArray i j = (X ++ q :: (M ++ p :: Y)).toArray := by
  unfold swp
  have e1 : (X ++ p :: (M ++ q :: Y)).toArray[i]! = p := arr_at' _ _ _ _ hi
  have e2 : (X ++ p :: (M ++ q :: Y)).toArray[j]! = q := by
    rw [show X ++ p :: (M ++ q :: Y) = (X ++ p :: M) ++ q :: Y by simp]
    exact arr_at' _ _ _ _ (by simp; omega)
  rw [e1, e2]
  have s1 : (X ++ p :: (M ++ q :: Y)).set i q = X ++ q :: (M ++ q :: Y) := by
    rw [List.set_append_right _ _ (by omega), hi]; simp
  have s2 : (X ++ q :: (M ++ q :: Y)).set j p = X ++ q :: (M ++ p :: Y) := by
    rw [show X ++ q :: (M ++ q :: Y) = (X ++ q :: M) ++ q :: Y by simp, List.set_append_right _ _ (by simp; omega), hj]
    simp [show X.length + 1 + M.length - (X.length + (M.length + 1)) = 0 by omega]
  apply Array.toList_inj.1
  simp only [Array.toList_setIfInBounds]
  rw [s1, s2]
theorem swp_comm' (X M Y : List α) (p q : α) (i j : Nat) (hi : i = X.length) (hj : j = X.length + 1 + M.length) : swp (X ++ p :: (M ++ q :: Y)).toArray j i = (X ++ q :: (M ++ p :: Y)).toArray := by
  have e : swp (X ++ p :: (M ++ q :: Y)).toArray j i = swp (X ++ p :: (M ++ q :: Y)).toArray i j := by
    unfold swp
    exact Array.setIfInBounds_comm _ _ (by omega)
  rw [e]; exact swp_lists X M Y p q i j hi hj
theorem insInner_is (a : Nat) (X : List α) (hX : a = X.length) (x : α) : ∀ (n : Nat) (s Y : List α), s.length = n → insInner lt a (a + n) (X ++ s ++ x :: Y).toArray = (X ++ insR lt x s ++ Y).toArray := by
  intro n
  induction n with
  | zero =>
    intro s Y hs
    obtain rfl : s = [] := List.eq_nil_of_length_eq_zero hs
    rw [Nat.add_zero, insInner_stop _ _ _ _ (Or.inl (Nat.le_refl _)), insR_nil]
    simp
  | succ n ih =>
    intro s Y hs
    obtain ⟨s', y, rfl⟩ : ∃ l' y, s = l' ++ [y] := ⟨s.dropLast, s.getLast (by intro e; rw [e] at hs; simp at hs), (List.dropLast_concat_getLast _).symm⟩
    have hs' : s'.length = n := by simpa using hs
    have e0 : X ++ (s' ++ [y]) ++ x :: Y = (X ++ s') ++ y :: ([] ++ x :: Y) := by simp
    have ex : (X ++ (s' ++ [y]) ++ x :: Y).toArray[a + (n + 1)]! = x := by
      exact arr_at' _ _ _ _ (by simp; omega)
    have ey : (X ++ (s' ++ [y]) ++ x :: Y).toArray[a + n]! = y := by
      rw [e0]; exact arr_at' _ _ _ _ (by simp; omega)
    rw [insR_snoc]
    cases h : lt x y with
    | true =>
      rw [insInner_go _ _ _ _ (by omega) (by rw [ex, show a + (n + 1) - 1 = a + n by omega, ey]; exact h), if_pos rfl]
      rw [show a + (n + 1) - 1 = a + n by omega, e0, swp_comm' (X ++ s') [] Y y x (a + n) (a + (n + 1)) (by simp; omega) (by simp; omega)]
      rw [show X ++ s' ++ x :: ([] ++ y :: Y) = X ++ s' ++ x :: (y :: Y) by rfl, ih s' (y :: Y) hs']
      simp
    | false =>
      rw [insInner_stop _ _ _ _ (Or.inr (by rw [ex, show a + (n + 1) - 1 = a + n by omega, ey]; exact h)), if_neg (by simp)]
      simp
theorem insOuter_is (a : Nat) (X : List α) (hX : a = X.length) (Y : List α) : ∀ (r s : List α) (b i : Nat), i = a + s.length → b = i + r.length →
    insOuter lt a b i (X ++ s ++ r ++ Y).toArray = (X ++ r.foldl (fun acc x => insR lt x acc) s ++ Y).toArray := by
  intro r
  induction r with
  | nil => intro s b i hi hb; rw [insOuter_stop _ _ _ _ _ (by simp at hb; omega)]; simp
  | cons x r ih =>
    intro s b i hi hb
    rw [insOuter_go _ _ _ _ _ (by simp at hb; omega)]
    have := insInner_is lt a X hX x s.length s (r ++ Y) rfl
    rw [← hi] at this
    rw [show X ++ s ++ x :: r ++ Y = X ++ s ++ x :: (r ++ Y) by simp, this]
    rw [show X ++ insR lt x s ++ (r ++ Y) = X ++ insR lt x s ++ r ++ Y by simp, ih (insR lt x s) b (i + 1) (by rw [insR_length]; omega) (by simp at hb; omega)]
    rfl
/-- insertion sort of a piece -/
theorem insertion_is (X l Y : List α) (a b : Nat) (ha : a = X.length) (hb : b = a + l.length) (hl : l ≠ []) : insertionSort lt (X ++ l ++ Y).toArray a b = (X ++ insS lt l ++ Y).toArray := by
  unfold insertionSort
  cases l with
  | nil => exact absurd rfl hl
  | cons x r =>
    have := insOuter_is lt a X ha Y r [x] b (a + 1) (by simp) (by simp at hb; omega)
    rw [show X ++ [x] ++ r ++ Y = X ++ x :: r ++ Y by simp] at this
    rw [this]
    rfl
end
end Go.Proofs.YtgjooigolgdocaaGreatDoor

/- Plain: exchange of blocks, rotation, the symmetric merge, and the stable sort by blocks. -/
namespace Go.Proofs.YtgjooigolgdocaaGreatDoor
set_option linter.unusedVariables false
set_option linter.unusedSimpArgs false
open Go.Sort

section
variable {α : Type} (lt : α → α → Bool)
theorem at_app [Inhabited α] (X v Y : List α) (i t : Nat) (h : i = X.length + t) (ht : t < v.length) : (X ++ v ++ Y).toArray[i]! = v[t] := by
  subst h
  have e : v = v.take t ++ v[t] :: v.drop (t + 1) := by rw [← List.drop_eq_getElem_cons ht, List.take_append_drop]
  have e2 : X ++ v ++ Y = (X ++ v.take t) ++ v[t] :: (v.drop (t + 1) ++ Y) := by
    conv => lhs; rw [e]
    simp only [List.append_assoc, List.cons_append]
  rw [e2]
  exact arr_at' _ _ _ _ (by simp; omega)

/-- the row while two blocks are exchanged -/
def srA (X p M q Y : List α) (i : Nat) : Array α := (X ++ q.take i ++ (p.drop i ++ M ++ p.take i) ++ q.drop i ++ Y).toArray
theorem srA_zero (X p M q Y : List α) : srA X p M q Y 0 = (X ++ p ++ M ++ q ++ Y).toArray := by simp [srA]
theorem srA_end (X p M q Y : List α) (n : Nat) (hp : p.length = n) (hq : q.length = n) : srA X p M q Y n = (X ++ q ++ M ++ p ++ Y).toArray := by
  unfold srA
  rw [List.take_of_length_le (by omega), List.drop_of_length_le (by omega), List.take_of_length_le (by omega), List.drop_of_length_le (by omega)]
  simp
theorem srA_size (X p M q Y : List α) (i : Nat) : (srA X p M q Y i).size = X.length + p.length + M.length + q.length + Y.length := by
  simp [srA]; omega
theorem srA_step [Inhabited α] (X p M q Y : List α) (n i a b : Nat) (hp : p.length = n) (hq : q.length = n) (hi : i < n) (ha : a = X.length) (hb : b = X.length + n + M.length) :
    swp (srA X p M q Y i) (a + i) (b + i) = srA X p M q Y (i + 1) := by
  unfold srA
  have hpi : i < p.length := by omega
  have hqi : i < q.length := by omega
  rw [List.drop_eq_getElem_cons hpi, List.drop_eq_getElem_cons hqi]
  rw [show X ++ q.take i ++ (p[i] :: p.drop (i + 1) ++ M ++ p.take i) ++ q[i] :: q.drop (i + 1) ++ Y = (X ++ q.take i) ++ p[i] :: ((p.drop (i + 1) ++ M ++ p.take i) ++ q[i] :: (q.drop (i + 1) ++ Y)) by simp only [List.append_assoc, List.cons_append]]
  rw [swp_lists _ _ _ _ _ _ _ (by simp; omega) (by simp; omega)]
  rw [List.take_succ_eq_append_getElem hqi, List.take_succ_eq_append_getElem hpi]
  simp only [List.append_assoc, List.cons_append, List.nil_append]

/-- the row while two neighbouring blocks are rotated: i and j elements around m are still to change places; G is what comes out -/
def RotI (G : Array α) (m i j : Nat) (dk : Array α) : Prop :=
  ∃ X p q Y : List α, dk = (X ++ p ++ q ++ Y).toArray ∧ X.length + i = m ∧ p.length = i ∧ q.length = j ∧ 0 < i ∧ 0 < j ∧ (X ++ q ++ p ++ Y).toArray = G
/-- i > j: the first j of the left block and the right block -/
theorem rot_gt {G : Array α} {m i j : Nat} {dk : Array α} (h : RotI G m i j dk) (hij : j < i) :
    ∃ X p M q Y : List α, dk = (X ++ p ++ M ++ q ++ Y).toArray ∧ p.length = j ∧ q.length = j ∧ m - i = X.length ∧ m = X.length + j + M.length ∧ RotI G m (i - j) j (X ++ q ++ M ++ p ++ Y).toArray := by
  obtain ⟨X, p, q, Y, rfl, hX, hp, hq, hi, hj, hG⟩ := h
  refine ⟨X, p.take j, p.drop j, q, Y, by simp, by simp; omega, hq, by omega, by simp; omega, X ++ q, p.drop j, p.take j, Y, by simp, by simp; omega, by simp; omega, by simp; omega, by omega, by omega, ?_⟩
  rw [← hG]
  conv => rhs; rw [← List.take_append_drop j p]
  simp
/-- i < j: the left block and the last i of the right block -/
theorem rot_lt {G : Array α} {m i j : Nat} {dk : Array α} (h : RotI G m i j dk) (hij : i < j) :
    ∃ X p M q Y : List α, dk = (X ++ p ++ M ++ q ++ Y).toArray ∧ p.length = i ∧ q.length = i ∧ m - i = X.length ∧ m + j - i = X.length + i + M.length ∧ RotI G m i (j - i) (X ++ q ++ M ++ p ++ Y).toArray := by
  obtain ⟨X, p, q, Y, rfl, hX, hp, hq, hi, hj, hG⟩ := h
  refine ⟨X, p, q.take (j - i), q.drop (j - i), Y, by simp, hp, by simp; omega, by omega, by simp; omega, X, q.drop (j - i), q.take (j - i), p ++ Y, by simp, by omega, by simp; omega, by simp; omega, by omega, by omega, ?_⟩
  rw [← hG]
  conv => rhs; rw [← List.take_append_drop (j - i) q]
  simp
theorem rot_eq {G : Array α} {m i j : Nat} {dk : Array α} (h : RotI G m i j dk) (hij : i = j) :
    ∃ X p M q Y : List α, dk = (X ++ p ++ M ++ q ++ Y).toArray ∧ p.length = i ∧ q.length = i ∧ m - i = X.length ∧ m = X.length + i + M.length ∧ (X ++ q ++ M ++ p ++ Y).toArray = G := by
  obtain ⟨X, p, q, Y, rfl, hX, hp, hq, hi, hj, hG⟩ := h
  exact ⟨X, p, [], q, Y, by simp, hp, by omega, by omega, by simp; omega, by rw [← hG]; simp⟩
theorem rot_start (X u v Y : List α) (a m b : Nat) (ha : a = X.length) (hm : m = a + u.length) (hb : b = m + v.length) (h1 : a < m) (h2 : m < b) : RotI (X ++ v ++ u ++ Y).toArray m (m - a) (b - m) (X ++ u ++ v ++ Y).toArray :=
  ⟨X, u, v, Y, rfl, by omega, by omega, by omega, by omega, by omega, rfl⟩

/-! one element ahead of a sorted piece -/
theorem srt_take {l : List α} (h : Srt lt l) (k : Nat) : Srt lt (l.take k) := List.Pairwise.sublist (List.take_sublist _ _) h
theorem srt_drop {l : List α} (h : Srt lt l) (k : Nat) : Srt lt (l.drop k) := List.Pairwise.sublist (List.drop_sublist _ _) h
theorem srt_le {l : List α} (hO : SWO lt) (h : Srt lt l) (i j : Nat) (hij : i ≤ j) (hj : j < l.length) : lt l[j] (l[i]'(by omega)) = false := by
  rcases Nat.lt_or_eq_of_le hij with h1 | h1
  · exact (List.pairwise_iff_getElem.1 h) i j (by omega) hj h1
  · subst h1; exact hO.irrefl _
theorem mem_take {l : List α} {k : Nat} {x : α} (h : x ∈ l.take k) : ∃ i, ∃ hi : i < l.length, i < k ∧ x = l[i] := by
  obtain ⟨i, hi, rfl⟩ := List.getElem_of_mem h
  have := hi
  rw [List.length_take] at this
  exact ⟨i, by omega, by omega, by rw [List.getElem_take]⟩
theorem mem_drop {l : List α} {k : Nat} {x : α} (h : x ∈ l.drop k) : ∃ i, ∃ hi : i < l.length, k ≤ i ∧ x = l[i] := by
  obtain ⟨i, hi, rfl⟩ := List.getElem_of_mem h
  have := hi
  rw [List.length_drop] at this
  exact ⟨k + i, by omega, by omega, by rw [List.getElem_drop]⟩
/-- y < x for y at or before y1, y1 < x -/
theorem lt_of_le (hO : SWO lt) {y y1 x x1 : α} (h1 : lt y1 y = false) (h2 : lt y1 x1 = true) (h3 : lt x x1 = false) : lt y x = true := by
  cases e : lt y x with
  | true => rfl
  | false =>
    have := hO.ntrans y1 x x1 (hO.ntrans y1 y x h1 e) h3
    rw [h2] at this; cases this

theorem sym_first [Inhabited α] (hO : SWO lt) (X v Y : List α) (x : α) (m b i : Nat) (hm : m = X.length + 1) (hb : b = m + v.length) (hs : Srt lt v) (h0 : m ≤ i) (h0' : i ≤ b)
    (h1 : i = m ∨ lt (X ++ [x] ++ v ++ Y).toArray[i - 1]! x = true) (h2 : i = b ∨ lt (X ++ [x] ++ v ++ Y).toArray[i]! x = false) :
    mg lt [x] v = v.take (i - m) ++ x :: v.drop (i - m) := by
  have e1 := mg_parts lt _ [] [x] (v.take (i - m)) (v.drop (i - m)) (Nat.le_refl _) (fun _ hz => by simp at hz) (fun y hy z hz => by
    simp at hz; subst hz
    obtain ⟨t, ht, htk, rfl⟩ := mem_take hy
    rcases h1 with h1 | h1
    · omega
    · rw [at_app (X ++ [z]) v Y (i - 1) (i - 1 - m) (by simp; omega) (by omega)] at h1
      exact lt_of_le lt hO (srt_le lt hO hs t (i - 1 - m) (by omega) (by omega)) h1 (hO.irrefl z))
  have e2 := mg_parts lt _ [x] [] [] (v.drop (i - m)) (Nat.le_refl _) (fun z hz y hy => by
    simp at hz; subst hz
    obtain ⟨t, ht, htk, rfl⟩ := mem_drop hy
    rcases h2 with h2 | h2
    · omega
    · rw [at_app (X ++ [z]) v Y i (i - m) (by simp; omega) (by omega)] at h2
      exact hO.ntrans _ _ _ (srt_le lt hO hs (i - m) t (by omega) (by omega)) h2) (fun y hy => by simp at hy)
  rw [List.take_append_drop, List.nil_append, mg_nil] at e1
  rw [List.append_nil, List.nil_append, mg_nil', mg_nil] at e2
  rw [e1, e2]; rfl
theorem sym_last [Inhabited α] (hO : SWO lt) (X u Y : List α) (y : α) (a m i : Nat) (ha : a = X.length) (hm : m = a + u.length) (hs : Srt lt u) (h0 : a ≤ i) (h0' : i ≤ m)
    (h1 : i = a ∨ lt y (X ++ u ++ ([y] ++ Y)).toArray[i - 1]! = false) (h2 : i = m ∨ lt y (X ++ u ++ ([y] ++ Y)).toArray[i]! = true) :
    mg lt u [y] = u.take (i - a) ++ y :: u.drop (i - a) := by
  have e1 := mg_parts lt _ (u.take (i - a)) (u.drop (i - a)) [] [y] (Nat.le_refl _) (fun x hx z hz => by
    simp at hz; subst hz
    obtain ⟨t, ht, htk, rfl⟩ := mem_take hx
    rcases h1 with h1 | h1
    · omega
    · rw [at_app X u _ (i - 1) (i - 1 - a) (by omega) (by omega)] at h1
      exact hO.ntrans _ _ _ h1 (srt_le lt hO hs t (i - 1 - a) (by omega) (by omega))) (fun _ hz => by simp at hz)
  have e2 := mg_parts lt _ [] (u.drop (i - a)) [y] [] (Nat.le_refl _) (fun _ hz => by simp at hz) (fun z hz x hx => by
    simp at hz; subst hz
    obtain ⟨t, ht, htk, rfl⟩ := mem_drop hx
    rcases h2 with h2 | h2
    · omega
    · rw [at_app X u _ i (i - a) (by omega) (by omega)] at h2
      exact lt_of_le lt hO (hO.irrefl z) h2 (srt_le lt hO hs (i - a) t (by omega) (by omega)))
  rw [List.take_append_drop, List.nil_append, mg_nil'] at e1
  rw [List.append_nil, List.nil_append, mg_nil', mg_nil] at e2
  rw [e1, e2]; rfl
/-- the row while an element wanders -/
def wandA (X : List α) (x : α) (v Y : List α) (k : Nat) : Array α := (X ++ v.take k ++ x :: (v.drop k ++ Y)).toArray
theorem wand_right [Inhabited α] (X : List α) (x : α) (v Y : List α) (k a : Nat) (ha : a = X.length) (hk : k < v.length) : swp (wandA X x v Y k) (a + k) (a + k + 1) = wandA X x v Y (k + 1) := by
  unfold wandA
  rw [List.drop_eq_getElem_cons hk]
  rw [show X ++ v.take k ++ x :: (v[k] :: v.drop (k + 1) ++ Y) = (X ++ v.take k) ++ x :: ([] ++ v[k] :: (v.drop (k + 1) ++ Y)) by simp only [List.append_assoc, List.cons_append, List.nil_append]]
  rw [swp_lists _ _ _ _ _ _ _ (by simp; omega) (by simp; omega), List.take_succ_eq_append_getElem hk]
  simp only [List.append_assoc, List.cons_append, List.nil_append]
theorem wand_left [Inhabited α] (X : List α) (x : α) (v Y : List α) (k a : Nat) (ha : a = X.length) (hk : k < v.length) : swp (wandA X x v Y (k + 1)) (a + k + 1) (a + k) = wandA X x v Y k := by
  unfold wandA
  rw [List.drop_eq_getElem_cons hk]
  rw [List.take_succ_eq_append_getElem hk]
  rw [show X ++ (v.take k ++ [v[k]]) ++ x :: (v.drop (k + 1) ++ Y) = (X ++ v.take k) ++ v[k] :: ([] ++ x :: (v.drop (k + 1) ++ Y)) by simp only [List.append_assoc, List.cons_append, List.nil_append]]
  rw [swp_comm' _ _ _ _ _ _ _ (by simp; omega) (by simp; omega)]
  simp only [List.append_assoc, List.cons_append, List.nil_append]
theorem wand_size (X : List α) (x : α) (v Y : List α) (k : Nat) : (wandA X x v Y k).size = X.length + 1 + v.length + Y.length := by
  simp [wandA]; omega

/-- where the symmetric merge parts the two pieces -/
theorem sym_part [Inhabited α] (hO : SWO lt) (X u v Y : List α) (a m b mid n lo hi st en : Nat) (d : Array α) (hd : d = (X ++ u ++ v ++ Y).toArray) (ha : a = X.length) (hm : m = a + u.length) (hb : b = m + v.length) (hmid : mid = (a + b) / 2) (hn : n = mid + m) (h1m : a < m) (h2m : m < b)
    (hl : m > mid → lo = n - b ∧ hi = mid) (hl' : ¬ m > mid → lo = a ∧ hi = m) (hs1 : lo ≤ st) (hs2 : st ≤ hi) (he : en = n - st) (hu : Srt lt u) (hv : Srt lt v)
    (h1 : st = lo ∨ lt d[n - st]! d[st - 1]! = false) (h2 : st = hi ∨ lt d[n - 1 - st]! d[st]! = true) :
    a ≤ st ∧ st ≤ m ∧ m ≤ en ∧ en ≤ b ∧ (st - a) + (en - m) = mid - a ∧ st ≤ mid ∧ mid ≤ en ∧ mg lt u v = mg lt (u.take (st - a)) (v.take (en - m)) ++ mg lt (u.drop (st - a)) (v.drop (en - m)) := by
  have hk : a ≤ st ∧ st ≤ m ∧ m ≤ en ∧ en ≤ b ∧ (st - a) + (en - m) = mid - a ∧ st ≤ mid ∧ mid ≤ en := by
    by_cases h : m > mid
    · obtain ⟨rfl, rfl⟩ := hl h; omega
    · obtain ⟨rfl, rfl⟩ := hl' h; omega
  obtain ⟨k1, k2, k3, k4, k5, k6, k7⟩ := hk
  refine ⟨k1, k2, k3, k4, k5, k6, k7, ?_⟩
  have hat1 : ∀ i t, i = a + t → ∀ ht : t < u.length, d[i]! = u[t] := fun i t hi ht => by
    rw [hd, show X ++ u ++ v ++ Y = X ++ u ++ (v ++ Y) by simp]; exact at_app X u _ i t (by omega) ht
  have hat2 : ∀ i t, i = m + t → ∀ ht : t < v.length, d[i]! = v[t] := fun i t hi ht => by
    rw [hd]; exact at_app (X ++ u) v Y i t (by simp; omega) ht
  have e := mg_parts lt _ (u.take (st - a)) (u.drop (st - a)) (v.take (en - m)) (v.drop (en - m)) (Nat.le_refl _) (fun x hx y hy => by
    obtain ⟨t, ht, htk, rfl⟩ := mem_take hx
    obtain ⟨s, hs, hsk, rfl⟩ := mem_drop hy
    have hst : ¬ st = lo := by
      intro h
      by_cases hc : m > mid
      · obtain ⟨rfl, rfl⟩ := hl hc; omega
      · obtain ⟨rfl, rfl⟩ := hl' hc; omega
    have h1 := h1.resolve_left hst
    rw [hat2 (n - st) (en - m) (by omega) (by omega), hat1 (st - 1) (st - 1 - a) (by omega) (by omega)] at h1
    exact hO.ntrans _ _ _ (srt_le lt hO hv (en - m) s (by omega) hs) (hO.ntrans _ _ _ h1 (srt_le lt hO hu t (st - 1 - a) (by omega) (by omega)))) (fun y hy x hx => by
    obtain ⟨t, ht, htk, rfl⟩ := mem_drop hx
    obtain ⟨s, hs, hsk, rfl⟩ := mem_take hy
    have hst : ¬ st = hi := by
      intro h
      by_cases hc : m > mid
      · obtain ⟨rfl, rfl⟩ := hl hc; omega
      · obtain ⟨rfl, rfl⟩ := hl' hc; omega
    have h2 := h2.resolve_left hst
    rw [hat2 (n - 1 - st) (en - m - 1) (by omega) (by omega), hat1 st (st - a) (by omega) (by omega)] at h2
    exact lt_of_le lt hO (srt_le lt hO hv s (en - m - 1) (by omega) (by omega)) h2 (srt_le lt hO hu (st - a) t (by omega) ht))
  rw [List.take_append_drop, List.take_append_drop] at e
  exact e

/-! blocks -/
def cs (bs : Nat) (l : List α) : List α := if h : bs = 0 ∨ l = [] then [] else insS lt (l.take bs) ++ cs bs (l.drop bs)
termination_by l.length
decreasing_by
  have : l.length ≠ 0 := fun e => h (Or.inr (List.eq_nil_of_length_eq_zero e))
  simp; omega
theorem cs_nil (bs : Nat) : cs lt bs [] = [] := by rw [cs]; simp
theorem cs_step (bs : Nat) (l : List α) (hb : 0 < bs) (hl : l ≠ []) : cs lt bs l = insS lt (l.take bs) ++ cs lt bs (l.drop bs) := by
  rw [cs, dif_neg (by rintro (h | h); omega; exact hl h)]
theorem cs_short (bs : Nat) (l : List α) (hb : 0 < bs) (hl : l.length ≤ bs) : cs lt bs l = insS lt l := by
  by_cases h : l = []
  · subst h; rw [cs_nil]; rfl
  · rw [cs_step lt bs l hb h, List.take_of_length_le hl, List.drop_of_length_le hl, cs_nil, List.append_nil]
theorem cs_append (bs : Nat) (hb : 0 < bs) : ∀ (c : Nat) (A B : List α), A.length = bs * c → cs lt bs (A ++ B) = cs lt bs A ++ cs lt bs B := by
  intro c
  induction c with
  | zero =>
    intro A B h
    obtain rfl : A = [] := List.eq_nil_of_length_eq_zero (by simpa using h)
    rw [cs_nil]; rfl
  | succ c ih =>
    intro A B h
    rw [Nat.mul_succ] at h
    have hA : A ≠ [] := by intro e; rw [e] at h; simp at h; omega
    rw [cs_step lt bs (A ++ B) hb (by simp [hA]), cs_step lt bs A hb hA, List.take_append_of_le_length (by omega), List.drop_append_of_le_length (by omega), ih _ B (by simp; omega)]
    simp
theorem cs_length (bs : Nat) (hb : 0 < bs) : ∀ (n : Nat) (l : List α), l.length ≤ n → (cs lt bs l).length = l.length := by
  intro n
  induction n with
  | zero =>
    intro l h
    obtain rfl : l = [] := List.eq_nil_of_length_eq_zero (by omega)
    rw [cs_nil]
  | succ n ih =>
    intro l h
    by_cases hl : l = []
    · subst hl; rw [cs_nil]
    · have : l.length ≠ 0 := fun e => hl (List.eq_nil_of_length_eq_zero e)
      rw [cs_step lt bs l hb hl, List.length_append, insS_length, ih _ (by simp; omega)]
      simp; omega
/-- the first pass: blocks up to a are sorted -/
def P1 (l : List α) (a : Nat) (d : Array α) : Prop := a ≤ l.length ∧ (∃ c, a = 20 * c) ∧ d = (cs lt 20 (l.take a) ++ l.drop a).toArray
theorem P1.start (l : List α) : P1 lt l 0 l.toArray := ⟨Nat.zero_le _, ⟨0, rfl⟩, by simp [cs_nil]⟩
theorem P1.parts {l : List α} {a : Nat} {d : Array α} (h : P1 lt l a d) (hb : a + 20 ≤ l.length) : ∃ X B Y, d = (X ++ B ++ Y).toArray ∧ a = X.length ∧ a + 20 = a + B.length ∧ B ≠ [] ∧ P1 lt l (a + 20) (X ++ insS lt B ++ Y).toArray := by
  obtain ⟨h1, ⟨c, h2⟩, rfl⟩ := h
  refine ⟨cs lt 20 (l.take a), (l.drop a).take 20, l.drop (a + 20), ?_, ?_, ?_, ?_, hb, ⟨c + 1, by omega⟩, ?_⟩
  · rw [List.append_assoc]
    congr 2
    conv => lhs; rw [← List.take_append_drop 20 (l.drop a), List.drop_drop]
  · rw [cs_length lt 20 (by omega) _ _ (Nat.le_refl _)]; simp; omega
  · simp; omega
  · intro e
    have := congrArg List.length e
    simp at this; omega
  · have e : l.take (a + 20) = l.take a ++ (l.drop a).take 20 := by rw [List.take_add]
    rw [e, cs_append lt 20 (by omega) c _ _ (by simp; omega), cs_short lt 20 ((l.drop a).take 20) (by omega) (by simp; omega)]
theorem P1.last {l : List α} {a : Nat} {d : Array α} (h : P1 lt l a d) (hb : l.length < a + 20) (ha : a < l.length) : ∃ X B Y, d = (X ++ B ++ Y).toArray ∧ a = X.length ∧ l.length = a + B.length ∧ B ≠ [] ∧ (X ++ insS lt B ++ Y).toArray = (cs lt 20 l).toArray := by
  obtain ⟨h1, ⟨c, h2⟩, rfl⟩ := h
  refine ⟨cs lt 20 (l.take a), l.drop a, [], by simp, ?_, by simp; omega, ?_, ?_⟩
  · rw [cs_length lt 20 (by omega) _ _ (Nat.le_refl _)]; simp; omega
  · intro e
    have := congrArg List.length e
    simp at this; omega
  · have e := cs_append lt 20 (by omega) c (l.take a) (l.drop a) (by simp; omega)
    rw [List.take_append_drop, cs_short lt 20 (l.drop a) (by omega) (by simp; omega)] at e
    rw [e]; simp
theorem P1.done {l : List α} {a : Nat} {d : Array α} (h : P1 lt l a d) (ha : ¬ a < l.length) : d = (cs lt 20 l).toArray := by
  obtain ⟨h1, _, rfl⟩ := h
  have : a = l.length := by omega
  subst this
  simp
theorem insertion_none [Inhabited α] (d : Array α) (a b : Nat) (h : b ≤ a + 1) : insertionSort lt d a b = d := by
  unfold insertionSort; rw [insOuter_stop _ _ _ _ _ (by omega)]
/-- a later pass: blocks of 2 bs up to a, of bs behind -/
def P2 (bs : Nat) (l : List α) (a : Nat) (d : Array α) : Prop := 0 < bs ∧ a ≤ l.length ∧ (∃ c, a = 2 * bs * c) ∧ d = (cs lt (2 * bs) (l.take a) ++ cs lt bs (l.drop a)).toArray
theorem P2.start {bs : Nat} {l : List α} (hb : 0 < bs) : P2 lt bs l 0 (cs lt bs l).toArray := ⟨hb, Nat.zero_le _, ⟨0, rfl⟩, by simp [cs_nil]⟩
theorem P2.parts (hO : SWO lt) {bs : Nat} {l : List α} {a : Nat} {d : Array α} (h : P2 lt bs l a d) (hb : a + 2 * bs ≤ l.length) : ∃ X u v Y, d = (X ++ u ++ v ++ Y).toArray ∧ a = X.length ∧ a + bs = a + u.length ∧ a + 2 * bs = a + bs + v.length ∧ Srt lt u ∧ Srt lt v ∧ P2 lt bs l (a + 2 * bs) (X ++ mg lt u v ++ Y).toArray := by
  obtain ⟨h0, h1, ⟨c, h2⟩, rfl⟩ := h
  have hl1 : ((l.drop a).take bs).length = bs := by simp; omega
  have hl2 : (((l.drop a).drop bs).take bs).length = bs := by simp; omega
  have ed : l.drop a = (l.drop a).take bs ++ (((l.drop a).drop bs).take bs ++ l.drop (a + 2 * bs)) := by
    conv => lhs; rw [← List.take_append_drop bs (l.drop a), ← List.take_append_drop bs ((l.drop a).drop bs), List.drop_drop, List.drop_drop]
    rw [show a + bs + bs = a + 2 * bs by omega, List.drop_drop]
  refine ⟨cs lt (2 * bs) (l.take a), insS lt ((l.drop a).take bs), insS lt (((l.drop a).drop bs).take bs), cs lt bs (l.drop (a + 2 * bs)), ?_, ?_, ?_, ?_, srt_insS lt hO _, srt_insS lt hO _, h0, hb, ⟨c + 1, by rw [Nat.mul_succ]; omega⟩, ?_⟩
  · have e : cs lt bs (l.drop a) = insS lt ((l.drop a).take bs) ++ (insS lt (((l.drop a).drop bs).take bs) ++ cs lt bs (l.drop (a + 2 * bs))) := by
      conv => lhs; rw [ed]
      rw [cs_append lt bs h0 1 _ _ (by omega), cs_append lt bs h0 1 _ _ (by omega), cs_short lt bs _ h0 (by omega), cs_short lt bs _ h0 (by omega)]
    rw [e]; simp
  · rw [cs_length lt (2 * bs) (by omega) _ _ (Nat.le_refl _)]; simp; omega
  · rw [insS_length, hl1]
  · rw [insS_length, hl2]; omega
  · have e : l.take (a + 2 * bs) = l.take a ++ ((l.drop a).take bs ++ ((l.drop a).drop bs).take bs) := by
      rw [List.take_add]
      congr 1
      rw [show 2 * bs = bs + bs by omega, List.take_add]
    rw [e, cs_append lt (2 * bs) (by omega) c _ _ (by simp; omega), cs_short lt (2 * bs) ((l.drop a).take bs ++ ((l.drop a).drop bs).take bs) (by omega) (by rw [List.length_append, hl1, hl2]; omega), insS_append lt hO]
theorem P2.last (hO : SWO lt) {bs : Nat} {l : List α} {a : Nat} {d : Array α} (h : P2 lt bs l a d) (hb : l.length < a + 2 * bs) (ha : a + bs < l.length) : ∃ X u v Y, d = (X ++ u ++ v ++ Y).toArray ∧ a = X.length ∧ a + bs = a + u.length ∧ l.length = a + bs + v.length ∧ Srt lt u ∧ Srt lt v ∧ (X ++ mg lt u v ++ Y).toArray = (cs lt (2 * bs) l).toArray := by
  obtain ⟨h0, h1, ⟨c, h2⟩, rfl⟩ := h
  have hl1 : ((l.drop a).take bs).length = bs := by simp; omega
  have ed : l.drop a = (l.drop a).take bs ++ (l.drop a).drop bs := (List.take_append_drop _ _).symm
  refine ⟨cs lt (2 * bs) (l.take a), insS lt ((l.drop a).take bs), insS lt ((l.drop a).drop bs), [], ?_, ?_, ?_, ?_, srt_insS lt hO _, srt_insS lt hO _, ?_⟩
  · have e : cs lt bs (l.drop a) = insS lt ((l.drop a).take bs) ++ insS lt ((l.drop a).drop bs) := by
      conv => lhs; rw [ed]
      rw [cs_append lt bs h0 1 _ _ (by omega), cs_short lt bs _ h0 (by omega), cs_short lt bs _ h0 (by simp; omega)]
    rw [e]; simp
  · rw [cs_length lt (2 * bs) (by omega) _ _ (Nat.le_refl _)]; simp; omega
  · rw [insS_length, hl1]
  · rw [insS_length]; simp; omega
  · have e := cs_append lt (2 * bs) (by omega) c (l.take a) (l.drop a) (by simp; omega)
    rw [List.take_append_drop, cs_short lt (2 * bs) (l.drop a) (by omega) (by simp; omega)] at e
    rw [e, ← insS_append lt hO, ← ed]; simp
theorem P2.done {bs : Nat} {l : List α} {a : Nat} {d : Array α} (h : P2 lt bs l a d) (ha : ¬ a + bs < l.length) : d = (cs lt (2 * bs) l).toArray := by
  obtain ⟨h0, h1, ⟨c, h2⟩, rfl⟩ := h
  have e := cs_append lt (2 * bs) (by omega) c (l.take a) (l.drop a) (by simp; omega)
  rw [List.take_append_drop, cs_short lt (2 * bs) (l.drop a) (by omega) (by simp; omega)] at e
  rw [e, cs_short lt bs (l.drop a) h0 (by simp; omega)]
end
end Go.Proofs.YtgjooigolgdocaaGreatDoor

/- Cookies: cmp.Compare and cmp.Or at ints. -/
namespace Go.Proofs.YtgjooigolgdocaaGreatDoor
set_option linter.unusedVariables false
set_option linter.unusedSimpArgs false
open Go.RowKit

def cmpI (p q : Int) : Int := if p < q then -1 else if q < p then 1 else 0
def orI (p q : Int) : Int := if p = 0 then q else p
theorem isnan_any (p : Int) (w : World) : Calls Tryz.prog 96 #[.int .i64 p] w fun e w' => e = .returned (.bool false) ∧ w = w' := by
  go_enter Tryz.func96, Tryz.ntmps96
  go_wp2_with fail
  go_ret
  exact ⟨rfl, rfl⟩
theorem compare_any (p q : Int) (R : Int) (hR : cmpI p q = R) (w : World) : Calls Tryz.prog 64 #[.int .i64 p, .int .i64 q] w fun e w' => e = .returned (.int .i64 R) ∧ w = w' := by
  have CN := Lib.hid (fun p w => isnan_any p w)
  unfold cmpI at hR
  by_cases h1 : p < q
  · rw [if_pos h1] at hR
    have HR := Lib.hid hR
    clear hR
    go_enter Tryz.func64, Tryz.ntmps64
    go_wp2_with (go_at_call 96; with_reducible refine (CN.out _ _).mono ?_; rintro x w1 ⟨rfl, rfl⟩)
    go_ret
    exact ⟨ret_int HR.out, rfl⟩
  · rw [if_neg h1] at hR
    by_cases h2 : q < p
    · rw [if_pos h2] at hR
      have HR := Lib.hid hR
      clear hR
      go_enter Tryz.func64, Tryz.ntmps64
      go_wp2_with (go_at_call 96; with_reducible refine (CN.out _ _).mono ?_; rintro x w1 ⟨rfl, rfl⟩)
      go_ret
      exact ⟨ret_int HR.out, rfl⟩
    · rw [if_neg h2] at hR
      have HR := Lib.hid hR
      clear hR
      go_enter Tryz.func64, Tryz.ntmps64
      go_wp2_with (go_at_call 96; with_reducible refine (CN.out _ _).mono ?_; rintro x w1 ⟨rfl, rfl⟩)
      go_ret
      exact ⟨ret_int HR.out, rfl⟩
theorem or_any (p q : Int) (b : Nat) (w : World) (h0 : w.cell? ⟨b, 0, none⟩ = some (.int .i64 p)) (h1 : w.cell? ⟨b, 1, none⟩ = some (.int .i64 q)) (R : Int) (hR : orI p q = R) :
    Calls Tryz.prog 63 #[.slice (some ⟨b, 0, none⟩) 2 2] w fun e w' => e = .returned (.int .i64 R) ∧ w = w' := by
  unfold orI at hR
  by_cases hp : p = 0
  · subst hp
    rw [if_pos rfl] at hR
    by_cases hq : q = 0
    · subst hq hR
      go_enter Tryz.func63, Tryz.ntmps63
      go_wp2_with fail
      refine wp_loop_rounds 3 ?_
      rw [rounds_succ]
      go_wp2_with fail
      rw [rounds_succ]
      go_wp2_with fail
      rw [rounds_succ]
      go_wp2_with fail
      go_ret
      exact ⟨rfl, rfl⟩
    · have hq1 : ((q : Int) != 0) = true := bne_iff_ne.2 hq
      subst hR
      clear hq
      go_enter Tryz.func63, Tryz.ntmps63
      go_wp2_with fail
      refine wp_loop_rounds 2 ?_
      rw [rounds_succ]
      go_wp2_with fail
      rw [rounds_succ]
      go_wp2_with fail
      go_ret
      exact ⟨rfl, rfl⟩
  · rw [if_neg hp] at hR
    have hp1 : ((p : Int) != 0) = true := bne_iff_ne.2 hp
    subst hR
    clear hp
    go_enter Tryz.func63, Tryz.ntmps63
    go_wp2_with fail
    refine wp_loop_rounds 1 ?_
    rw [rounds_succ]
    go_wp2_with fail
    go_ret
    exact ⟨rfl, rfl⟩
end Go.Proofs.YtgjooigolgdocaaGreatDoor

/- Cookies: the order in which they are sent. -/
namespace Go.Proofs.YtgjooigolgdocaaGreatDoor
set_option linter.unusedVariables false
set_option linter.unusedSimpArgs false
open Go.RowKit Go.Sort

def cmpC (x y : Ck) : Int := orI (cmpI y.p.size x.p.size) (cmpI x.cr y.cr)
def ltC (x y : Ck) : Bool := decide (cmpC x y < 0)
theorem ltC_iff (x y : Ck) : ltC x y = true ↔ y.p.size < x.p.size ∨ (y.p.size = x.p.size ∧ x.cr < y.cr) := by
  unfold ltC cmpC orI cmpI
  rw [decide_eq_true_eq]
  by_cases h1 : (y.p.size : Int) < x.p.size
  · rw [if_pos h1, if_neg (by decide)]
    exact ⟨fun _ => .inl (by omega), fun _ => by decide⟩
  · by_cases h2 : (x.p.size : Int) < y.p.size
    · rw [if_neg h1, if_pos h2, if_neg (by decide)]
      exact ⟨fun h => absurd h (by decide), fun h => by omega⟩
    · rw [if_neg h1, if_neg h2, if_pos rfl]
      by_cases h3 : x.cr < y.cr
      · rw [if_pos h3]; exact ⟨fun _ => .inr ⟨by omega, h3⟩, fun _ => by decide⟩
      · rw [if_neg h3]
        by_cases h4 : y.cr < x.cr
        · rw [if_pos h4]; exact ⟨fun h => absurd h (by decide), fun h => by omega⟩
        · rw [if_neg h4]; exact ⟨fun h => absurd h (by decide), fun h => by omega⟩
theorem ltC_not (x y : Ck) : ltC x y = false ↔ ¬ (y.p.size < x.p.size ∨ (y.p.size = x.p.size ∧ x.cr < y.cr)) := by
  rw [← ltC_iff, Bool.not_eq_true]
theorem swoC : SWO ltC where
  irrefl x := by rw [ltC_not]; omega
  trans x y z h1 h2 := by rw [ltC_iff] at *; omega
  ntrans x y z h1 h2 := by rw [ltC_not] at *; omega
instance ckInhabited : Inhabited Ck := ⟨ck0⟩
theorem brq {B : Nat} {w0 w1 : World} (hb : Below B w0 w1) : ∀ b o, b < B → w1.cell? ⟨b, o, none⟩ = w0.cell? ⟨b, o, none⟩ := fun b o h => hb.cell (p := ⟨b, o, none⟩) h
def Q4 (X Y : Nat) (x y : Ck) (W w' : World) : Prop := w'.cell? ⟨Y, 3, none⟩ = some (.string y.p) ∧ w'.cell? ⟨X, 3, none⟩ = some (.string x.p) ∧ w'.cell? ⟨X, 8, none⟩ = some (.int .i64 x.cr) ∧ w'.cell? ⟨Y, 8, none⟩ = some (.int .i64 y.cr) ∧ Below W.heap.size W w'
theorem q4_mk {X Y : Nat} {x y : Ck} {W w' : World} (hX : AtL W X (ckL x)) (hY : AtL W Y (ckL y)) (hb : Below W.heap.size W w') : Q4 X Y x y W w' :=
  ⟨(brq hb _ _ hY.lt).trans (hY.c 3 rfl), (brq hb _ _ hX.lt).trans (hX.c 3 rfl), (brq hb _ _ hX.lt).trans (hX.c 8 rfl), (brq hb _ _ hY.lt).trans (hY.c 8 rfl), hb⟩
theorem q4_below {X Y : Nat} {x y : Ck} {W w' : World} (h : Q4 X Y x y W w') : Below W.heap.size W w' := h.2.2.2.2
theorem cmp_is (x y : Ck) (R : Int) (hR : cmpC x y = R) (W : World) :
    Calls Tryz.prog 62 #[ckA x, ckA y] W fun e W' => e = .returned (.int .i64 R) ∧ Below W.heap.size W W' := by
  obtain ⟨R1, h1⟩ : ∃ R1, cmpI y.p.size x.p.size = R1 := ⟨_, rfl⟩
  obtain ⟨R2, h2⟩ : ∃ R2, cmpI x.cr y.cr = R2 := ⟨_, rfl⟩
  have hO : orI R1 R2 = R := by rw [← h1, ← h2]; exact hR
  have C1 := Lib.hid (fun w => compare_any y.p.size x.p.size R1 h1 w)
  have C2 := Lib.hid (fun w => compare_any x.cr y.cr R2 h2 w)
  have CO := Lib.hid (fun b w h0 h1 => or_any R1 R2 b w h0 h1 R hO)
  have hb0 : Below W.heap.size W ((W.alloc (.cells (ckL x).toArray 29)).alloc (.cells (ckL y).toArray 29)) := ((Below.refl _ W).alloc (Nat.le_refl _) _).alloc (by simp) _
  have X0 := (AtL.new W (ckL x) 29).alloc (.cells (ckL y).toArray 29)
  have Y0 := AtL.new (W.alloc (.cells (ckL x).toArray 29)) (ckL y) 29
  rw [show (W.alloc (.cells (ckL x).toArray 29)).heap.size = W.heap.size + 1 by simp] at Y0
  clear hR h1 h2 hO
  go_enter Tryz.func62, Tryz.ntmps62
  go_wp2_with fail
  obtain ⟨w1, hw1⟩ : ∃ w1 : World, (W.alloc (.cells (ckL x).toArray 29)).alloc (.cells (ckL y).toArray 29) = w1 := ⟨_, rfl⟩
  obtain ⟨Y, hY⟩ : ∃ Y, W.heap.size + 1 = Y := ⟨_, rfl⟩
  obtain ⟨X, hX⟩ : ∃ X, W.heap.size = X := ⟨_, rfl⟩
  rw [hw1] at hb0 X0 Y0
  rw [hY] at Y0
  rw [hX] at X0
  rw [hw1, hY, hX]
  have HX := Lib.hid hX
  clear hw1 hY hX
  have S1 := q4_mk X0 Y0 (Below.refl _ w1)
  go_region_held3 (fun w' => w'.cell? ⟨Y, 3, none⟩ = some (.string y.p) ∧ w'.cell? ⟨X, 3, none⟩ = some (.string x.p) ∧ w'.cell? ⟨X, 8, none⟩ = some (.int .i64 x.cr) ∧ w'.cell? ⟨Y, 8, none⟩ = some (.int .i64 y.cr) ∧ Below w1.heap.size w1 w') (first | exact q4_mk X0 Y0 (Below.refl _ w1).drew | exact q4_mk X0 Y0 ((Below.refl _ w1).drew.alloc (Nat.le_refl _) _) | exact q4_mk X0 Y0 (((Below.refl _ w1).drew.alloc (Nat.le_refl _) _).drew) | go_keep)
    (first
      | (go_at_call 64; first | (with_reducible refine (C1.out _).mono ?_; rintro x w2 ⟨rfl, rfl⟩) | (with_reducible refine (C2.out _).mono ?_; rintro x w2 ⟨rfl, rfl⟩))
      | (go_at_call 63; with_reducible refine (CO.out _ _ (by simp) (by simp)).mono ?_; rintro x w3 ⟨rfl, rfl⟩))
  go_wp2_with fail
  go_ret
  exact ⟨rfl, hb0.trans (((Below.refl _ w1).alloc (Nat.le_refl _) _).drew.mono hb0.size)⟩
end Go.Proofs.YtgjooigolgdocaaGreatDoor

/- Cookies: a row as an array; insertion sort. -/
namespace Go.Proofs.YtgjooigolgdocaaGreatDoor
set_option linter.unusedVariables false
set_option linter.unusedSimpArgs false
open Go.RowKit Go.Sort

/-- an owned row of n cookies that reads as an array -/
def RowC (W : World) (B g n cap : Nat) (d : Array Ck) : Prop := d.size = n ∧ W.ownsRow B 29 9 (.slice (some ⟨g, 0, none⟩) n cap) n (cellsK ckL d.toList)
theorem RowC.size {W : World} {B g n cap : Nat} {d : Array Ck} (h : RowC W B g n cap d) : d.size = n := h.1
theorem RowC.lt {W : World} {B g n cap : Nat} {d : Array Ck} (h : RowC W B g n cap d) : g < W.heap.size := by
  rcases h.2.2 with ⟨h2, _⟩ | ⟨g', cap', cur, hv, hg, hh, hc, hm, hs, ht⟩
  · cases h2
  · injection hv with e1 e2 e3
    injection e1 with e1
    injection e1 with e1
    subst e1
    exact (Array.getElem?_eq_some_iff.1 hh).1
theorem RowC.base {W : World} {B g n cap : Nat} {d : Array Ck} (h : RowC W B g n cap d) : B ≤ g := by
  rcases h.2.2 with ⟨h2, _⟩ | ⟨g', cap', cur, hv, hg, hh, hc, hm, hs, ht⟩
  · cases h2
  · injection hv with e1 e2 e3
    injection e1 with e1
    injection e1 with e1
    subst e1; exact hg
theorem RowC.c {W : World} {B g n cap : Nat} {d : Array Ck} (h : RowC W B g n cap d) (i : Nat) (hi : i < n) (j : Nat) {u : Value} (hu : (ckL d[i]!)[j]? = some u) : W.cell? ⟨g, i * 9 + j, none⟩ = some u := by
  obtain ⟨h1, h2⟩ := h
  have hi2 : i < d.toList.length := by rw [Array.length_toList]; omega
  obtain ⟨a, cap', hv, hc, hm, ha⟩ := own_reads h2
  injection hv with e1 e2 e3
  rcases ha with ⟨rfl, h3⟩ | ⟨g', rfl, hg, hgw, hcell⟩
  · omega
  · injection e1 with e1
    injection e1 with e1
    subst e1
    refine hcell _ _ (cellsK_get ckL_len d.toList i hi2 j u ?_)
    rw [Array.getElem_toList]
    rw [getElem!_pos d i (by omega)] at hu
    exact hu
theorem RowC.f {W : World} {B g n cap : Nat} {d : Array Ck} (h : RowC W B g n cap d) (j : Nat) : W.frozen? ⟨g, j, none⟩ = false := own_free h.2 j
theorem RowC.next {W W' : World} {B g n cap : Nat} {d : Array Ck} (h : RowC W B g n cap d) (hb : Below W.heap.size W W') : RowC W' B g n cap d := ⟨h.1, own_below h.2 hb (Nat.le_refl _)⟩
theorem RowC.put {W : World} {B g n cap : Nat} {d : Array Ck} (h : RowC W B g n cap d) (i : Nat) (hi : i < n) (c : Ck) : RowC (put9 W g (i * 9) c) B g n cap (d.setIfInBounds i c) := by
  obtain ⟨h1, h2⟩ := h
  subst h1
  have h3 : W.ownsRow B 29 9 (.slice (some ⟨g, 0, none⟩) d.toList.length cap) d.toList.length (cellsK ckL d.toList) := h2
  have h4 := own_put9 h3 i (by rw [Array.length_toList]; exact hi) c
  refine ⟨by simp, ?_⟩
  rw [Array.toList_setIfInBounds]
  exact h4
theorem RowC.swap {W : World} {B g n cap : Nat} {d : Array Ck} (h : RowC W B g n cap d) (i j : Nat) (hi : i < n) (hj : j < n) : RowC (put9 (put9 W g (i * 9) d[j]!) g (j * 9) d[i]!) B g n cap (swp d i j) := (h.put i hi d[j]!).put j hj d[i]!
theorem BelowBut.put9 {B b : Nat} {W w : World} (h : BelowBut B b W w) (o : Nat) (c : Ck) : BelowBut B b W (put9 w b o c) :=
  ((((((((h.setCell ⟨b, o, none⟩ (Or.inl rfl) _).setCell ⟨b, o + 1, none⟩ (Or.inl rfl) _).setCell ⟨b, o + 2, none⟩ (Or.inl rfl) _).setCell ⟨b, o + 3, none⟩ (Or.inl rfl) _).setCell ⟨b, o + 4, none⟩ (Or.inl rfl) _).setCell ⟨b, o + 5, none⟩ (Or.inl rfl) _).setCell ⟨b, o + 6, none⟩ (Or.inl rfl) _).setCell ⟨b, o + 7, none⟩ (Or.inl rfl) _).setCell ⟨b, o + 8, none⟩ (Or.inl rfl) _
/-- two cookies of a row, as a drawn region asks for them -/
def S18 (g o t : Nat) (x y : Ck) (W w' : World) : Prop := w'.cell? ⟨g, o * 9, none⟩ = some (.string x.n) ∧ w'.cell? ⟨g, o * 9 + 1, none⟩ = some (.string x.v) ∧ w'.cell? ⟨g, o * 9 + 2, none⟩ = some (.string x.d) ∧ w'.cell? ⟨g, o * 9 + 3, none⟩ = some (.string x.p) ∧ w'.cell? ⟨g, o * 9 + 4, none⟩ = some (.bool x.ho) ∧ w'.cell? ⟨g, o * 9 + 5, none⟩ = some (.bool x.se) ∧ w'.cell? ⟨g, o * 9 + 6, none⟩ = some (.bool x.hi) ∧ w'.cell? ⟨g, o * 9 + 7, none⟩ = some (.int .i64 x.ex) ∧ w'.cell? ⟨g, o * 9 + 8, none⟩ = some (.int .i64 x.cr) ∧ w'.cell? ⟨g, t * 9, none⟩ = some (.string y.n) ∧ w'.cell? ⟨g, t * 9 + 1, none⟩ = some (.string y.v) ∧ w'.cell? ⟨g, t * 9 + 2, none⟩ = some (.string y.d) ∧ w'.cell? ⟨g, t * 9 + 3, none⟩ = some (.string y.p) ∧ w'.cell? ⟨g, t * 9 + 4, none⟩ = some (.bool y.ho) ∧ w'.cell? ⟨g, t * 9 + 5, none⟩ = some (.bool y.se) ∧ w'.cell? ⟨g, t * 9 + 6, none⟩ = some (.bool y.hi) ∧ w'.cell? ⟨g, t * 9 + 7, none⟩ = some (.int .i64 y.ex) ∧ w'.cell? ⟨g, t * 9 + 8, none⟩ = some (.int .i64 y.cr) ∧ Below W.heap.size W w'
theorem s18_mk {g o t : Nat} {x y : Ck} {W w' : World} (hg : g < W.heap.size) (hx : ∀ q u, (ckL x)[q]? = some u → W.cell? ⟨g, o * 9 + q, none⟩ = some u) (hy : ∀ q u, (ckL y)[q]? = some u → W.cell? ⟨g, t * 9 + q, none⟩ = some u) (hb : Below W.heap.size W w') : S18 g o t x y W w' := by
  have kx := fun q u hu => (brq hb g (o * 9 + q) hg).trans (hx q u hu)
  have ky := fun q u hu => (brq hb g (t * 9 + q) hg).trans (hy q u hu)
  exact ⟨kx 0 _ rfl, kx 1 _ rfl, kx 2 _ rfl, kx 3 _ rfl, kx 4 _ rfl, kx 5 _ rfl, kx 6 _ rfl, kx 7 _ rfl, kx 8 _ rfl, ky 0 _ rfl, ky 1 _ rfl, ky 2 _ rfl, ky 3 _ rfl, ky 4 _ rfl, ky 5 _ rfl, ky 6 _ rfl, ky 7 _ rfl, ky 8 _ rfl, hb⟩
theorem s18_below {g o t : Nat} {x y : Ck} {W w' : World} (h : S18 g o t x y W w') : Below W.heap.size W w' := h.2.2.2.2.2.2.2.2.2.2.2.2.2.2.2.2.2.2
set_option maxRecDepth 20000 in
set_option maxHeartbeats 8000000 in
theorem ins_any (B g n cap a b : Nat) (d : Array Ck) (W : World) (h : RowC W B g n cap d) (hab : a ≤ b) (hb : b ≤ n) (hn : n ≤ 1000) :
    Calls Tryz.prog 114 #[.slice (some ⟨g, 0, none⟩) n cap, .int .i64 a, .int .i64 b, .func (.func 62) #[] #[]] W fun e W' => e = .returned (.tuple #[]) ∧ RowC W' B g n cap (insertionSort ltC d a b) ∧ BelowBut W.heap.size g W W' := by
  have CM := Lib.hid (fun (x y : Ck) (R : Int) (hR : cmpC x y = R) (W : World) => cmp_is x y R hR W)
  have hg := h.lt
  have HR0 := Lib.hid h
  clear h
  go_enter Tryz.func114, Tryz.ntmps114
  go_wp2_with fail
  go_loopw [8] (fun vi wr => ∃ (i : Nat) (dk : Array Ck), vi = .int .i64 i ∧ a < i ∧ i ≤ b + 1 ∧ RowC wr B g n cap dk ∧ BelowBut W.heap.size g W wr ∧ insOuter ltC a b i dk = insOuter ltC a b (a + 1) d) (fun vi _ => b + 1 - (intOf vi).toNat)
  case atStart => exact ⟨a + 1, d, by go_num, by omega, by omega, HR0.out, BelowBut.refl _ _ _, rfl⟩
  case round =>
    obtain ⟨i, dk, rfl, hai, hib, hrk, hbk, hO⟩ := hrel
    have HO := Lib.hid hO
    clear hO
    by_cases hlt : i < b
    · have hlz : (i : Int) < (b : Int) := by omega
      go_wp2_with fail
      go_loopw [9] (fun vj wr2 => ∃ (j : Nat) (dj : Array Ck), vj = .int .i64 j ∧ a ≤ j ∧ j ≤ i ∧ RowC wr2 B g n cap dj ∧ BelowBut W.heap.size g W wr2 ∧ insInner ltC a j dj = insInner ltC a i dk) (fun vj _ => (intOf vj).toNat)
      case atStart => exact ⟨i, dk, rfl, by omega, Nat.le_refl _, hrk, hbk, rfl⟩
      case round =>
        obtain ⟨j, dj, rfl, haj, hji, hrj, hbj, hI⟩ := hrel
        have HI := Lib.hid hI
        clear hI
        have out : (j ≤ a ∨ ltC dj[j]! dj[j - 1]! = false) → insOuter ltC a b (i + 1) dj = insOuter ltC a b (a + 1) d := fun hs => by
          rw [← HO.out, insOuter_go _ _ _ _ _ hlt, ← HI.out, insInner_stop _ _ _ _ hs]
        have OUT := Lib.hid out
        clear out
        by_cases hja : a < j
        · have hjz : (a : Int) < (j : Int) := by omega
          obtain ⟨k, hk⟩ : ∃ k, j - 1 = k := ⟨_, rfl⟩
          have hjn : j < n := by omega
          have hkn : k < n := by omega
          have hkj : k < j := by omega
          obtain ⟨x, hx⟩ : ∃ x, dj[j]! = x := ⟨_, rfl⟩
          obtain ⟨y, hy⟩ : ∃ y, dj[k]! = y := ⟨_, rfl⟩
          have cx : ∀ q u, (ckL x)[q]? = some u → wr.cell? ⟨g, j * 9 + q, none⟩ = some u := fun q u hu => hrj.c j hjn q (by rw [hx]; exact hu)
          have cy : ∀ q u, (ckL y)[q]? = some u → wr.cell? ⟨g, k * 9 + q, none⟩ = some u := fun q u hu => hrj.c k hkn q (by rw [hy]; exact hu)
          have hgr := hrj.lt
          obtain ⟨R, hRR⟩ : ∃ R, cmpC x y = R := ⟨_, rfl⟩
          have hL : ltC dj[j]! dj[j - 1]! = decide (R < 0) := by rw [hk, hx, hy, ← hRR]; rfl
          have CMR := Lib.hid (fun W => CM.out x y R hRR W)
          have HL := Lib.hid hL
          have CX := Lib.hid cx
          have CY := Lib.hid cy
          have hjlz : (j : Int) < (n : Int) := by omega
          have hklz : (k : Int) < (n : Int) := by omega
          have hak : a ≤ k := by omega
          have hs1 : (j : Int) - 1 = (k : Int) := by omega
          have hw1 : IntKind.i64.wrap ((j : Int) - 1) = (k : Int) := by rw [IntWalk.i64_in _ (by omega)]; omega
          have hw2 : IntKind.i64.wrap (k : Int) = (k : Int) := by rw [IntWalk.i64_in _ (by omega)]
          have x0 := cx 0 _ rfl
          have x1 := cx 1 _ rfl
          have x2 := cx 2 _ rfl
          have x3 := cx 3 _ rfl
          have x4 := cx 4 _ rfl
          have x5 := cx 5 _ rfl
          have x6 := cx 6 _ rfl
          have x7 := cx 7 _ rfl
          have x8 := cx 8 _ rfl
          have y0 := cy 0 _ rfl
          have y1 := cy 1 _ rfl
          have y2 := cy 2 _ rfl
          have y3 := cy 3 _ rfl
          have y4 := cy 4 _ rfl
          have y5 := cy 5 _ rfl
          have y6 := cy 6 _ rfl
          have y7 := cy 7 _ rfl
          have y8 := cy 8 _ rfl
          simp only [Nat.add_zero] at x0 y0
          have HX := Lib.hid hx
          have HY := Lib.hid hy
          have HK := Lib.hid hk
          clear hx hy hk hL hRR cx cy
          by_cases hneg : R < 0
          · go_wp2_with fail
            go_region_held3 (fun w' => w'.cell? ⟨g, j * 9, none⟩ = some (.string x.n) ∧ w'.cell? ⟨g, j * 9 + 1, none⟩ = some (.string x.v) ∧ w'.cell? ⟨g, j * 9 + 2, none⟩ = some (.string x.d) ∧ w'.cell? ⟨g, j * 9 + 3, none⟩ = some (.string x.p) ∧ w'.cell? ⟨g, j * 9 + 4, none⟩ = some (.bool x.ho) ∧ w'.cell? ⟨g, j * 9 + 5, none⟩ = some (.bool x.se) ∧ w'.cell? ⟨g, j * 9 + 6, none⟩ = some (.bool x.hi) ∧ w'.cell? ⟨g, j * 9 + 7, none⟩ = some (.int .i64 x.ex) ∧ w'.cell? ⟨g, j * 9 + 8, none⟩ = some (.int .i64 x.cr) ∧ w'.cell? ⟨g, k * 9, none⟩ = some (.string y.n) ∧ w'.cell? ⟨g, k * 9 + 1, none⟩ = some (.string y.v) ∧ w'.cell? ⟨g, k * 9 + 2, none⟩ = some (.string y.d) ∧ w'.cell? ⟨g, k * 9 + 3, none⟩ = some (.string y.p) ∧ w'.cell? ⟨g, k * 9 + 4, none⟩ = some (.bool y.ho) ∧ w'.cell? ⟨g, k * 9 + 5, none⟩ = some (.bool y.se) ∧ w'.cell? ⟨g, k * 9 + 6, none⟩ = some (.bool y.hi) ∧ w'.cell? ⟨g, k * 9 + 7, none⟩ = some (.int .i64 y.ex) ∧ w'.cell? ⟨g, k * 9 + 8, none⟩ = some (.int .i64 y.cr) ∧ Below wr.heap.size wr w') (first | exact s18_mk hgr CX.out CY.out (Below.refl _ wr).drew | exact s18_mk hgr CX.out CY.out ((Below.refl _ wr).drew.trans hb1) | go_keep)
              (first | (go_at_call 62; go_loud (with_reducible refine (CMR.out _).mono ?_); rintro e w1 ⟨rfl, hb1⟩))
            have hB1 := (Below.refl _ wr).drew.trans hb1
            have hr1 := hrj.next hB1
            have hbb1 := hbj.below hB1 hbj.size
            clear x0 x1 x2 x3 x4 x5 x6 x7 x8 y0 y1 y2 y3 y4 y5 y6 y7 y8
            have cx : ∀ q u, (ckL x)[q]? = some u → w1.cell? ⟨g, j * 9 + q, none⟩ = some u := fun q u hu => (brq hB1 _ _ hgr).trans (CX.out q u hu)
            have cy : ∀ q u, (ckL y)[q]? = some u → w1.cell? ⟨g, k * 9 + q, none⟩ = some u := fun q u hu => (brq hB1 _ _ hgr).trans (CY.out q u hu)
            have x0 := cx 0 _ rfl
            have x1 := cx 1 _ rfl
            have x2 := cx 2 _ rfl
            have x3 := cx 3 _ rfl
            have x4 := cx 4 _ rfl
            have x5 := cx 5 _ rfl
            have x6 := cx 6 _ rfl
            have x7 := cx 7 _ rfl
            have x8 := cx 8 _ rfl
            have y0 := cy 0 _ rfl
            have y1 := cy 1 _ rfl
            have y2 := cy 2 _ rfl
            have y3 := cy 3 _ rfl
            have y4 := cy 4 _ rfl
            have y5 := cy 5 _ rfl
            have y6 := cy 6 _ rfl
            have y7 := cy 7 _ rfl
            have y8 := cy 8 _ rfl
            simp only [Nat.add_zero] at x0 y0
            have fx0 := hr1.f (j * 9)
            have fx1 := hr1.f (j * 9 + 1)
            have fx2 := hr1.f (j * 9 + 2)
            have fx3 := hr1.f (j * 9 + 3)
            have fx4 := hr1.f (j * 9 + 4)
            have fx5 := hr1.f (j * 9 + 5)
            have fx6 := hr1.f (j * 9 + 6)
            have fx7 := hr1.f (j * 9 + 7)
            have fx8 := hr1.f (j * 9 + 8)
            have fy0 := hr1.f (k * 9)
            have fy1 := hr1.f (k * 9 + 1)
            have fy2 := hr1.f (k * 9 + 2)
            have fy3 := hr1.f (k * 9 + 3)
            have fy4 := hr1.f (k * 9 + 4)
            have fy5 := hr1.f (k * 9 + 5)
            have fy6 := hr1.f (k * 9 + 6)
            have fy7 := hr1.f (k * 9 + 7)
            have fy8 := hr1.f (k * 9 + 8)
            clear cx cy
            have hsw := hr1.swap j k hjn hkn
            rw [HX.out, HY.out] at hsw
            have hbs := (hbb1.put9 (j * 9) y).put9 (k * 9) x
            have HSW := Lib.hid hsw
            have HBS := Lib.hid hbs
            clear hsw hbs
            go_wp2_with fail
            go_region
            all_goals
              clear hw1 hw2
              go_wp2_with fail
              go_roundw
              case rel => exact ⟨k, swp dj j k, by first | rfl | (congr 1; omega), hak, by omega, HSW.out.next (Below.refl _ _).drew, HBS.out.below (Below.refl _ _).drew HBS.out.size, by rw [← HI.out, insInner_go ltC a j dj hja (by rw [HL.out]; exact decide_eq_true hneg), HK.out]⟩
              case measure => simp [intOf]; omega
          · have hneg' : decide (R < 0) = false := decide_eq_false hneg
            go_wp2_with fail
            go_region_held3 (fun w' => w'.cell? ⟨g, j * 9, none⟩ = some (.string x.n) ∧ w'.cell? ⟨g, j * 9 + 1, none⟩ = some (.string x.v) ∧ w'.cell? ⟨g, j * 9 + 2, none⟩ = some (.string x.d) ∧ w'.cell? ⟨g, j * 9 + 3, none⟩ = some (.string x.p) ∧ w'.cell? ⟨g, j * 9 + 4, none⟩ = some (.bool x.ho) ∧ w'.cell? ⟨g, j * 9 + 5, none⟩ = some (.bool x.se) ∧ w'.cell? ⟨g, j * 9 + 6, none⟩ = some (.bool x.hi) ∧ w'.cell? ⟨g, j * 9 + 7, none⟩ = some (.int .i64 x.ex) ∧ w'.cell? ⟨g, j * 9 + 8, none⟩ = some (.int .i64 x.cr) ∧ w'.cell? ⟨g, k * 9, none⟩ = some (.string y.n) ∧ w'.cell? ⟨g, k * 9 + 1, none⟩ = some (.string y.v) ∧ w'.cell? ⟨g, k * 9 + 2, none⟩ = some (.string y.d) ∧ w'.cell? ⟨g, k * 9 + 3, none⟩ = some (.string y.p) ∧ w'.cell? ⟨g, k * 9 + 4, none⟩ = some (.bool y.ho) ∧ w'.cell? ⟨g, k * 9 + 5, none⟩ = some (.bool y.se) ∧ w'.cell? ⟨g, k * 9 + 6, none⟩ = some (.bool y.hi) ∧ w'.cell? ⟨g, k * 9 + 7, none⟩ = some (.int .i64 y.ex) ∧ w'.cell? ⟨g, k * 9 + 8, none⟩ = some (.int .i64 y.cr) ∧ Below wr.heap.size wr w') (first | exact s18_mk hgr CX.out CY.out (Below.refl _ wr).drew | exact s18_mk hgr CX.out CY.out ((Below.refl _ wr).drew.trans hb1) | go_keep)
              (first | (go_at_call 62; go_loud (with_reducible refine (CMR.out _).mono ?_); rintro e w1 ⟨rfl, hb1⟩))
            have hB1 := (Below.refl _ wr).drew.trans hb1
            clear hw1 hw2
            go_wp2_with fail
            go_roundw
            case rel => exact ⟨i + 1, dj, by go_num, by omega, by omega, hrj.next hB1, hbj.below hB1 hbj.size, OUT.out (Or.inr (by rw [HL.out]; exact hneg'))⟩
            case measure => simp [intOf]; omega
        · have hd : decide ((a : Int) < (j : Int)) = false := decide_eq_false (by omega)
          go_wp2_with fail
          go_quiet (fail)
          go_wp2_with fail
          go_roundw
          case rel => exact ⟨i + 1, dj, by go_num, by omega, by omega, hrj.next (below_drewN (Below.refl _ wr) _), hbj.below (below_drewN (Below.refl _ wr) _) hbj.size, OUT.out (Or.inl (by omega))⟩
          case measure => simp [intOf]; omega
    · have hd : decide ((i : Int) < (b : Int)) = false := decide_eq_false (by omega)
      go_wp2_with fail
      go_end0
      exact ⟨rfl, by unfold insertionSort; rw [← HO.out, insOuter_stop _ _ _ _ _ hlt]; exact hrk, hbk⟩
end Go.Proofs.YtgjooigolgdocaaGreatDoor

/- Cookies: exchange of two blocks of a row, rotation. -/
namespace Go.Proofs.YtgjooigolgdocaaGreatDoor
set_option linter.unusedVariables false
set_option linter.unusedSimpArgs false
open Go.RowKit Go.Sort
theorem BelowBut.stepb {n n' g : Nat} {W w w' : World} (h : BelowBut n g W w) (k : BelowBut n' g w w') (hn : n ≤ n') : BelowBut n g W w' := ⟨k.os.trans h.os, k.tape.trans h.tape, k.output.trans h.output, Nat.le_trans h.size k.size, fun x hx hb => (k.block x (by omega) hb).trans (h.block x hx hb)⟩
set_option maxRecDepth 20000 in
set_option maxHeartbeats 8000000 in
theorem swr_any (B g n cap a b m : Nat) (X p M q Y : List Ck) (W : World) (h : RowC W B g n cap (X ++ p ++ M ++ q ++ Y).toArray) (hp : p.length = m) (hq : q.length = m) (ha : a = X.length) (hb : b = X.length + m + M.length) (hn : n ≤ 1000) :
    Calls Tryz.prog 157 #[.slice (some ⟨g, 0, none⟩) n cap, .int .i64 a, .int .i64 b, .int .i64 m, .func (.func 62) #[] #[]] W fun e W' => e = .returned (.tuple #[]) ∧ RowC W' B g n cap (X ++ q ++ M ++ p ++ Y).toArray ∧ BelowBut W.heap.size g W W' := by
  have hsz : X.length + m + M.length + m + Y.length = n := by have := h.size; simp at this; omega
  have han : a + m ≤ n := by omega
  have hbn : b + m ≤ n := by omega
  have hamb : a + m ≤ b := by omega
  have hg := h.lt
  rw [← srA_zero X p M q Y] at h
  have HS := Lib.hid (fun i (hi : i < m) => srA_step X p M q Y m i a b hp hq hi ha hb)
  have HE := Lib.hid (srA_end X p M q Y m hp hq)
  have HR0 := Lib.hid h
  clear h hsz hp hq ha hb
  go_enter Tryz.func157, Tryz.ntmps157
  go_wp2_with fail
  go_loopw [10] (fun vi wr => ∃ i : Nat, vi = .int .i64 i ∧ i ≤ m ∧ RowC wr B g n cap (srA X p M q Y i) ∧ BelowBut W.heap.size g W wr) (fun vi _ => m - (intOf vi).toNat)
  case atStart => exact ⟨0, rfl, Nat.zero_le _, HR0.out, BelowBut.refl _ _ _⟩
  case round =>
    obtain ⟨i, rfl, him, hrk, hbk⟩ := hrel
    by_cases hlt : i < m
    · have hiz : (i : Int) < (m : Int) := by omega
      obtain ⟨s, hs⟩ : ∃ s, a + i = s := ⟨_, rfl⟩
      obtain ⟨t, ht⟩ : ∃ t, b + i = t := ⟨_, rfl⟩
      have hsn : s < n := by omega
      have htn : t < n := by omega
      have hslt : s < t := by omega
      have hsw := hrk.swap s t hsn htn
      have hst := HS.out i hlt
      rw [hs, ht] at hst
      rw [hst] at hsw
      obtain ⟨x, hx⟩ : ∃ x, (srA X p M q Y i)[s]! = x := ⟨_, rfl⟩
      obtain ⟨y, hy⟩ : ∃ y, (srA X p M q Y i)[t]! = y := ⟨_, rfl⟩
      rw [hx, hy] at hsw
      have cx : ∀ r u, (ckL x)[r]? = some u → wr.cell? ⟨g, s * 9 + r, none⟩ = some u := fun r u hu => hrk.c s hsn r (by rw [hx]; exact hu)
      have cy : ∀ r u, (ckL y)[r]? = some u → wr.cell? ⟨g, t * 9 + r, none⟩ = some u := fun r u hu => hrk.c t htn r (by rw [hy]; exact hu)
      have fx : ∀ r, wr.frozen? ⟨g, s * 9 + r, none⟩ = false := fun r => hrk.f _
      have fy : ∀ r, wr.frozen? ⟨g, t * 9 + r, none⟩ = false := fun r => hrk.f _
      clear hx hy hst
      have x0 := cx 0 _ rfl
      have x1 := cx 1 _ rfl
      have x2 := cx 2 _ rfl
      have x3 := cx 3 _ rfl
      have x4 := cx 4 _ rfl
      have x5 := cx 5 _ rfl
      have x6 := cx 6 _ rfl
      have x7 := cx 7 _ rfl
      have x8 := cx 8 _ rfl
      have y0 := cy 0 _ rfl
      have y1 := cy 1 _ rfl
      have y2 := cy 2 _ rfl
      have y3 := cy 3 _ rfl
      have y4 := cy 4 _ rfl
      have y5 := cy 5 _ rfl
      have y6 := cy 6 _ rfl
      have y7 := cy 7 _ rfl
      have y8 := cy 8 _ rfl
      simp only [Nat.add_zero] at x0 y0
      have fx0 := fx 0
      have fx1 := fx 1
      have fx2 := fx 2
      have fx3 := fx 3
      have fx4 := fx 4
      have fx5 := fx 5
      have fx6 := fx 6
      have fx7 := fx 7
      have fx8 := fx 8
      have fy0 := fy 0
      have fy1 := fy 1
      have fy2 := fy 2
      have fy3 := fy 3
      have fy4 := fy 4
      have fy5 := fy 5
      have fy6 := fy 6
      have fy7 := fy 7
      have fy8 := fy 8
      simp only [Nat.add_zero] at fx0 fy0
      have hbs := (hbk.put9 (s * 9) y).put9 (t * 9) x
      have hsz' : (s : Int) < (n : Int) := by omega
      have htz : (t : Int) < (n : Int) := by omega
      have hs1 : (a : Int) + (i : Int) = (s : Int) := by omega
      have ht1 : (b : Int) + (i : Int) = (t : Int) := by omega
      have hws : IntKind.i64.wrap ((a : Int) + i) = s := by rw [IntWalk.i64_in _ (by omega)]; omega
      have hwt : IntKind.i64.wrap ((b : Int) + i) = t := by rw [IntWalk.i64_in _ (by omega)]; omega
      have hws2 : IntKind.i64.wrap (s : Int) = s := IntWalk.i64_in _ (by omega)
      have hwt2 : IntKind.i64.wrap (t : Int) = t := IntWalk.i64_in _ (by omega)
      have HW := Lib.hid hsw
      have HB := Lib.hid hbs
      clear hsw hbs hs ht cx cy fx fy
      go_wp2_with fail
      go_region
      all_goals
        clear hws hwt hws2 hwt2 hs1 ht1
        go_wp2_with fail
        go_roundw
        case rel => exact ⟨i + 1, by go_num, by omega, HW.out.next (Below.refl _ _).drew, HB.out.below (Below.refl _ _).drew HB.out.size⟩
        case measure => simp [intOf]; omega
    · have hd : decide ((i : Int) < (m : Int)) = false := decide_eq_false (by omega)
      obtain rfl : i = m := by omega
      go_wp2_with fail
      go_end0
      exact ⟨rfl, by rw [← HE.out]; exact hrk, hbk⟩
set_option maxRecDepth 20000 in
set_option maxHeartbeats 8000000 in
theorem rot_any (B g n cap a m b : Nat) (X u v Y : List Ck) (W : World) (h : RowC W B g n cap (X ++ u ++ v ++ Y).toArray) (ha : a = X.length) (hm : m = a + u.length) (hb : b = m + v.length) (h1 : a < m) (h2 : m < b) (hn : n ≤ 1000) :
    Calls Tryz.prog 144 #[.slice (some ⟨g, 0, none⟩) n cap, .int .i64 a, .int .i64 m, .int .i64 b, .func (.func 62) #[] #[]] W fun e W' => e = .returned (.tuple #[]) ∧ RowC W' B g n cap (X ++ v ++ u ++ Y).toArray ∧ BelowBut W.heap.size g W W' := by
  have hsz : b + Y.length = n := by have := h.size; simp at this; omega
  have CS := Lib.hid (fun (a b m : Nat) (X p M q Y : List Ck) (W : World) (h : RowC W B g n cap (X ++ p ++ M ++ q ++ Y).toArray) (hp : p.length = m) (hq : q.length = m) (ha : a = X.length) (hb : b = X.length + m + M.length) => swr_any B g n cap a b m X p M q Y W h hp hq ha hb hn)
  have HR0 := Lib.hid h
  have HI := Lib.hid (rot_start X u v Y a m b ha hm hb h1 h2)
  obtain ⟨G, hG⟩ : ∃ G, (X ++ v ++ u ++ Y).toArray = G := ⟨_, rfl⟩
  rw [hG] at HI
  rw [hG]
  have hbn : b ≤ n := by omega
  clear h hsz ha hm hb hG
  go_enter Tryz.func144, Tryz.ntmps144
  go_wp2_with fail
  go_loopw [10, 11] (fun vi vj wr => ∃ (i j : Nat) (dk : Array Ck), vi = .int .i64 i ∧ vj = .int .i64 j ∧ i ≤ m ∧ m + j ≤ n ∧ 0 < i ∧ 0 < j ∧ RotI G m i j dk ∧ RowC wr B g n cap dk ∧ BelowBut W.heap.size g W wr) (fun vi vj _ => (intOf vi).toNat + (intOf vj).toNat)
  case atStart => exact ⟨m - a, b - m, _, by congr 1; omega, by congr 1; omega, by omega, by omega, by omega, by omega, HI.out, HR0.out, BelowBut.refl _ _ _⟩
  case round =>
    obtain ⟨i, j, dk, rfl, rfl, him, hjn, hi0, hj0, hI, hrk, hbk⟩ := hrel
    have HI := Lib.hid hI
    clear hI
    rcases Nat.lt_trichotomy i j with hij | hij | hij
    · obtain ⟨X, p, M, q, Y, hdk, hp, hq, hX, hM, hN⟩ := rot_lt HI.out hij
      subst hdk
      have CR := CS.out (m - i) (m + j - i) i X p M q Y wr hrk hp hq hX hM
      obtain ⟨s, hs⟩ : ∃ s, m - i = s := ⟨_, rfl⟩
      obtain ⟨t, ht⟩ : ∃ t, m + j - i = t := ⟨_, rfl⟩
      obtain ⟨r, hr⟩ : ∃ r, j - i = r := ⟨_, rfl⟩
      rw [hs, ht] at CR
      rw [hr] at hN
      have hr0 : 0 < r := by omega
      have hrn : m + r ≤ n := by omega
      have hrj : i + r < i + j := by omega
      have hij1 : ((i : Int) != (j : Int)) = true := bne_iff_ne.2 (by omega)
      have hij2 : decide ((j : Int) < (i : Int)) = false := decide_eq_false (by omega)
      have hs1 : (m : Int) - (i : Int) = (s : Int) := by omega
      have ht1 : (m : Int) + (j : Int) - (i : Int) = (t : Int) := by omega
      have hr1 : (j : Int) - (i : Int) = (r : Int) := by omega
      have HCR := Lib.hid CR
      have HN := Lib.hid hN
      clear CR hN hs ht hr hp hq hX hM HI
      go_wp2_with (go_at_call 157; with_reducible refine HCR.out.mono ?_; rintro e w2 ⟨rfl, hr2, hb2⟩)
      go_roundw
      case rel => exact ⟨i, r, _, rfl, by first | rfl | (congr 1; omega), him, hrn, hi0, hr0, HN.out, hr2, hbk.stepb hb2 hbk.size⟩
      case measure => simp [intOf]; omega
    · obtain ⟨X, p, M, q, Y, hdk, hp, hq, hX, hM, hN⟩ := rot_eq HI.out hij
      subst hdk hij
      have CR := CS.out (m - i) m i X p M q Y wr hrk hp hq hX hM
      obtain ⟨s, hs⟩ : ∃ s, m - i = s := ⟨_, rfl⟩
      rw [hs, hN] at CR
      have hs1 : (m : Int) - (i : Int) = (s : Int) := by omega
      have HCR := Lib.hid CR
      clear CR hN hs hp hq hX hM HI
      go_wp2_with (go_at_call 157; with_reducible refine HCR.out.mono ?_; rintro e w2 ⟨rfl, hr2, hb2⟩)
      go_end0
      exact ⟨rfl, hr2, hbk.stepb hb2 hbk.size⟩
    · obtain ⟨X, p, M, q, Y, hdk, hp, hq, hX, hM, hN⟩ := rot_gt HI.out hij
      subst hdk
      have CR := CS.out (m - i) m j X p M q Y wr hrk hp hq hX hM
      obtain ⟨s, hs⟩ : ∃ s, m - i = s := ⟨_, rfl⟩
      obtain ⟨r, hr⟩ : ∃ r, i - j = r := ⟨_, rfl⟩
      rw [hs] at CR
      rw [hr] at hN
      have hr0 : 0 < r := by omega
      have hrn : r ≤ m := by omega
      have hrj : r + j < i + j := by omega
      have hij1 : ((i : Int) != (j : Int)) = true := bne_iff_ne.2 (by omega)
      have hij2 : decide ((j : Int) < (i : Int)) = true := decide_eq_true (by omega)
      have hs1 : (m : Int) - (i : Int) = (s : Int) := by omega
      have hr1 : (i : Int) - (j : Int) = (r : Int) := by omega
      have HCR := Lib.hid CR
      have HN := Lib.hid hN
      clear CR hN hs hr hp hq hX hM HI
      go_wp2_with (go_at_call 157; with_reducible refine HCR.out.mono ?_; rintro e w2 ⟨rfl, hr2, hb2⟩)
      go_roundw
      case rel => exact ⟨r, j, _, by first | rfl | (congr 1; omega), rfl, hrn, hjn, hr0, hj0, HN.out, hr2, hbk.stepb hb2 hbk.size⟩
      case measure => simp [intOf]; omega
end Go.Proofs.YtgjooigolgdocaaGreatDoor

/- Cookies: the symmetric merge with one element on the left. -/
namespace Go.Proofs.YtgjooigolgdocaaGreatDoor
set_option linter.unusedVariables false
set_option linter.unusedSimpArgs false
open Go.RowKit Go.Sort
theorem half_lt {i j h : Nat} (hij : i < j) (hh : (i + j) / 2 = h) : i ≤ h ∧ h < j := by omega
set_option maxRecDepth 20000 in
set_option maxHeartbeats 8000000 in
theorem sym_one (B g n cap a m b : Nat) (X : List Ck) (x0 : Ck) (v Y : List Ck) (W : World) (h : RowC W B g n cap (X ++ [x0] ++ v ++ Y).toArray) (ha : a = X.length) (hm : m = X.length + 1) (hb : b = m + v.length) (hv : Srt ltC v) (hn : n ≤ 1000) :
    Calls Tryz.prog 115 #[.slice (some ⟨g, 0, none⟩) n cap, .int .i64 a, .int .i64 m, .int .i64 b, .func (.func 62) #[] #[]] W fun e W' => e = .returned (.tuple #[]) ∧ RowC W' B g n cap (X ++ mg ltC [x0] v ++ Y).toArray ∧ BelowBut W.heap.size g W W' := by
  have CM := Lib.hid (fun (x y : Ck) (R : Int) (hR : cmpC x y = R) (W : World) => cmp_is x y R hR W)
  have hsz : b + Y.length = n := by have := h.size; simp at this; omega
  have hbn : b ≤ n := by omega
  have ham : a < m := by omega
  have hmb : m ≤ b := by omega
  have hma1 : ((m : Int) - (a : Int) == 1) = true := beq_iff_eq.2 (by omega)
  have HS := Lib.hid (fun (i : Nat) h0 h0' h1 h2 => sym_first ltC swoC X v Y x0 m b i hm hb hv h0 h0' h1 h2)
  have HWR := Lib.hid (fun k (hk : k < v.length) => wand_right X x0 v Y k a ha hk)
  have hw0 : (X ++ [x0] ++ v ++ Y).toArray = wandA X x0 v Y 0 := by simp [wandA]
  have HW0 := Lib.hid hw0
  have hdx : (X ++ [x0] ++ v ++ Y).toArray[a]! = x0 := by
    rw [ha, show X ++ [x0] ++ v ++ Y = X ++ x0 :: (v ++ Y) by simp]; exact arr_at X x0 _
  have HVL := Lib.hid (show b = a + 1 + v.length by omega)
  obtain ⟨d, hd⟩ : ∃ d, (X ++ [x0] ++ v ++ Y).toArray = d := ⟨_, rfl⟩
  rw [hd] at h hdx hw0
  have HD := Lib.hid hd
  have hg := h.lt
  have HR0 := Lib.hid h
  have HDX := Lib.hid hdx
  have HMA := Lib.hid (show m = a + 1 by omega)
  clear h hsz ha hm hb hd hw0 hdx
  go_enter Tryz.func115, Tryz.ntmps115
  go_wp2_with fail
  go_loopw [10, 11] (fun vi vj wr => ∃ i j : Nat, vi = .int .i64 i ∧ vj = .int .i64 j ∧ m ≤ i ∧ i ≤ j ∧ j ≤ b ∧ RowC wr B g n cap d ∧ BelowBut W.heap.size g W wr ∧ (i = m ∨ ltC d[i - 1]! x0 = true) ∧ (j = b ∨ ltC d[j]! x0 = false)) (fun vi vj _ => (intOf vj).toNat - (intOf vi).toNat)
  case atStart => exact ⟨m, b, rfl, rfl, Nat.le_refl _, hmb, Nat.le_refl _, HR0.out, BelowBut.refl _ _ _, .inl rfl, .inl rfl⟩
  case round =>
    obtain ⟨i, j, rfl, rfl, hmi, hij, hjb, hrk, hbk, hI, hJ⟩ := hrel
    have HI := Lib.hid hI
    have HJ := Lib.hid hJ
    clear hI hJ
    by_cases hlt : i < j
    · have hlz : (i : Int) < (j : Int) := by omega
      obtain ⟨h, hh⟩ : ∃ h, (i + j) / 2 = h := ⟨_, rfl⟩
      obtain ⟨hih, hhj⟩ := half_lt hlt hh
      have hhn : h < n := by omega
      have han : a < n := by omega
      have hmh : m ≤ h + 1 := by omega
      have hmh2 : m ≤ h := by omega
      have hhb : h ≤ b := by omega
      obtain ⟨x, hx⟩ : ∃ x, d[h]! = x := ⟨_, rfl⟩
      obtain ⟨y, hy⟩ : ∃ y, d[a]! = y := ⟨_, rfl⟩
      have cx : ∀ q u, (ckL x)[q]? = some u → wr.cell? ⟨g, h * 9 + q, none⟩ = some u := fun q u hu => hrk.c h hhn q (by rw [hx]; exact hu)
      have cy : ∀ q u, (ckL y)[q]? = some u → wr.cell? ⟨g, a * 9 + q, none⟩ = some u := fun q u hu => hrk.c a han q (by rw [hy]; exact hu)
      have hgr := hrk.lt
      obtain ⟨R, hRR⟩ : ∃ R, cmpC x y = R := ⟨_, rfl⟩
      have hL : ltC d[h]! x0 = decide (R < 0) := by rw [← HDX.out, hx, hy, ← hRR]; rfl
      have CMR := Lib.hid (fun W => CM.out x y R hRR W)
      have HL := Lib.hid hL
      have CX := Lib.hid cx
      have CY := Lib.hid cy
      have hhz : (h : Int) < (n : Int) := by omega
      have haz : (a : Int) < (n : Int) := by omega
      have hh1 : ((i : Int) + (j : Int)) / 2 = (h : Int) := by omega
      have x0 := cx 0 _ rfl
      have x1 := cx 1 _ rfl
      have x2 := cx 2 _ rfl
      have x3 := cx 3 _ rfl
      have x4 := cx 4 _ rfl
      have x5 := cx 5 _ rfl
      have x6 := cx 6 _ rfl
      have x7 := cx 7 _ rfl
      have x8 := cx 8 _ rfl
      have y0 := cy 0 _ rfl
      have y1 := cy 1 _ rfl
      have y2 := cy 2 _ rfl
      have y3 := cy 3 _ rfl
      have y4 := cy 4 _ rfl
      have y5 := cy 5 _ rfl
      have y6 := cy 6 _ rfl
      have y7 := cy 7 _ rfl
      have y8 := cy 8 _ rfl
      simp only [Nat.add_zero] at x0 y0
      clear hx hy hh hL hRR cx cy
      by_cases hneg : R < 0
      · go_wp2_with fail
        go_region_held3 (fun w' => w'.cell? ⟨g, h * 9, none⟩ = some (.string x.n) ∧ w'.cell? ⟨g, h * 9 + 1, none⟩ = some (.string x.v) ∧ w'.cell? ⟨g, h * 9 + 2, none⟩ = some (.string x.d) ∧ w'.cell? ⟨g, h * 9 + 3, none⟩ = some (.string x.p) ∧ w'.cell? ⟨g, h * 9 + 4, none⟩ = some (.bool x.ho) ∧ w'.cell? ⟨g, h * 9 + 5, none⟩ = some (.bool x.se) ∧ w'.cell? ⟨g, h * 9 + 6, none⟩ = some (.bool x.hi) ∧ w'.cell? ⟨g, h * 9 + 7, none⟩ = some (.int .i64 x.ex) ∧ w'.cell? ⟨g, h * 9 + 8, none⟩ = some (.int .i64 x.cr) ∧ w'.cell? ⟨g, a * 9, none⟩ = some (.string y.n) ∧ w'.cell? ⟨g, a * 9 + 1, none⟩ = some (.string y.v) ∧ w'.cell? ⟨g, a * 9 + 2, none⟩ = some (.string y.d) ∧ w'.cell? ⟨g, a * 9 + 3, none⟩ = some (.string y.p) ∧ w'.cell? ⟨g, a * 9 + 4, none⟩ = some (.bool y.ho) ∧ w'.cell? ⟨g, a * 9 + 5, none⟩ = some (.bool y.se) ∧ w'.cell? ⟨g, a * 9 + 6, none⟩ = some (.bool y.hi) ∧ w'.cell? ⟨g, a * 9 + 7, none⟩ = some (.int .i64 y.ex) ∧ w'.cell? ⟨g, a * 9 + 8, none⟩ = some (.int .i64 y.cr) ∧ Below wr.heap.size wr w') (first | exact s18_mk hgr CX.out CY.out (Below.refl _ wr).drew | exact s18_mk hgr CX.out CY.out ((Below.refl _ wr).drew.trans hb1) | go_keep)
          (first | (go_at_call 62; with_reducible refine (CMR.out _).mono ?_; rintro e w1 ⟨rfl, hb1⟩))
        have hB1 := (Below.refl _ wr).drew.trans hb1
        go_wp2_with fail
        go_roundw
        case rel => exact ⟨h + 1, j, by go_num, rfl, hmh, by omega, hjb, hrk.next hB1, hbk.below hB1 hbk.size, .inr (by rw [Nat.add_sub_cancel, HL.out]; exact decide_eq_true hneg), HJ.out⟩
        case measure => simp [intOf]; omega
      · go_wp2_with fail
        go_region_held3 (fun w' => w'.cell? ⟨g, h * 9, none⟩ = some (.string x.n) ∧ w'.cell? ⟨g, h * 9 + 1, none⟩ = some (.string x.v) ∧ w'.cell? ⟨g, h * 9 + 2, none⟩ = some (.string x.d) ∧ w'.cell? ⟨g, h * 9 + 3, none⟩ = some (.string x.p) ∧ w'.cell? ⟨g, h * 9 + 4, none⟩ = some (.bool x.ho) ∧ w'.cell? ⟨g, h * 9 + 5, none⟩ = some (.bool x.se) ∧ w'.cell? ⟨g, h * 9 + 6, none⟩ = some (.bool x.hi) ∧ w'.cell? ⟨g, h * 9 + 7, none⟩ = some (.int .i64 x.ex) ∧ w'.cell? ⟨g, h * 9 + 8, none⟩ = some (.int .i64 x.cr) ∧ w'.cell? ⟨g, a * 9, none⟩ = some (.string y.n) ∧ w'.cell? ⟨g, a * 9 + 1, none⟩ = some (.string y.v) ∧ w'.cell? ⟨g, a * 9 + 2, none⟩ = some (.string y.d) ∧ w'.cell? ⟨g, a * 9 + 3, none⟩ = some (.string y.p) ∧ w'.cell? ⟨g, a * 9 + 4, none⟩ = some (.bool y.ho) ∧ w'.cell? ⟨g, a * 9 + 5, none⟩ = some (.bool y.se) ∧ w'.cell? ⟨g, a * 9 + 6, none⟩ = some (.bool y.hi) ∧ w'.cell? ⟨g, a * 9 + 7, none⟩ = some (.int .i64 y.ex) ∧ w'.cell? ⟨g, a * 9 + 8, none⟩ = some (.int .i64 y.cr) ∧ Below wr.heap.size wr w') (first | exact s18_mk hgr CX.out CY.out (Below.refl _ wr).drew | exact s18_mk hgr CX.out CY.out ((Below.refl _ wr).drew.trans hb1) | go_keep)
          (first | (go_at_call 62; with_reducible refine (CMR.out _).mono ?_; rintro e w1 ⟨rfl, hb1⟩))
        have hB1 := (Below.refl _ wr).drew.trans hb1
        go_wp2_with fail
        go_roundw
        case rel => exact ⟨i, h, rfl, by first | rfl | go_num, hmi, hih, hhb, hrk.next hB1, hbk.below hB1 hbk.size, HI.out, .inr (by rw [HL.out]; exact decide_eq_false (by omega))⟩
        case measure => simp [intOf]; omega
    · have hd : decide ((i : Int) < (j : Int)) = false := decide_eq_false (by omega)
      obtain rfl : i = j := by omega
      have hmg := HS.out i hmi hjb (by rw [HD.out]; exact HI.out) (by rw [HD.out]; exact HJ.out)
      have HMG := Lib.hid hmg
      clear hmg
      obtain ⟨r, hr⟩ : ∃ r, i - 1 = r := ⟨_, rfl⟩
      have hr1 : (i : Int) - 1 = (r : Int) := by omega
      have har : a ≤ r := by have := HMA.out; omega
      have hrb : r + 1 ≤ b := by omega
      have HRI := Lib.hid hr
      clear hr
      go_wp2_with fail
      go_loopw [13] (fun vk wr2 => ∃ k : Nat, vk = .int .i64 k ∧ a ≤ k ∧ k ≤ r ∧ RowC wr2 B g n cap (wandA X x0 v Y (k - a)) ∧ BelowBut W.heap.size g W wr2) (fun vk _ => r - (intOf vk).toNat)
      case atStart => exact ⟨a, rfl, Nat.le_refl _, har, by rw [Nat.sub_self, ← HW0.out, HD.out]; exact hrk, hbk⟩
      case round =>
        obtain ⟨k, rfl, hak, hkr, hrk2, hbk2⟩ := hrel
        by_cases hlt2 : k < r
        · have hkz : (k : Int) < (r : Int) := by omega
          obtain ⟨t, ht⟩ : ∃ t, k + 1 = t := ⟨_, rfl⟩
          have hkn : k < n := by omega
          have htn : t < n := by omega
          have hkt : k < t := by omega
          have htr : t ≤ r := by omega
          have hat : a ≤ t := by omega
          have hkv : k - a < v.length := by have := HVL.out; have := HMA.out; omega
          have hsw := hrk2.swap k t hkn htn
          rw [← ht] at hsw
          have hwa := HWR.out (k - a) hkv
          rw [show a + (k - a) = k by omega, show k - a + 1 = t - a by omega] at hwa
          rw [hwa, ht] at hsw
          obtain ⟨y, hy⟩ : ∃ y, (wandA X x0 v Y (k - a))[k]! = y := ⟨_, rfl⟩
          obtain ⟨x, hx⟩ : ∃ x, (wandA X x0 v Y (k - a))[t]! = x := ⟨_, rfl⟩
          rw [hx, hy] at hsw
          have cx : ∀ q u, (ckL x)[q]? = some u → wr.cell? ⟨g, t * 9 + q, none⟩ = some u := fun q u hu => hrk2.c t htn q (by rw [hx]; exact hu)
          have cy : ∀ q u, (ckL y)[q]? = some u → wr.cell? ⟨g, k * 9 + q, none⟩ = some u := fun q u hu => hrk2.c k hkn q (by rw [hy]; exact hu)
          have fx : ∀ q, wr.frozen? ⟨g, t * 9 + q, none⟩ = false := fun q => hrk2.f _
          have fy : ∀ q, wr.frozen? ⟨g, k * 9 + q, none⟩ = false := fun q => hrk2.f _
          have hbs := (hbk2.put9 (k * 9) x).put9 (t * 9) y
          have HSW := Lib.hid hsw
          have HBS := Lib.hid hbs
          have hkz2 : (k : Int) < (n : Int) := by omega
          have htz2 : (t : Int) < (n : Int) := by omega
          have hs1 : (k : Int) + 1 = (t : Int) := by omega
          have hw1 : IntKind.i64.wrap ((k : Int) + 1) = (t : Int) := by rw [IntWalk.i64_in _ (by omega)]; omega
          have hw2 : IntKind.i64.wrap (t : Int) = (t : Int) := IntWalk.i64_in _ (by omega)
          have x0 := cx 0 _ rfl
          have x1 := cx 1 _ rfl
          have x2 := cx 2 _ rfl
          have x3 := cx 3 _ rfl
          have x4 := cx 4 _ rfl
          have x5 := cx 5 _ rfl
          have x6 := cx 6 _ rfl
          have x7 := cx 7 _ rfl
          have x8 := cx 8 _ rfl
          have y0 := cy 0 _ rfl
          have y1 := cy 1 _ rfl
          have y2 := cy 2 _ rfl
          have y3 := cy 3 _ rfl
          have y4 := cy 4 _ rfl
          have y5 := cy 5 _ rfl
          have y6 := cy 6 _ rfl
          have y7 := cy 7 _ rfl
          have y8 := cy 8 _ rfl
          simp only [Nat.add_zero] at x0 y0
          have fx0 := fx 0
          have fx1 := fx 1
          have fx2 := fx 2
          have fx3 := fx 3
          have fx4 := fx 4
          have fx5 := fx 5
          have fx6 := fx 6
          have fx7 := fx 7
          have fx8 := fx 8
          have fy0 := fy 0
          have fy1 := fy 1
          have fy2 := fy 2
          have fy3 := fy 3
          have fy4 := fy 4
          have fy5 := fy 5
          have fy6 := fy 6
          have fy7 := fy 7
          have fy8 := fy 8
          simp only [Nat.add_zero] at fx0 fy0
          clear hsw hbs hwa hx hy ht cx cy fx fy
          go_wp2_with fail
          go_region
          all_goals
            clear hw1 hw2
            go_wp2_with fail
            go_roundw
            case rel => exact ⟨t, by first | rfl | (congr 1; omega), hat, htr, HSW.out.next (Below.refl _ _).drew, HBS.out.below (Below.refl _ _).drew HBS.out.size⟩
            case measure => simp [intOf]; omega
        · have hd2 : decide ((k : Int) < (r : Int)) = false := decide_eq_false (by omega)
          obtain rfl : k = r := by omega
          go_wp2_with fail
          refine bodyPost_ret (results_none (by rfl) _ _ _) rfl ⟨rfl, ?_, hbk2⟩
          have e : wandA X x0 v Y (k - a) = (X ++ mg ltC [x0] v ++ Y).toArray := by
            have h1 := HRI.out
            have h2 := HMA.out
            rw [HMG.out, show i - m = k - a by omega]; simp [wandA]
          rw [← e]; exact hrk2
end Go.Proofs.YtgjooigolgdocaaGreatDoor

/- Cookies: the symmetric merge with one element on the right. -/
namespace Go.Proofs.YtgjooigolgdocaaGreatDoor
set_option linter.unusedVariables false
set_option linter.unusedSimpArgs false
open Go.RowKit Go.Sort
theorem down_sub {k a t n : Nat} (hk : k = t + 1) (hat : a ≤ t) (h : t - a < n) : k - a = (t - a) + 1 ∧ a + (t - a) + 1 = k ∧ a + (t - a) = t := by omega
set_option maxRecDepth 20000 in
set_option maxHeartbeats 8000000 in
theorem sym_two (B g n cap a m b : Nat) (X u : List Ck) (y0 : Ck) (Y : List Ck) (W : World) (h : RowC W B g n cap (X ++ u ++ [y0] ++ Y).toArray) (ha : a = X.length) (hm : m = a + u.length) (hb : b = m + 1) (hu : Srt ltC u) (hu2 : 2 ≤ u.length) (hn : n ≤ 1000) :
    Calls Tryz.prog 115 #[.slice (some ⟨g, 0, none⟩) n cap, .int .i64 a, .int .i64 m, .int .i64 b, .func (.func 62) #[] #[]] W fun e W' => e = .returned (.tuple #[]) ∧ RowC W' B g n cap (X ++ mg ltC u [y0] ++ Y).toArray ∧ BelowBut W.heap.size g W W' := by
  have CM := Lib.hid (fun (x y : Ck) (R : Int) (hR : cmpC x y = R) (W : World) => cmp_is x y R hR W)
  have hsz : b + Y.length = n := by have := h.size; simp at this; omega
  have hbn : b ≤ n := by omega
  have hmn : m < n := by omega
  have ham : a ≤ m := by omega
  have hmb : m ≤ b := by omega
  have hma1 : ((m : Int) - (a : Int) == 1) = false := beq_eq_false_iff_ne.2 (by omega)
  have hbm1 : ((b : Int) - (m : Int) == 1) = true := beq_iff_eq.2 (by omega)
  have HS := Lib.hid (fun (i : Nat) h0 h0' h1 h2 => sym_last ltC swoC X u Y y0 a m i ha hm hu h0 h0' h1 h2)
  have HWL := Lib.hid (fun k (hk : k < u.length) => wand_left X y0 u Y k a ha hk)
  have e1 : X ++ u ++ ([y0] ++ Y) = X ++ u ++ [y0] ++ Y := by simp
  rw [e1] at HS
  have hw0 : (X ++ u ++ [y0] ++ Y).toArray = wandA X y0 u Y (m - a) := by simp [wandA, hm]
  have HW0 := Lib.hid hw0
  have hdx : (X ++ u ++ [y0] ++ Y).toArray[m]! = y0 := by
    rw [hm, ha, show X ++ u ++ [y0] ++ Y = (X ++ u) ++ y0 :: Y by simp]; exact arr_at' _ y0 _ _ (by simp)
  have HUL := Lib.hid (show m = a + u.length by omega)
  obtain ⟨d, hd⟩ : ∃ d, (X ++ u ++ [y0] ++ Y).toArray = d := ⟨_, rfl⟩
  rw [hd] at h hdx hw0
  have HD := Lib.hid hd
  have hg := h.lt
  have HR0 := Lib.hid h
  have HDX := Lib.hid hdx
  clear h hsz ha hm hb hd hw0 hdx e1 hu2
  go_enter Tryz.func115, Tryz.ntmps115
  go_wp2_with fail
  go_loopw [14, 15] (fun vi vj wr => ∃ i j : Nat, vi = .int .i64 i ∧ vj = .int .i64 j ∧ a ≤ i ∧ i ≤ j ∧ j ≤ m ∧ RowC wr B g n cap d ∧ BelowBut W.heap.size g W wr ∧ (i = a ∨ ltC y0 d[i - 1]! = false) ∧ (j = m ∨ ltC y0 d[j]! = true)) (fun vi vj _ => (intOf vj).toNat - (intOf vi).toNat)
  case atStart => exact ⟨a, m, rfl, rfl, Nat.le_refl _, ham, Nat.le_refl _, HR0.out, BelowBut.refl _ _ _, .inl rfl, .inl rfl⟩
  case round =>
    obtain ⟨i, j, rfl, rfl, hmi, hij, hjb, hrk, hbk, hI, hJ⟩ := hrel
    have HI := Lib.hid hI
    have HJ := Lib.hid hJ
    clear hI hJ
    by_cases hlt : i < j
    · have hlz : (i : Int) < (j : Int) := by omega
      obtain ⟨h, hh⟩ : ∃ h, (i + j) / 2 = h := ⟨_, rfl⟩
      obtain ⟨hih, hhj⟩ := half_lt hlt hh
      have hhn : h < n := by omega
      have hmh : a ≤ h + 1 := by omega
      have hmh2 : a ≤ h := by omega
      have hhb : h ≤ m := by omega
      obtain ⟨x, hx⟩ : ∃ x, d[m]! = x := ⟨_, rfl⟩
      obtain ⟨y, hy⟩ : ∃ y, d[h]! = y := ⟨_, rfl⟩
      have cx : ∀ q u, (ckL x)[q]? = some u → wr.cell? ⟨g, m * 9 + q, none⟩ = some u := fun q u hu => hrk.c m hmn q (by rw [hx]; exact hu)
      have cy : ∀ q u, (ckL y)[q]? = some u → wr.cell? ⟨g, h * 9 + q, none⟩ = some u := fun q u hu => hrk.c h hhn q (by rw [hy]; exact hu)
      have hgr := hrk.lt
      obtain ⟨R, hRR⟩ : ∃ R, cmpC x y = R := ⟨_, rfl⟩
      have hL : ltC y0 d[h]! = decide (R < 0) := by rw [← HDX.out, hx, hy, ← hRR]; rfl
      have CMR := Lib.hid (fun W => CM.out x y R hRR W)
      have HL := Lib.hid hL
      have CX := Lib.hid cx
      have CY := Lib.hid cy
      have hhz : (h : Int) < (n : Int) := by omega
      have haz : (m : Int) < (n : Int) := by omega
      have hh1 : ((i : Int) + (j : Int)) / 2 = (h : Int) := by omega
      have x0 := cx 0 _ rfl
      have x1 := cx 1 _ rfl
      have x2 := cx 2 _ rfl
      have x3 := cx 3 _ rfl
      have x4 := cx 4 _ rfl
      have x5 := cx 5 _ rfl
      have x6 := cx 6 _ rfl
      have x7 := cx 7 _ rfl
      have x8 := cx 8 _ rfl
      have y0 := cy 0 _ rfl
      have y1 := cy 1 _ rfl
      have y2 := cy 2 _ rfl
      have y3 := cy 3 _ rfl
      have y4 := cy 4 _ rfl
      have y5 := cy 5 _ rfl
      have y6 := cy 6 _ rfl
      have y7 := cy 7 _ rfl
      have y8 := cy 8 _ rfl
      simp only [Nat.add_zero] at x0 y0
      clear hx hy hh hL hRR cx cy
      by_cases hneg : R < 0
      · go_wp2_with fail
        go_region_held3 (fun w' => w'.cell? ⟨g, m * 9, none⟩ = some (.string x.n) ∧ w'.cell? ⟨g, m * 9 + 1, none⟩ = some (.string x.v) ∧ w'.cell? ⟨g, m * 9 + 2, none⟩ = some (.string x.d) ∧ w'.cell? ⟨g, m * 9 + 3, none⟩ = some (.string x.p) ∧ w'.cell? ⟨g, m * 9 + 4, none⟩ = some (.bool x.ho) ∧ w'.cell? ⟨g, m * 9 + 5, none⟩ = some (.bool x.se) ∧ w'.cell? ⟨g, m * 9 + 6, none⟩ = some (.bool x.hi) ∧ w'.cell? ⟨g, m * 9 + 7, none⟩ = some (.int .i64 x.ex) ∧ w'.cell? ⟨g, m * 9 + 8, none⟩ = some (.int .i64 x.cr) ∧ w'.cell? ⟨g, h * 9, none⟩ = some (.string y.n) ∧ w'.cell? ⟨g, h * 9 + 1, none⟩ = some (.string y.v) ∧ w'.cell? ⟨g, h * 9 + 2, none⟩ = some (.string y.d) ∧ w'.cell? ⟨g, h * 9 + 3, none⟩ = some (.string y.p) ∧ w'.cell? ⟨g, h * 9 + 4, none⟩ = some (.bool y.ho) ∧ w'.cell? ⟨g, h * 9 + 5, none⟩ = some (.bool y.se) ∧ w'.cell? ⟨g, h * 9 + 6, none⟩ = some (.bool y.hi) ∧ w'.cell? ⟨g, h * 9 + 7, none⟩ = some (.int .i64 y.ex) ∧ w'.cell? ⟨g, h * 9 + 8, none⟩ = some (.int .i64 y.cr) ∧ Below wr.heap.size wr w') (first | exact s18_mk hgr CX.out CY.out (Below.refl _ wr).drew | exact s18_mk hgr CX.out CY.out ((Below.refl _ wr).drew.trans hb1) | go_keep)
          (first | (go_at_call 62; with_reducible refine (CMR.out _).mono ?_; rintro e w1 ⟨rfl, hb1⟩))
        have hB1 := (Below.refl _ wr).drew.trans hb1
        go_wp2_with fail
        go_roundw
        case rel => exact ⟨i, h, rfl, by first | rfl | go_num, hmi, hih, hhb, hrk.next hB1, hbk.below hB1 hbk.size, HI.out, .inr (by rw [HL.out]; exact decide_eq_true hneg)⟩
        case measure => simp [intOf]; omega
      · have hneg' : decide (R < 0) = false := decide_eq_false hneg
        go_wp2_with fail
        go_region_held3 (fun w' => w'.cell? ⟨g, m * 9, none⟩ = some (.string x.n) ∧ w'.cell? ⟨g, m * 9 + 1, none⟩ = some (.string x.v) ∧ w'.cell? ⟨g, m * 9 + 2, none⟩ = some (.string x.d) ∧ w'.cell? ⟨g, m * 9 + 3, none⟩ = some (.string x.p) ∧ w'.cell? ⟨g, m * 9 + 4, none⟩ = some (.bool x.ho) ∧ w'.cell? ⟨g, m * 9 + 5, none⟩ = some (.bool x.se) ∧ w'.cell? ⟨g, m * 9 + 6, none⟩ = some (.bool x.hi) ∧ w'.cell? ⟨g, m * 9 + 7, none⟩ = some (.int .i64 x.ex) ∧ w'.cell? ⟨g, m * 9 + 8, none⟩ = some (.int .i64 x.cr) ∧ w'.cell? ⟨g, h * 9, none⟩ = some (.string y.n) ∧ w'.cell? ⟨g, h * 9 + 1, none⟩ = some (.string y.v) ∧ w'.cell? ⟨g, h * 9 + 2, none⟩ = some (.string y.d) ∧ w'.cell? ⟨g, h * 9 + 3, none⟩ = some (.string y.p) ∧ w'.cell? ⟨g, h * 9 + 4, none⟩ = some (.bool y.ho) ∧ w'.cell? ⟨g, h * 9 + 5, none⟩ = some (.bool y.se) ∧ w'.cell? ⟨g, h * 9 + 6, none⟩ = some (.bool y.hi) ∧ w'.cell? ⟨g, h * 9 + 7, none⟩ = some (.int .i64 y.ex) ∧ w'.cell? ⟨g, h * 9 + 8, none⟩ = some (.int .i64 y.cr) ∧ Below wr.heap.size wr w') (first | exact s18_mk hgr CX.out CY.out (Below.refl _ wr).drew | exact s18_mk hgr CX.out CY.out ((Below.refl _ wr).drew.trans hb1) | go_keep)
          (first | (go_at_call 62; with_reducible refine (CMR.out _).mono ?_; rintro e w1 ⟨rfl, hb1⟩))
        have hB1 := (Below.refl _ wr).drew.trans hb1
        go_wp2_with fail
        go_roundw
        case rel => exact ⟨h + 1, j, by go_num, rfl, hmh, by omega, hjb, hrk.next hB1, hbk.below hB1 hbk.size, .inr (by rw [Nat.add_sub_cancel, HL.out]; exact decide_eq_false (by omega)), HJ.out⟩
        case measure => simp [intOf]; omega
    · have hd : decide ((i : Int) < (j : Int)) = false := decide_eq_false (by omega)
      obtain rfl : i = j := by omega
      have hmg := HS.out i hmi hjb (by rw [HD.out]; exact HI.out) (by rw [HD.out]; exact HJ.out)
      have HMG := Lib.hid hmg
      clear hmg
      go_wp2_with fail
      go_loopw [17] (fun vk wr2 => ∃ k : Nat, vk = .int .i64 k ∧ i ≤ k ∧ k ≤ m ∧ RowC wr2 B g n cap (wandA X y0 u Y (k - a)) ∧ BelowBut W.heap.size g W wr2) (fun vk _ => (intOf vk).toNat)
      case atStart => exact ⟨m, rfl, hjb, Nat.le_refl _, by rw [← HW0.out, HD.out]; exact hrk, hbk⟩
      case round =>
        obtain ⟨k, rfl, hak, hkr, hrk2, hbk2⟩ := hrel
        by_cases hlt2 : i < k
        · have hkz : (i : Int) < (k : Int) := by omega
          obtain ⟨t, ht⟩ : ∃ t, k - 1 = t := ⟨_, rfl⟩
          have hkt1 : k = t + 1 := by omega
          have hkn : k < n := by omega
          have htn : t < n := by omega
          have hkt : t < k := by omega
          have htm : t ≤ m := by omega
          have hit : i ≤ t := by omega
          have htv : t - a < u.length := by have := HUL.out; omega
          have hsw := hrk2.swap k t hkn htn
          have hwa := HWL.out (t - a) htv
          obtain ⟨q1, q2, q3⟩ := down_sub hkt1 (by omega) htv
          rw [q2, q3, ← q1] at hwa
          rw [hwa] at hsw
          obtain ⟨y, hy⟩ : ∃ y, (wandA X y0 u Y (k - a))[k]! = y := ⟨_, rfl⟩
          obtain ⟨x, hx⟩ : ∃ x, (wandA X y0 u Y (k - a))[t]! = x := ⟨_, rfl⟩
          rw [hx, hy] at hsw
          have cx : ∀ q u, (ckL x)[q]? = some u → wr.cell? ⟨g, t * 9 + q, none⟩ = some u := fun q u hu => hrk2.c t htn q (by rw [hx]; exact hu)
          have cy : ∀ q u, (ckL y)[q]? = some u → wr.cell? ⟨g, k * 9 + q, none⟩ = some u := fun q u hu => hrk2.c k hkn q (by rw [hy]; exact hu)
          have fx : ∀ q, wr.frozen? ⟨g, t * 9 + q, none⟩ = false := fun q => hrk2.f _
          have fy : ∀ q, wr.frozen? ⟨g, k * 9 + q, none⟩ = false := fun q => hrk2.f _
          have hbs := (hbk2.put9 (k * 9) x).put9 (t * 9) y
          have HSW := Lib.hid hsw
          have HBS := Lib.hid hbs
          have hkz2 : (k : Int) < (n : Int) := by omega
          have htz2 : (t : Int) < (n : Int) := by omega
          have hs1 : (k : Int) - 1 = (t : Int) := by omega
          have hw1 : IntKind.i64.wrap ((k : Int) - 1) = (t : Int) := by rw [IntWalk.i64_in _ (by omega)]; omega
          have hw2 : IntKind.i64.wrap (t : Int) = (t : Int) := IntWalk.i64_in _ (by omega)
          have x0 := cx 0 _ rfl
          have x1 := cx 1 _ rfl
          have x2 := cx 2 _ rfl
          have x3 := cx 3 _ rfl
          have x4 := cx 4 _ rfl
          have x5 := cx 5 _ rfl
          have x6 := cx 6 _ rfl
          have x7 := cx 7 _ rfl
          have x8 := cx 8 _ rfl
          have y0 := cy 0 _ rfl
          have y1 := cy 1 _ rfl
          have y2 := cy 2 _ rfl
          have y3 := cy 3 _ rfl
          have y4 := cy 4 _ rfl
          have y5 := cy 5 _ rfl
          have y6 := cy 6 _ rfl
          have y7 := cy 7 _ rfl
          have y8 := cy 8 _ rfl
          simp only [Nat.add_zero] at x0 y0
          have fx0 := fx 0
          have fx1 := fx 1
          have fx2 := fx 2
          have fx3 := fx 3
          have fx4 := fx 4
          have fx5 := fx 5
          have fx6 := fx 6
          have fx7 := fx 7
          have fx8 := fx 8
          have fy0 := fy 0
          have fy1 := fy 1
          have fy2 := fy 2
          have fy3 := fy 3
          have fy4 := fy 4
          have fy5 := fy 5
          have fy6 := fy 6
          have fy7 := fy 7
          have fy8 := fy 8
          simp only [Nat.add_zero] at fx0 fy0
          clear hsw hbs hwa hx hy ht cx cy fx fy hkt1 q1 q2 q3
          go_wp2_with fail
          go_region
          all_goals
            clear hw1 hw2
            go_wp2_with fail
            go_roundw
            case rel => exact ⟨t, by first | rfl | (congr 1; omega), hit, htm, HSW.out.next (Below.refl _ _).drew, HBS.out.below (Below.refl _ _).drew HBS.out.size⟩
            case measure => simp [intOf]; omega
        · have hd2 : decide ((i : Int) < (k : Int)) = false := decide_eq_false (by omega)
          obtain rfl : k = i := by omega
          go_wp2_with fail
          refine bodyPost_ret (results_none (by rfl) _ _ _) rfl ⟨rfl, ?_, hbk2⟩
          have e : wandA X y0 u Y (k - a) = (X ++ mg ltC u [y0] ++ Y).toArray := by
            rw [HMG.out]; simp [wandA]
          rw [← e]; exact hrk2
end Go.Proofs.YtgjooigolgdocaaGreatDoor

/- Cookies: the symmetric merge of two sorted pieces of a row. -/
namespace Go.Proofs.YtgjooigolgdocaaGreatDoor
set_option linter.unusedVariables false
set_option linter.unusedSimpArgs false
open Go.RowKit Go.Sort
/-- a stage: the row reads so, and nothing else of what lay there has changed -/
def Stg (W0 : World) (B g n cap : Nat) (d : Array Ck) (w : World) : Prop := RowC w B g n cap d ∧ BelowBut W0.heap.size g W0 w
abbrev rotArgs (g n cap a m b : Nat) : Array Value := #[.slice (some ⟨g, 0, none⟩) n cap, .int .i64 a, .int .i64 m, .int .i64 b, .func (.func 62) #[] #[]]
/-- the merge of pieces shorter than L -/
def SymIH (B g n cap L : Nat) : Prop := ∀ (a m b : Nat) (X u v Y : List Ck) (W : World), RowC W B g n cap (X ++ u ++ v ++ Y).toArray → a = X.length → m = a + u.length → b = m + v.length → a < m → m < b → b - a < L → Srt ltC u → Srt ltC v →
  Calls Tryz.prog 115 (rotArgs g n cap a m b) W fun e W' => e = .returned (.tuple #[]) ∧ RowC W' B g n cap (X ++ mg ltC u v ++ Y).toArray ∧ BelowBut W.heap.size g W W'
theorem sym_stages (B g n cap a m b st en mid : Nat) (X u v Y : List Ck) (W0 : World) (hn : n ≤ 1000) (ha : a = X.length) (hm : m = a + u.length) (hb : b = m + v.length) (hab : a < b) (hmid : mid = (a + b) / 2) (hu : Srt ltC u) (hv : Srt ltC v)
    (k1 : a ≤ st) (k2 : st ≤ m) (k3 : m ≤ en) (k4 : en ≤ b) (k5 : (st - a) + (en - m) = mid - a) (k6 : st ≤ mid) (k7 : mid ≤ en) (hmg : mg ltC u v = mg ltC (u.take (st - a)) (v.take (en - m)) ++ mg ltC (u.drop (st - a)) (v.drop (en - m)))
    (ih : SymIH B g n cap (b - a)) :
    ∃ d1 d2 : Array Ck,
      ((st < m ∧ m < en) → ∀ w, Stg W0 B g n cap (X ++ u ++ v ++ Y).toArray w → Calls Tryz.prog 144 (rotArgs g n cap st m en) w fun e w' => e = .returned (.tuple #[]) ∧ Stg W0 B g n cap d1 w') ∧
      (¬ (st < m ∧ m < en) → ∀ w, Stg W0 B g n cap (X ++ u ++ v ++ Y).toArray w → Stg W0 B g n cap d1 w) ∧
      ((a < st ∧ st < mid) → ∀ w, Stg W0 B g n cap d1 w → Calls Tryz.prog 115 (rotArgs g n cap a st mid) w fun e w' => e = .returned (.tuple #[]) ∧ Stg W0 B g n cap d2 w') ∧
      (¬ (a < st ∧ st < mid) → ∀ w, Stg W0 B g n cap d1 w → Stg W0 B g n cap d2 w) ∧
      ((mid < en ∧ en < b) → ∀ w, Stg W0 B g n cap d2 w → Calls Tryz.prog 115 (rotArgs g n cap mid en b) w fun e w' => e = .returned (.tuple #[]) ∧ Stg W0 B g n cap (X ++ mg ltC u v ++ Y).toArray w') ∧
      (¬ (mid < en ∧ en < b) → ∀ w, Stg W0 B g n cap d2 w → Stg W0 B g n cap (X ++ mg ltC u v ++ Y).toArray w) := by
  obtain ⟨p, hp⟩ : ∃ p, u.take (st - a) = p := ⟨_, rfl⟩
  obtain ⟨q, hq⟩ : ∃ q, u.drop (st - a) = q := ⟨_, rfl⟩
  obtain ⟨r, hr⟩ : ∃ r, v.take (en - m) = r := ⟨_, rfl⟩
  obtain ⟨s, hs⟩ : ∃ s, v.drop (en - m) = s := ⟨_, rfl⟩
  have eu : u = p ++ q := by rw [← hp, ← hq, List.take_append_drop]
  have ev : v = r ++ s := by rw [← hr, ← hs, List.take_append_drop]
  have lp : p.length = st - a := by rw [← hp, List.length_take]; omega
  have lq : q.length = m - st := by rw [← hq, List.length_drop]; omega
  have lr : r.length = en - m := by rw [← hr, List.length_take]; omega
  have ls : s.length = b - en := by rw [← hs, List.length_drop]; omega
  have sp : Srt ltC p := by rw [← hp]; exact srt_take ltC hu _
  have sq : Srt ltC q := by rw [← hq]; exact srt_drop ltC hu _
  have sr : Srt ltC r := by rw [← hr]; exact srt_take ltC hv _
  have ss : Srt ltC s := by rw [← hs]; exact srt_drop ltC hv _
  rw [hp, hq, hr, hs] at hmg
  rw [hmg]
  have lpr : (mg ltC p r).length = mid - a := by rw [mg_length, lp, lr]; exact k5
  have hmb : mid < b := by omega
  refine ⟨(X ++ p ++ r ++ q ++ s ++ Y).toArray, (X ++ mg ltC p r ++ q ++ s ++ Y).toArray, ?_, ?_, ?_, ?_, ?_, ?_⟩
  · rintro ⟨h1, h2⟩ w ⟨hw, hbw⟩
    have hw' : RowC w B g n cap ((X ++ p) ++ q ++ r ++ (s ++ Y)).toArray := by
      have e : X ++ u ++ v ++ Y = (X ++ p) ++ q ++ r ++ (s ++ Y) := by rw [eu, ev]; simp only [List.append_assoc]
      rw [← e]; exact hw
    refine (rot_any B g n cap st m en (X ++ p) q r (s ++ Y) w hw' (by rw [List.length_append, lp]; omega) (by rw [lq]; omega) (by rw [lr]; omega) h1 h2 hn).mono ?_
    rintro e w' ⟨he, hr', hb'⟩
    refine ⟨he, ?_, hbw.stepb hb' hbw.size⟩
    have e : X ++ p ++ r ++ q ++ s ++ Y = (X ++ p) ++ r ++ q ++ (s ++ Y) := by simp only [List.append_assoc]
    rw [e]; exact hr'
  · rintro h w ⟨hw, hbw⟩
    refine ⟨?_, hbw⟩
    have e : X ++ p ++ r ++ q ++ s ++ Y = X ++ u ++ v ++ Y := by
      rw [eu, ev]
      rcases Nat.lt_or_ge st m with h1 | h1
      · obtain rfl : r = [] := List.eq_nil_of_length_eq_zero (by omega)
        simp
      · obtain rfl : q = [] := List.eq_nil_of_length_eq_zero (by omega)
        simp
    rw [e]; exact hw
  · rintro ⟨h1, h2⟩ w ⟨hw, hbw⟩
    have hw' : RowC w B g n cap (X ++ p ++ r ++ (q ++ s ++ Y)).toArray := by
      have e : X ++ p ++ r ++ q ++ s ++ Y = X ++ p ++ r ++ (q ++ s ++ Y) := by simp only [List.append_assoc]
      rw [← e]; exact hw
    refine (ih a st mid X p r (q ++ s ++ Y) w hw' ha (by omega) (by omega) h1 h2 (by omega) sp sr).mono ?_
    rintro e w' ⟨he, hr', hb'⟩
    refine ⟨he, ?_, hbw.stepb hb' hbw.size⟩
    have e : X ++ mg ltC p r ++ q ++ s ++ Y = X ++ mg ltC p r ++ (q ++ s ++ Y) := by simp only [List.append_assoc]
    rw [e]; exact hr'
  · rintro h w ⟨hw, hbw⟩
    refine ⟨?_, hbw⟩
    have e : X ++ mg ltC p r ++ q ++ s ++ Y = X ++ p ++ r ++ q ++ s ++ Y := by
      rcases Nat.lt_or_ge a st with h1 | h1
      · obtain rfl : r = [] := List.eq_nil_of_length_eq_zero (by omega)
        rw [mg_nil']; simp
      · obtain rfl : p = [] := List.eq_nil_of_length_eq_zero (by omega)
        rw [mg_nil]; simp
    rw [e]; exact hw
  · rintro ⟨h1, h2⟩ w ⟨hw, hbw⟩
    have hw' : RowC w B g n cap ((X ++ mg ltC p r) ++ q ++ s ++ Y).toArray := by
      have e : X ++ mg ltC p r ++ q ++ s ++ Y = (X ++ mg ltC p r) ++ q ++ s ++ Y := by simp only [List.append_assoc]
      rw [← e]; exact hw
    refine (ih mid en b (X ++ mg ltC p r) q s Y w hw' (by rw [List.length_append, lpr]; omega) (by omega) (by omega) h1 h2 (by omega) sq ss).mono ?_
    rintro e w' ⟨he, hr', hb'⟩
    refine ⟨he, ?_, hbw.stepb hb' hbw.size⟩
    have e : X ++ (mg ltC p r ++ mg ltC q s) ++ Y = (X ++ mg ltC p r) ++ mg ltC q s ++ Y := by simp only [List.append_assoc]
    rw [e]; exact hr'
  · rintro h w ⟨hw, hbw⟩
    refine ⟨?_, hbw⟩
    have e : X ++ (mg ltC p r ++ mg ltC q s) ++ Y = X ++ mg ltC p r ++ q ++ s ++ Y := by
      rcases Nat.lt_or_ge mid en with h1 | h1
      · obtain rfl : s = [] := List.eq_nil_of_length_eq_zero (by omega)
        rw [mg_nil']; simp
      · obtain rfl : q = [] := List.eq_nil_of_length_eq_zero (by omega)
        rw [mg_nil]; simp
    rw [e]; exact hw
theorem three_way (p q r : Nat) : (Hid (p < q ∧ q < r) ∧ (p : Int) < (q : Int) ∧ (q : Int) < (r : Int)) ∨ (Hid (¬ (p < q ∧ q < r)) ∧ decide (p < q) = false) ∨ (Hid (¬ (p < q ∧ q < r)) ∧ (p : Int) < (q : Int) ∧ decide (q < r) = false) := by
  by_cases h1 : p < q
  · by_cases h2 : q < r
    · exact .inl ⟨Lib.hid ⟨h1, h2⟩, by omega, by omega⟩
    · exact .inr (.inr ⟨Lib.hid (fun h => h2 h.2), by omega, decide_eq_false h2⟩)
  · exact .inr (.inl ⟨Lib.hid (fun h => h1 h.1), decide_eq_false h1⟩)
set_option maxRecDepth 20000 in
set_option maxHeartbeats 16000000 in
theorem sym_gen (B g n cap a m b : Nat) (X u v Y : List Ck) (W : World) (h : RowC W B g n cap (X ++ u ++ v ++ Y).toArray) (ha : a = X.length) (hm : m = a + u.length) (hb : b = m + v.length) (h1 : 2 ≤ u.length) (h2 : 2 ≤ v.length) (hu : Srt ltC u) (hv : Srt ltC v) (hn : n ≤ 1000) (ih : SymIH B g n cap (b - a)) :
    Calls Tryz.prog 115 #[.slice (some ⟨g, 0, none⟩) n cap, .int .i64 a, .int .i64 m, .int .i64 b, .func (.func 62) #[] #[]] W fun e W' => e = .returned (.tuple #[]) ∧ RowC W' B g n cap (X ++ mg ltC u v ++ Y).toArray ∧ BelowBut W.heap.size g W W' := by
  have CM := Lib.hid (fun (x y : Ck) (R : Int) (hR : cmpC x y = R) (W : World) => cmp_is x y R hR W)
  have hsz : b + Y.length = n := by have := h.size; simp at this; omega
  have hbn : b ≤ n := by omega
  have ham : a + 2 ≤ m := by omega
  have hmb : m + 2 ≤ b := by omega
  have hma1 : ((m : Int) - (a : Int) == 1) = false := beq_eq_false_iff_ne.2 (by omega)
  have hbm1 : ((b : Int) - (m : Int) == 1) = false := beq_eq_false_iff_ne.2 (by omega)
  obtain ⟨mid, hmid⟩ : ∃ mid, (a + b) / 2 = mid := ⟨_, rfl⟩
  obtain ⟨nn, hnn⟩ : ∃ nn, mid + m = nn := ⟨_, rfl⟩
  obtain ⟨pp, hpp⟩ : ∃ pp, nn - 1 = pp := ⟨_, rfl⟩
  have hmi1 : ((a : Int) + (b : Int)) / 2 = (mid : Int) := by omega
  have hnn1 : (mid : Int) + (m : Int) = (nn : Int) := by omega
  have hpp1 : (nn : Int) - 1 = (pp : Int) := by omega
  have hamid : a ≤ mid := by omega
  have hmidb : mid ≤ b := by omega
  have hnb : nn ≤ 2000 := by omega
  have hpb : pp ≤ 2000 := by omega
  obtain ⟨lo, hlo⟩ : ∃ lo, (if mid < m then nn - b else a) = lo := ⟨_, rfl⟩
  obtain ⟨hi, hhi⟩ : ∃ hi, (if mid < m then mid else m) = hi := ⟨_, rfl⟩
  have hl1 : m > mid → lo = nn - b ∧ hi = mid := fun h => by rw [← hlo, ← hhi, if_pos h, if_pos h]; exact ⟨rfl, rfl⟩
  have hl2 : ¬ m > mid → lo = a ∧ hi = m := fun h => by rw [← hlo, ← hhi, if_neg h, if_neg h]; exact ⟨rfl, rfl⟩
  have hlh : lo ≤ hi := by
    by_cases hc : m > mid
    · obtain ⟨e1, e2⟩ := hl1 hc; omega
    · obtain ⟨e1, e2⟩ := hl2 hc; omega
  have hbd : ∀ h, lo ≤ h → h < hi → h < n ∧ pp - h < n ∧ h ≤ pp := fun h p1 p2 => by
    by_cases hc : m > mid
    · obtain ⟨e1, e2⟩ := hl1 hc; omega
    · obtain ⟨e1, e2⟩ := hl2 hc; omega
  have hen : ∀ i, lo ≤ i → i ≤ hi → i ≤ nn := fun i p1 p2 => by
    by_cases hc : m > mid
    · obtain ⟨e1, e2⟩ := hl1 hc; omega
    · obtain ⟨e1, e2⟩ := hl2 hc; omega
  obtain ⟨d, hd⟩ : ∃ d, (X ++ u ++ v ++ Y).toArray = d := ⟨_, rfl⟩
  have hst : ∀ st en, lo ≤ st → st ≤ hi → en = nn - st → (st = lo ∨ ltC d[nn - st]! d[st - 1]! = false) → (st = hi ∨ ltC d[nn - 1 - st]! d[st]! = true) → st ≤ 1000 ∧ en ≤ 1000 ∧ 0 ≤ st ∧ 0 ≤ en ∧ ∃ d1 d2 : Array Ck,
      ((st < m ∧ m < en) → ∀ w, Stg W B g n cap d w → Calls Tryz.prog 144 (rotArgs g n cap st m en) w fun e w' => e = .returned (.tuple #[]) ∧ Stg W B g n cap d1 w') ∧
      (¬ (st < m ∧ m < en) → ∀ w, Stg W B g n cap d w → Stg W B g n cap d1 w) ∧
      ((a < st ∧ st < mid) → ∀ w, Stg W B g n cap d1 w → Calls Tryz.prog 115 (rotArgs g n cap a st mid) w fun e w' => e = .returned (.tuple #[]) ∧ Stg W B g n cap d2 w') ∧
      (¬ (a < st ∧ st < mid) → ∀ w, Stg W B g n cap d1 w → Stg W B g n cap d2 w) ∧
      ((mid < en ∧ en < b) → ∀ w, Stg W B g n cap d2 w → Calls Tryz.prog 115 (rotArgs g n cap mid en b) w fun e w' => e = .returned (.tuple #[]) ∧ Stg W B g n cap (X ++ mg ltC u v ++ Y).toArray w') ∧
      (¬ (mid < en ∧ en < b) → ∀ w, Stg W B g n cap d2 w → Stg W B g n cap (X ++ mg ltC u v ++ Y).toArray w) := fun st en p1 p2 p3 p4 p5 => by
    obtain ⟨k1, k2, k3, k4, k5, k6, k7, hmg⟩ := sym_part ltC swoC X u v Y a m b mid nn lo hi st en d hd.symm ha hm hb hmid.symm hnn.symm (by omega) (by omega) hl1 hl2 p1 p2 p3 hu hv p4 p5
    have hq := sym_stages B g n cap a m b st en mid X u v Y W hn ha hm hb (by omega) hmid.symm hu hv k1 k2 k3 k4 k5 k6 k7 hmg ih
    rw [hd] at hq
    exact ⟨by omega, by omega, Nat.zero_le _, Nat.zero_le _, hq⟩
  rw [hd] at h
  have HR0 := Lib.hid h
  have HBD := Lib.hid hbd
  have HEN := Lib.hid hen
  have HST := Lib.hid hst
  have HPP := Lib.hid (show nn = pp + 1 by omega)
  have hlo0 : lo ≤ 1000 := by omega
  have hhi0 : hi ≤ 1000 := by
    by_cases hc : m > mid
    · obtain ⟨e1, e2⟩ := hl1 hc; omega
    · obtain ⟨e1, e2⟩ := hl2 hc; omega
  have hcase : (Hid (mid < m) ∧ (mid : Int) < (m : Int) ∧ (nn : Int) - (b : Int) = (lo : Int) ∧ Hid (hi = mid)) ∨ ((¬ (mid : Int) < (m : Int)) ∧ Hid (lo = a) ∧ Hid (hi = m)) := by
    by_cases hgm : mid < m
    · obtain ⟨e1, e2⟩ := hl1 hgm
      exact .inl ⟨Lib.hid hgm, by omega, by omega, Lib.hid e2⟩
    · obtain ⟨e1, e2⟩ := hl2 hgm
      exact .inr ⟨by omega, Lib.hid e1, Lib.hid e2⟩
  have HCASE := Lib.hid hcase
  clear h hsz ha hm hb hd hmid hnn hpp hlo hhi hl1 hl2 hbd hen hst h1 h2 hu hv ih hcase
  go_enter Tryz.func115, Tryz.ntmps115
  go_upto_if 140 with fail
  go_cut [20, 21] from 138 to 146 (fun v20 v21 wx => Value.int .i64 lo = v20 ∧ Value.int .i64 hi = v21 ∧ W = wx)
  case first =>
    rcases HCASE.out with ⟨hgm, hgz, hlz, E2⟩ | ⟨hgz, E1, E2⟩
    · go_wp2_with fail
      go_meet
      case rel => exact ⟨by first | rfl | (congr 1; omega), by first | rfl | (have q2 := E2.out; congr 1; omega), rfl⟩
    · go_wp2_with fail
      go_meet
      case rel => exact ⟨by first | rfl | (have q1 := E1.out; congr 1; omega), by first | rfl | (have q2 := E2.out; congr 1; omega), rfl⟩
  case rest =>
    obtain ⟨rfl, rfl, rfl⟩ := hcut
    clear HCASE
    go_wp2_with fail
    go_loopw [20, 21] (fun vi vj wr => ∃ i j : Nat, vi = .int .i64 i ∧ vj = .int .i64 j ∧ lo ≤ i ∧ i ≤ j ∧ j ≤ hi ∧ Stg W B g n cap d wr ∧ (i = lo ∨ ltC d[nn - i]! d[i - 1]! = false) ∧ (j = hi ∨ ltC d[nn - 1 - j]! d[j]! = true)) (fun vi vj _ => (intOf vj).toNat - (intOf vi).toNat)
    case atStart => exact ⟨lo, hi, rfl, rfl, Nat.le_refl _, hlh, Nat.le_refl _, ⟨HR0.out, BelowBut.refl _ _ _⟩, .inl rfl, .inl rfl⟩
    case round =>
      obtain ⟨i, j, rfl, rfl, hmi, hij, hjb, ⟨hrk, hbk⟩, hI, hJ⟩ := hrel
      have HI := Lib.hid hI
      have HJ := Lib.hid hJ
      clear hI hJ
      by_cases hlt : i < j
      · have hlz : (i : Int) < (j : Int) := by omega
        obtain ⟨h, hh⟩ : ∃ h, (i + j) / 2 = h := ⟨_, rfl⟩
        obtain ⟨hih, hhj⟩ := half_lt hlt hh
        obtain ⟨t, ht⟩ : ∃ t, pp - h = t := ⟨_, rfl⟩
        obtain ⟨hhn, htn, hhp⟩ := HBD.out h (by omega) (by omega)
        rw [ht] at htn
        have hmh : lo ≤ h + 1 := by omega
        have hmh2 : lo ≤ h := by omega
        have hhb : h ≤ hi := by omega
        have hnp := HPP.out
        obtain ⟨x, hx⟩ : ∃ x, d[t]! = x := ⟨_, rfl⟩
        obtain ⟨y, hy⟩ : ∃ y, d[h]! = y := ⟨_, rfl⟩
        have cx : ∀ q u, (ckL x)[q]? = some u → wr.cell? ⟨g, t * 9 + q, none⟩ = some u := fun q u hu => hrk.c t htn q (by rw [hx]; exact hu)
        have cy : ∀ q u, (ckL y)[q]? = some u → wr.cell? ⟨g, h * 9 + q, none⟩ = some u := fun q u hu => hrk.c h hhn q (by rw [hy]; exact hu)
        have hgr := hrk.lt
        obtain ⟨R, hRR⟩ : ∃ R, cmpC x y = R := ⟨_, rfl⟩
        have hL1 : ltC d[nn - (h + 1)]! d[h + 1 - 1]! = decide (R < 0) := by
          rw [show nn - (h + 1) = t by omega, Nat.add_sub_cancel, hx, hy, ← hRR]; rfl
        have hL2 : ltC d[nn - 1 - h]! d[h]! = decide (R < 0) := by
          rw [show nn - 1 - h = t by omega, hx, hy, ← hRR]; rfl
        have CMR := Lib.hid (fun W => CM.out x y R hRR W)
        have HL1 := Lib.hid hL1
        have HL2 := Lib.hid hL2
        have CX := Lib.hid cx
        have CY := Lib.hid cy
        have hhz : (h : Int) < (n : Int) := by omega
        have htz : (t : Int) < (n : Int) := by omega
        have hh1 : ((i : Int) + (j : Int)) / 2 = (h : Int) := by omega
        have hs1 : (pp : Int) - (h : Int) = (t : Int) := by omega
        have hw1 : IntKind.i64.wrap ((pp : Int) - (h : Int)) = (t : Int) := by rw [IntWalk.i64_in _ (by omega)]; omega
        have hw2 : IntKind.i64.wrap (t : Int) = (t : Int) := IntWalk.i64_in _ (by omega)
        have x0 := cx 0 _ rfl
        have x1 := cx 1 _ rfl
        have x2 := cx 2 _ rfl
        have x3 := cx 3 _ rfl
        have x4 := cx 4 _ rfl
        have x5 := cx 5 _ rfl
        have x6 := cx 6 _ rfl
        have x7 := cx 7 _ rfl
        have x8 := cx 8 _ rfl
        have y0 := cy 0 _ rfl
        have y1 := cy 1 _ rfl
        have y2 := cy 2 _ rfl
        have y3 := cy 3 _ rfl
        have y4 := cy 4 _ rfl
        have y5 := cy 5 _ rfl
        have y6 := cy 6 _ rfl
        have y7 := cy 7 _ rfl
        have y8 := cy 8 _ rfl
        simp only [Nat.add_zero] at x0 y0
        clear hx hy hh hL1 hL2 hRR cx cy ht hnp
        have hcs : decide (R < 0) = true ∨ decide (R < 0) = false := by cases decide (R < 0) <;> simp
        rcases hcs with hneg | hneg
        · have hn2 : R < 0 := of_decide_eq_true hneg
          have HN := Lib.hid hneg
          go_wp2_with fail
          go_region_held3 (fun w' => w'.cell? ⟨g, t * 9, none⟩ = some (.string x.n) ∧ w'.cell? ⟨g, t * 9 + 1, none⟩ = some (.string x.v) ∧ w'.cell? ⟨g, t * 9 + 2, none⟩ = some (.string x.d) ∧ w'.cell? ⟨g, t * 9 + 3, none⟩ = some (.string x.p) ∧ w'.cell? ⟨g, t * 9 + 4, none⟩ = some (.bool x.ho) ∧ w'.cell? ⟨g, t * 9 + 5, none⟩ = some (.bool x.se) ∧ w'.cell? ⟨g, t * 9 + 6, none⟩ = some (.bool x.hi) ∧ w'.cell? ⟨g, t * 9 + 7, none⟩ = some (.int .i64 x.ex) ∧ w'.cell? ⟨g, t * 9 + 8, none⟩ = some (.int .i64 x.cr) ∧ w'.cell? ⟨g, h * 9, none⟩ = some (.string y.n) ∧ w'.cell? ⟨g, h * 9 + 1, none⟩ = some (.string y.v) ∧ w'.cell? ⟨g, h * 9 + 2, none⟩ = some (.string y.d) ∧ w'.cell? ⟨g, h * 9 + 3, none⟩ = some (.string y.p) ∧ w'.cell? ⟨g, h * 9 + 4, none⟩ = some (.bool y.ho) ∧ w'.cell? ⟨g, h * 9 + 5, none⟩ = some (.bool y.se) ∧ w'.cell? ⟨g, h * 9 + 6, none⟩ = some (.bool y.hi) ∧ w'.cell? ⟨g, h * 9 + 7, none⟩ = some (.int .i64 y.ex) ∧ w'.cell? ⟨g, h * 9 + 8, none⟩ = some (.int .i64 y.cr) ∧ Below wr.heap.size wr w') (first | exact s18_mk hgr CX.out CY.out (Below.refl _ wr).drew | exact s18_mk hgr CX.out CY.out ((Below.refl _ wr).drew.trans hb1) | go_keep)
            (first | (go_at_call 62; with_reducible refine (CMR.out _).mono ?_; rintro e w1 ⟨rfl, hb1⟩))
          have hB1 := (Below.refl _ wr).drew.trans hb1
          clear hw1 hw2
          go_wp2_with fail
          go_roundw
          case rel => exact ⟨i, h, rfl, by first | rfl | go_num, hmi, hih, hhb, ⟨hrk.next hB1, hbk.below hB1 hbk.size⟩, HI.out, .inr (by rw [HL2.out]; exact HN.out)⟩
          case measure => simp [intOf]; omega
        · have hn2 : ¬ R < 0 := of_decide_eq_false hneg
          have HN := Lib.hid hneg
          go_wp2_with fail
          go_region_held3 (fun w' => w'.cell? ⟨g, t * 9, none⟩ = some (.string x.n) ∧ w'.cell? ⟨g, t * 9 + 1, none⟩ = some (.string x.v) ∧ w'.cell? ⟨g, t * 9 + 2, none⟩ = some (.string x.d) ∧ w'.cell? ⟨g, t * 9 + 3, none⟩ = some (.string x.p) ∧ w'.cell? ⟨g, t * 9 + 4, none⟩ = some (.bool x.ho) ∧ w'.cell? ⟨g, t * 9 + 5, none⟩ = some (.bool x.se) ∧ w'.cell? ⟨g, t * 9 + 6, none⟩ = some (.bool x.hi) ∧ w'.cell? ⟨g, t * 9 + 7, none⟩ = some (.int .i64 x.ex) ∧ w'.cell? ⟨g, t * 9 + 8, none⟩ = some (.int .i64 x.cr) ∧ w'.cell? ⟨g, h * 9, none⟩ = some (.string y.n) ∧ w'.cell? ⟨g, h * 9 + 1, none⟩ = some (.string y.v) ∧ w'.cell? ⟨g, h * 9 + 2, none⟩ = some (.string y.d) ∧ w'.cell? ⟨g, h * 9 + 3, none⟩ = some (.string y.p) ∧ w'.cell? ⟨g, h * 9 + 4, none⟩ = some (.bool y.ho) ∧ w'.cell? ⟨g, h * 9 + 5, none⟩ = some (.bool y.se) ∧ w'.cell? ⟨g, h * 9 + 6, none⟩ = some (.bool y.hi) ∧ w'.cell? ⟨g, h * 9 + 7, none⟩ = some (.int .i64 y.ex) ∧ w'.cell? ⟨g, h * 9 + 8, none⟩ = some (.int .i64 y.cr) ∧ Below wr.heap.size wr w') (first | exact s18_mk hgr CX.out CY.out (Below.refl _ wr).drew | exact s18_mk hgr CX.out CY.out ((Below.refl _ wr).drew.trans hb1) | go_keep)
            (first | (go_at_call 62; with_reducible refine (CMR.out _).mono ?_; rintro e w1 ⟨rfl, hb1⟩))
          have hB1 := (Below.refl _ wr).drew.trans hb1
          clear hw1 hw2
          go_wp2_with fail
          go_roundw
          case rel => exact ⟨h + 1, j, by go_num, rfl, hmh, by omega, hjb, ⟨hrk.next hB1, hbk.below hB1 hbk.size⟩, .inr (by rw [HL1.out]; exact HN.out), HJ.out⟩
          case measure => simp [intOf]; omega
      · have hd : decide ((i : Int) < (j : Int)) = false := decide_eq_false (by omega)
        obtain rfl : i = j := by omega
        obtain ⟨en, hen⟩ : ∃ en, nn - i = en := ⟨_, rfl⟩
        have hen1 := HEN.out i hmi hjb
        have hen2 : (nn : Int) - (i : Int) = (en : Int) := by omega
        obtain ⟨k1, k2, k3, k4, d1, d2, C0, E0, C1, E1, C2, E2⟩ := HST.out i en hmi hjb hen.symm HI.out HJ.out
        have s0 : Stg W B g n cap d wr := ⟨hrk, hbk⟩
        have HC0 := Lib.hid C0
        have HE0 := Lib.hid E0
        have HC1 := Lib.hid C1
        have HE1 := Lib.hid E1
        have HC2 := Lib.hid C2
        have HE2 := Lib.hid E2
        clear C0 E0 C1 E1 C2 E2 hen HI HJ
        have z1 := three_way i m en
        obtain ⟨bA, hbA⟩ : ∃ bA, decide (i < m ∧ m < en) = bA := ⟨_, rfl⟩
        have HbA := Lib.hid hbA
        clear hbA
        go_upto_region 39 with fail
        go_cut [185] from 178 to 184 (fun c wx => Value.bool bA = c ∧ wr = wx)
        case first =>
          rcases z1 with ⟨n1, i1, i2⟩ | ⟨n1, i1⟩ | ⟨n1, i1, i2⟩
          all_goals
            go_wp2_with fail
            go_meet
            case rel => exact ⟨congrArg Value.bool (HbA.out.symm.trans (by first | exact decide_eq_true n1.out | exact decide_eq_false n1.out)), rfl⟩
        case rest =>
          obtain ⟨rfl, rfl⟩ := hcut
          clear z1
          go_upto_if 185 with fail
          go_cut [] from 185 to 191 (fun wx => Stg W B g n cap d1 wx)
          case first =>
            cases bA
            · go_wp2_with fail
              go_meet
              case rel => exact HE0.out (of_decide_eq_false HbA.out) _ s0
            · go_wp2_with (go_at_call 144; with_reducible refine (HC0.out (of_decide_eq_true HbA.out) _ s0).mono ?_; rintro e w1 ⟨rfl, s9⟩)
              go_meet
              case rel => exact s9
          case rest =>
            have s1 := hcut
            clear hcut
            have z2 := three_way a i mid
            obtain ⟨bB, hbB⟩ : ∃ bB, decide (a < i ∧ i < mid) = bB := ⟨_, rfl⟩
            have HbB := Lib.hid hbB
            clear hbB
            go_upto_region 41 with fail
            go_cut [199] from 192 to 198 (fun c wx => Value.bool bB = c ∧ wc = wx)
            case first =>
              rcases z2 with ⟨n1, i1, i2⟩ | ⟨n1, i1⟩ | ⟨n1, i1, i2⟩
              all_goals
                go_wp2_with fail
                go_meet
                case rel => exact ⟨congrArg Value.bool (HbB.out.symm.trans (by first | exact decide_eq_true n1.out | exact decide_eq_false n1.out)), rfl⟩
            case rest =>
              obtain ⟨rfl, rfl⟩ := hcut
              clear z2
              go_upto_if 199 with fail
              go_cut [] from 199 to 205 (fun wx => Stg W B g n cap d2 wx)
              case first =>
                cases bB
                · go_wp2_with fail
                  go_meet
                  case rel => exact HE1.out (of_decide_eq_false HbB.out) _ s1
                · go_wp2_with (go_at_call 115; with_reducible refine (HC1.out (of_decide_eq_true HbB.out) _ s1).mono ?_; rintro e w1 ⟨rfl, s9⟩)
                  go_meet
                  case rel => exact s9
              case rest =>
                have s2 := hcut
                clear hcut
                have z3 := three_way mid en b
                obtain ⟨bC, hbC⟩ : ∃ bC, decide (mid < en ∧ en < b) = bC := ⟨_, rfl⟩
                have HbC := Lib.hid hbC
                clear hbC
                go_upto_region 43 with fail
                go_cut [213] from 206 to 212 (fun c wx => Value.bool bC = c ∧ wc = wx)
                case first =>
                  rcases z3 with ⟨n1, i1, i2⟩ | ⟨n1, i1⟩ | ⟨n1, i1, i2⟩
                  all_goals
                    go_wp2_with fail
                    go_meet
                    case rel => exact ⟨congrArg Value.bool (HbC.out.symm.trans (by first | exact decide_eq_true n1.out | exact decide_eq_false n1.out)), rfl⟩
                case rest =>
                  obtain ⟨rfl, rfl⟩ := hcut
                  clear z3
                  cases bC
                  · go_wp2_with fail
                    have s3 := HE2.out (of_decide_eq_false HbC.out) _ s2
                    first
                      | exact bodyPost_ret (results_none (by rfl) _ _ _) rfl ⟨rfl, s3.1, s3.2⟩
                      | (go_end0; exact ⟨rfl, s3.1, s3.2⟩)
                  · go_wp2_with (go_at_call 115; with_reducible refine (HC2.out (of_decide_eq_true HbC.out) _ s2).mono ?_; rintro e w1 ⟨rfl, s3⟩)
                    first
                      | exact bodyPost_ret (results_none (by rfl) _ _ _) rfl ⟨rfl, s3.1, s3.2⟩
                      | (go_end0; exact ⟨rfl, s3.1, s3.2⟩)
/-- the merge of two sorted pieces -/
theorem sym_any : ∀ (N : Nat) (B g n cap : Nat), n ≤ 1000 → SymIH B g n cap N := by
  intro N
  induction N with
  | zero => intro B g n cap hn a m b X u v Y W _ _ _ _ _ _ h; omega
  | succ N ih =>
    intro B g n cap hn a m b X u v Y W h ha hm hb h1 h2 hlt hu hv
    rcases Nat.lt_or_ge u.length 2 with q1 | q1
    · obtain ⟨x0, rfl⟩ := List.length_eq_one_iff.1 (show u.length = 1 by omega)
      exact sym_one B g n cap a m b X x0 v Y W h ha (by simp at hm; omega) hb hv hn
    rcases Nat.lt_or_ge v.length 2 with q2 | q2
    · obtain ⟨y0, rfl⟩ := List.length_eq_one_iff.1 (show v.length = 1 by omega)
      exact sym_two B g n cap a m b X u y0 Y W h ha hm (by simp at hb; omega) hu q1 hn
    exact sym_gen B g n cap a m b X u v Y W h ha hm hb q1 q2 hu hv hn (fun a' m' b' X' u' v' Y' W' g1 g2 g3 g4 g5 g6 g7 g8 g9 => ih B g n cap hn a' m' b' X' u' v' Y' W' g1 g2 g3 g4 g5 g6 (by omega) g8 g9)
end Go.Proofs.YtgjooigolgdocaaGreatDoor

/- Cookies: the stable sort of a row. -/
namespace Go.Proofs.YtgjooigolgdocaaGreatDoor
set_option linter.unusedVariables false
set_option linter.unusedSimpArgs false
open Go.RowKit Go.Sort

theorem insS_one (l : List Ck) (h : l.length ≤ 1) : insS ltC l = l := by
  match l, h with
  | [], _ => rfl
  | [x], _ => rfl
set_option maxRecDepth 20000 in
set_option maxHeartbeats 8000000 in
theorem stable_any (B g n cap : Nat) (l : List Ck) (W : World) (h : RowC W B g n cap l.toArray) (hn : n ≤ 1000) :
    Calls Tryz.prog 95 #[.slice (some ⟨g, 0, none⟩) n cap, .int .i64 n, .func (.func 62) #[] #[]] W fun e W' => e = .returned (.tuple #[]) ∧ RowC W' B g n cap (insS ltC l).toArray ∧ BelowBut W.heap.size g W W' := by
  have hnl : n = l.length := by have := h.size; simp at this; omega
  have CI := Lib.hid (fun (a b : Nat) (d : Array Ck) (W : World) (h : RowC W B g n cap d) (hab : a ≤ b) (hb : b ≤ n) => ins_any B g n cap a b d W h hab hb hn)
  have CS := Lib.hid (fun (a m b : Nat) (X u v Y : List Ck) (W : World) (h : RowC W B g n cap (X ++ u ++ v ++ Y).toArray) (ha : a = X.length) (hm : m = a + u.length) (hb : b = m + v.length) (h1 : a < m) (h2 : m < b) (hu : Srt ltC u) (hv : Srt ltC v) => sym_any (b - a + 1) B g n cap hn a m b X u v Y W h ha hm hb h1 h2 (by omega) hu hv)
  have HP0 := Lib.hid (P1.start ltC l)
  have HNL := Lib.hid hnl
  have HR0 := Lib.hid h
  clear h hnl
  go_enter Tryz.func95, Tryz.ntmps95
  go_wp2_with fail
  go_loopw [7, 8] (fun va vb wr => ∃ (a b : Nat) (d : Array Ck), va = .int .i64 a ∧ vb = .int .i64 b ∧ Hid (b = a + 20) ∧ a ≤ n ∧ b ≤ 2000 ∧ Hid (P1 ltC l a d) ∧ RowC wr B g n cap d ∧ BelowBut W.heap.size g W wr) (fun _ vb _ => n + 21 - (intOf vb).toNat)
  case atStart => exact ⟨0, 20, l.toArray, rfl, rfl, Lib.hid rfl, Nat.zero_le _, by omega, HP0, HR0.out, BelowBut.refl _ _ _⟩
  case round =>
    obtain ⟨a, b, d, rfl, rfl, hab, han, hb2, hP, hrk, hbk⟩ := hrel
    by_cases hlt : b ≤ n
    · have hlz : (b : Int) ≤ (n : Int) := by omega
      have hPp := hP.out.parts ltC (by have := hab.out; have := HNL.out; omega)
      obtain ⟨X, L, Y, hd, ha, hL, hne, hN⟩ := hPp
      have CR := CI.out a b d wr hrk (by have := hab.out; omega) hlt
      rw [hd, insertion_is ltC X L Y a b ha (by have := hab.out; omega) hne] at CR
      obtain ⟨d2, hd2⟩ : ∃ d2, (X ++ insS ltC L ++ Y).toArray = d2 := ⟨_, rfl⟩
      rw [hd2] at CR hN
      obtain ⟨b', hb'⟩ : ∃ b', b + 20 = b' := ⟨_, rfl⟩
      have hN2 : P1 ltC l b d2 := by have e : b = a + 20 := hab.out; rw [e]; exact hN
      have HN := Lib.hid hN2
      have HCR := Lib.hid CR
      have HB := Lib.hid (show b' = b + 20 by omega)
      have hbz : (b : Int) + 20 = (b' : Int) := by omega
      have hb2' : b' ≤ 2000 := by omega
      clear CR hN hN2 hd hd2 ha hL hne hb'
      go_wp2_with (go_at_call 114; with_reducible refine HCR.out.mono ?_; rintro e w2 ⟨rfl, hr2, hbb2⟩)
      go_roundw
      case rel => exact ⟨b, b', d2, rfl, by first | rfl | (congr 1; omega), HB, hlt, hb2', HN, hr2, hbk.stepb hbb2 hbk.size⟩
      case measure => have := HB.out; simp [intOf]; omega
    · have hd : decide ((b : Int) ≤ (n : Int)) = false := decide_eq_false (by omega)
      have CR := CI.out a n d wr hrk han (Nat.le_refl _)
      have hE : insertionSort ltC d a n = (cs ltC 20 l).toArray := by
        have h1 := hab.out
        have h2 := HNL.out
        rcases Nat.lt_or_ge a n with h3 | h3
        · obtain ⟨X, L, Y, hd, ha, hL, hne, hN⟩ := hP.out.last ltC (by omega) (by omega)
          rw [hd, insertion_is ltC X L Y a n ha (by omega) hne, hN]
        · rw [insertion_none ltC d a n (by omega)]
          exact hP.out.done ltC (by omega)
      rw [hE] at CR
      have HCR := Lib.hid CR
      clear CR hE
      go_wp2_with (go_at_call 114; with_reducible refine HCR.out.mono ?_; rintro e w2 ⟨rfl, hr2, hbb2⟩)
      have hbk2 := hbk.stepb hbb2 hbk.size
      clear hbb2 hrk hbk hP hab hd
      go_loopw [6] (fun vs w3 => ∃ bs : Nat, vs = .int .i64 bs ∧ 0 < bs ∧ bs ≤ 2000 ∧ RowC w3 B g n cap (cs ltC bs l).toArray ∧ BelowBut W.heap.size g W w3) (fun vs _ => n - (intOf vs).toNat)
      case atStart => exact ⟨20, rfl, by omega, by omega, hr2, hbk2⟩
      case round =>
        obtain ⟨bs, rfl, hbs0, hbs, hr3, hbk3⟩ := hrel
        by_cases hlt2 : bs < n
        · have hlz2 : (bs : Int) < (n : Int) := by omega
          obtain ⟨c0, hc0⟩ : ∃ c0, 2 * bs = c0 := ⟨_, rfl⟩
          have hc1 : (2 : Int) * (bs : Int) = (c0 : Int) := by omega
          have hc2 : (bs : Int) * 2 = (c0 : Int) := by omega
          have hc00 : bs < c0 := by omega
          have hc04 : c0 ≤ 2000 := by omega
          have HC0 := Lib.hid hc0
          have hPs := P2.start ltC (l := l) hbs0
          have HPS := Lib.hid hPs
          clear hc0 hPs
          go_wp2_with fail
          go_loopw [7, 8] (fun va vc wz => ∃ (a c : Nat) (d : Array Ck), va = .int .i64 a ∧ vc = .int .i64 c ∧ Hid (c = a + c0) ∧ a ≤ n ∧ c ≤ 4000 ∧ Hid (P2 ltC bs l a d) ∧ RowC wz B g n cap d ∧ BelowBut W.heap.size g W wz) (fun _ vc _ => n + c0 + 1 - (intOf vc).toNat)
          case atStart => exact ⟨0, c0, _, rfl, rfl, Lib.hid (by omega), Nat.zero_le _, by omega, HPS, hr3, hbk3⟩
          case round =>
            obtain ⟨a, c, d, rfl, rfl, hac, han, hc4, hP, hrk, hbk⟩ := hrel
            obtain ⟨e, he⟩ : ∃ e, a + bs = e := ⟨_, rfl⟩
            have hez : (a : Int) + (bs : Int) = (e : Int) := by omega
            by_cases hlt3 : c ≤ n
            · have hlz3 : (c : Int) ≤ (n : Int) := by omega
              obtain ⟨X, u, v, Y, hd, ha, hu, hv, su, sv, hN⟩ := hP.out.parts ltC swoC (by have := hac.out; have := HNL.out; have := HC0.out; omega)
              have hrk2 := hrk
              rw [hd] at hrk2
              have CR := CS.out a e c X u v Y wr hrk2 ha (by omega) (by have := hac.out; have := HC0.out; omega) (by omega) (by have := hac.out; have := HC0.out; omega) su sv
              obtain ⟨d2, hd2⟩ : ∃ d2, (X ++ mg ltC u v ++ Y).toArray = d2 := ⟨_, rfl⟩
              rw [hd2] at CR hN
              have hN2 : P2 ltC bs l c d2 := by have q : c = a + 2 * bs := by (have := hac.out; have := HC0.out; omega)
                                                rw [q]; exact hN
              obtain ⟨c', hc'⟩ : ∃ c', c + c0 = c' := ⟨_, rfl⟩
              have hcz : (c : Int) + (c0 : Int) = (c' : Int) := by omega
              have HN := Lib.hid hN2
              have HCR := Lib.hid CR
              have HC := Lib.hid (show c' = c + c0 by omega)
              have hc4' : c' ≤ 4000 := by omega
              have he2 : e ≤ 4000 := by omega
              clear CR hN hN2 hd hd2 ha hu hv hc' he hrk2
              go_wp2_with (go_at_call 115; with_reducible refine HCR.out.mono ?_; rintro x w5 ⟨rfl, hr5, hb5⟩)
              go_roundw
              case rel => exact ⟨c, c', d2, rfl, by first | rfl | (congr 1; omega), HC, hlt3, hc4', HN, hr5, hbk.stepb hb5 hbk.size⟩
              case measure => have := HC.out; simp [intOf]; omega
            · have hd3 : decide ((c : Int) ≤ (n : Int)) = false := decide_eq_false (by omega)
              by_cases hlt4 : e < n
              · have hlz4 : (e : Int) < (n : Int) := by omega
                obtain ⟨X, u, v, Y, hd, ha, hu, hv, su, sv, hN⟩ := hP.out.last ltC swoC (by have := hac.out; have := HNL.out; have := HC0.out; omega) (by have := HNL.out; omega)
                have hrk2 := hrk
                rw [hd] at hrk2
                have CR := CS.out a e n X u v Y wr hrk2 ha (by omega) (by have := HNL.out; omega) (by omega) (by omega) su sv
                rw [hN, HC0.out] at CR
                have HCR := Lib.hid CR
                have he2 : e ≤ 4000 := by omega
                clear CR hN hd ha hu hv he hrk2
                go_wp2_with (go_at_call 115; with_reducible refine HCR.out.mono ?_; rintro x w5 ⟨rfl, hr5, hb5⟩)
                go_roundw
                case rel => exact ⟨c0, by first | rfl | (congr 1; omega), by omega, hc04, hr5, hbk.stepb hb5 hbk.size⟩
                case measure => simp [intOf]; omega
              · have hd4 : decide ((e : Int) < (n : Int)) = false := decide_eq_false (by omega)
                have hN := hP.out.done ltC (by have := HNL.out; omega)
                rw [HC0.out] at hN
                have hr5 : RowC wr B g n cap (cs ltC c0 l).toArray := by rw [← hN]; exact hrk
                have he2 : e ≤ 4000 := by omega
                clear hN he hrk
                go_wp2_with fail
                go_roundw
                case rel => exact ⟨c0, by first | rfl | (congr 1; omega), by omega, hc04, hr5, hbk⟩
                case measure => simp [intOf]; omega
        · have hd2 : decide ((bs : Int) < (n : Int)) = false := decide_eq_false (by omega)
          have hcs : cs ltC bs l = insS ltC l := cs_short ltC bs l hbs0 (by have := HNL.out; omega)
          rw [hcs] at hr3
          clear hcs
          go_wp2_with fail
          go_end0
          exact ⟨rfl, hr3, hbk3⟩
/-- what SortStableFunc makes of up to 1000 cookies: stable insertions -/
theorem sort_long (hits : List Ck) (hl : hits.length ≤ 1000) : SortTo hits (insS ltC hits) := by
  rcases Nat.lt_or_ge hits.length 2 with h1 | h1
  · rw [insS_one hits (by omega)]; exact sort_short hits (by omega)
  intro W B v hown hB
  obtain ⟨a, cap, rfl, hc, hm, ha⟩ := own_reads hown
  rcases ha with ⟨rfl, h2⟩ | ⟨g, rfl, hg, _, _⟩
  · omega
  have hR : RowC W B g hits.length cap hits.toArray := ⟨by simp, hown⟩
  have CII := Lib.hid (stable_any B g hits.length cap hits W hR hl)
  have hlen : (insS ltC hits).length = hits.length := insS_length ltC hits
  have HL := Lib.hid hlen
  have hlb : hits.length ≤ 1000 := hl
  clear hown hR hlen
  go_enter Tryz.func61, Tryz.ntmps61
  go_wp2_with (go_at_call 95; with_reducible refine CII.out.mono ?_; rintro x w1 ⟨rfl, hr1, hb1⟩)
  go_end0
  have h9 := hr1.2
  exact ⟨rfl, by rw [HL.out]; exact h9, hb1.to_below (Below.refl _ W) hB hg⟩
end Go.Proofs.YtgjooigolgdocaaGreatDoor
