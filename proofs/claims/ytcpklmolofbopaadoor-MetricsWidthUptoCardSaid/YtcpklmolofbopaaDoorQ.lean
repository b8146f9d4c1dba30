/- Plain laws on lines: the code's lines are the reference's; what a line covers; a greater width does not need more lines. -/
import Derived.Test.YtcpklmolofbopaaDoorH
import Derived.Test.YtcpklmolofbopaaDoorP
namespace Go.Proofs.YtcpklmolofbopaaDoor
open Go.RowKit

theorem white_lt (r : Int) (h : white r = true) : r < 128 := by
  simp [white] at h; omega
/-- what is known of a break: it lies between two characters, and no white space stands behind it -/
theorem brk_good (l : List UInt8) : ∀ (f p : Nat) (q : Option Int), l.length - p ≤ f → Cut l p → ∀ x ∈ brk q (chFrom l p), Cut l x ∧ white ((l.getD x 0).toNat : Int) = false := by
  intro f
  induction f with
  | zero => intro p q h _ x hx; rw [chFrom_end l p (by omega)] at hx; cases q <;> simp [brk] at hx
  | succ f ih =>
    intro p q h hp x hx
    by_cases hlt : p < l.length
    · rw [chFrom_cons l p hlt] at hx
      have hw := Lib.decodeL_width (l.drop p)
      have hne : l.drop p ≠ [] := by intro e; have := congrArg List.length e; simp at this; omega
      have hnext : Cut l (p + (Lib.decodeL (l.drop p)).2) := Cut.add p l _ hp (Cut.step hne (Nat.le_refl _) (by rw [Nat.sub_self]; exact .zero _))
      cases q with
      | none => rw [brk] at hx; exact ih _ _ (by omega) hnext x hx
      | some q =>
        rw [brk] at hx
        split at hx
        · rename_i hm
          rcases List.mem_cons.1 hx with rfl | hx
          · refine ⟨hp, ?_⟩
            cases hwh : white ((l.getD x 0).toNat : Int) with
            | false => rfl
            | true =>
              have h128 := white_lt _ hwh
              have hd : Lib.decodeL (l.drop x) = ((l.getD x 0).toNat, 1) := by
                rw [Lib.decodeL_N]
                have e0 : (l.drop x).getD 0 0 = l.getD x 0 := by simp [List.getD_eq_getElem?_getD, List.getElem?_drop]
                rw [e0]
                exact dec_A _ _ _ _ _ (by omega)
              rw [hd] at hm
              unfold mayB at hm
              rw [if_pos (.inl hwh)] at hm
              exact absurd hm (by decide)
          · exact ih _ _ (by omega) hnext x hx
        · exact ih _ _ (by omega) hnext x hx
    · rw [chFrom_end l p (by omega)] at hx; cases q <;> simp [brk] at hx
theorem breaks_good (l : List UInt8) (x : Nat) (h : x ∈ breaks l) : Cut l x ∧ white ((l.getD x 0).toNat : Int) = false := brk_good l _ 0 none (Nat.le_refl _) (.zero l) x h
theorem ends_cut (l : List UInt8) (x : Nat) (h : x ∈ ends l) : Cut l x := by
  rcases List.mem_append.1 h with h | h
  · exact (breaks_good l x h).1
  · simp at h; subst h; exact cut_len l
theorem trim_cut (l : List UInt8) (a b : Nat) (hab : a ≤ b) (ha : Cut l a) (hb : Cut l b) : Cut l (trimTo l a b) := by
  have h1 := trimTo_le l a b
  have h2 := trimTo_ge l a b hab
  rcases Nat.lt_or_ge (trimTo l a b) b with h | h
  · have hw := trimTo_white l a b (trimTo l a b) (Nat.le_refl _) h
    have := white_lt _ hw
    exact cut_ascii _ l (by have := hb.le; omega) (by omega)
  · rw [show trimTo l a b = b by omega]; exact hb
/-- the width of a line -/
theorem partL_w (l : List UInt8) (n : Int) (a b : Nat) (hab : a ≤ b) (ha : Cut l a) (hb : Cut l b) : (partL l n a b).2.2.2 = width (l.drop a) n - width (l.drop (trimTo l a b)) n :=
  width_sub l n a (trimTo l a b) ha (trim_cut l a b hab ha hb) (trimTo_ge l a b hab)
theorem trim_mono (l : List UInt8) (a b c : Nat) (hab : a ≤ b) (hbc : b < c) (hw : white ((l.getD b 0).toNat : Int) = false) : b < trimTo l a c := by
  rcases Nat.lt_or_ge b (trimTo l a c) with h | h
  · exact h
  · have := trimTo_white l a c b h hbc
    rw [this] at hw; cases hw
/-- a line that ends later is not narrower -/
theorem partL_mono (l : List UInt8) (n : Int) (a b c : Nat) (hb : b ∈ ends l) (hc : c ∈ ends l) (ha : Cut l a) (hab : a ≤ b) (hbc : b ≤ c) : (partL l n a b).2.2.2 ≤ (partL l n a c).2.2.2 := by
  rcases Nat.lt_or_ge b c with h | h
  · have kb := ends_cut l b hb
    have kc := ends_cut l c hc
    rw [partL_w l n a b hab ha kb, partL_w l n a c (by omega) ha kc]
    have h1 := trimTo_le l a b
    have hbl : b ∈ breaks l := by
      rcases List.mem_append.1 hb with h2 | h2
      · exact h2
      · simp at h2; have := kc.le; omega
    have h3 := trim_mono l a b c hab h (breaks_good l b hbl).2
    have := width_drop_le l n (trimTo l a b) (trimTo l a c) (trim_cut l a b hab ha kb) (trim_cut l a c (by omega) ha kc) (by omega)
    omega
  · rw [show b = c by omega]; exact Int.le_refl _
theorem scan_none (l : List UInt8) (n wd : Int) (fr : Nat) : ∀ (es : List Nat) (nx : Int), 0 ≤ nx → (∀ x ∈ es, wd < (partL l n fr x).2.2.2) → scan l n wd fr nx es = nx := by
  intro es
  induction es with
  | nil => intro nx _ _; rfl
  | cons e es ih =>
    intro nx h0 h
    have h1 := h e List.mem_cons_self
    have h2 := ih nx h0 fun x hx => h x (List.mem_cons_of_mem _ hx)
    by_cases he : e ≤ fr
    · rw [scan_skip _ _ _ _ _ _ _ he, h2]
    · rw [scan_drop _ _ _ _ _ _ _ he (by omega), h2]
theorem scan_skips (l : List UInt8) (n wd : Int) (fr : Nat) (es : List Nat) : ∀ (pre : List Nat) (nx : Int), (∀ x ∈ pre, x ≤ fr) → scan l n wd fr nx (pre ++ es) = scan l n wd fr nx es := by
  intro pre
  induction pre with
  | nil => intro nx _; rfl
  | cons e pre ih =>
    intro nx h
    rw [List.cons_append, scan_skip _ _ _ _ _ _ _ (h e List.mem_cons_self)]
    exact ih nx fun x hx => h x (List.mem_cons_of_mem _ hx)
theorem rgo_end (l : List UInt8) (n wd : Int) (f fr : Nat) (h : l.length ≤ fr) : rgo l n wd f fr = [] := by
  cases f with
  | zero => rfl
  | succ f => rw [rgo, if_neg (by omega)]

/-- the code's lines are the reference's -/
theorem goL_rgo (l : List UInt8) (n wd : Int) : ∀ (es pre : List Nat) (cur fr f : Nat), ends l = pre ++ cur :: es → fr < cur → Cut l fr → l.length ≤ fr + f →
    scan l n wd fr (-1) (ends l) = scan l n wd fr cur es → goL l n wd fr (partL l n fr cur) es = rgo l n wd f fr := by
  intro es
  induction es with
  | nil =>
    intro pre cur fr f hE hfc hcut hf hs
    have hcur : cur = l.length := by
      have h1 := congrArg List.getLast? hE
      simp [ends] at h1
      exact h1.symm
    obtain ⟨f, rfl⟩ : ∃ g, f = g + 1 := ⟨f - 1, by omega⟩
    rw [goL_nil, rgo, if_pos (by omega), hs, scan, Int.toNat_natCast, rgo_end _ _ _ _ _ (by omega)]
  | cons e es ih =>
    intro pre cur fr f hE hfc hcut hf hs
    have hasc := ends_asc l
    have hce : cur < e := by
      rw [hE] at hasc
      exact (List.pairwise_cons.1 (List.pairwise_append.1 hasc).2.1).1 e List.mem_cons_self
    have hpre : ∀ x ∈ pre ++ [cur], x ≤ cur := by
      intro x hx
      rw [hE] at hasc
      rcases List.mem_append.1 hx with hx | hx
      · exact Nat.le_of_lt ((List.pairwise_append.1 hasc).2.2 x hx cur List.mem_cons_self)
      · simp at hx; omega
    have hcm : cur ∈ ends l := by rw [hE]; simp
    have hem : e ∈ ends l := by rw [hE]; simp
    have hE2 : ends l = (pre ++ [cur]) ++ e :: es := by rw [hE]; simp
    by_cases hfit : wd < (partL l n fr e).2.2.2
    · rw [goL_yes l n wd fr _ e es hfc hfit]
      have hno : ∀ x ∈ e :: es, wd < (partL l n fr x).2.2.2 := by
        intro x hx
        rcases List.mem_cons.1 hx with rfl | hx
        · exact hfit
        · have hex : e < x := by
            rw [hE2] at hasc
            exact (List.pairwise_cons.1 (List.pairwise_append.1 hasc).2.1).1 x hx
          have := partL_mono l n fr e x hem (by rw [hE2]; simp [hx]) hcut (by omega) (by omega)
          omega
      rw [scan_none l n wd fr (e :: es) cur (by omega) hno] at hs
      obtain ⟨f, rfl⟩ : ∃ g, f = g + 1 := ⟨f - 1, by have := (ends_cut l cur hcm).le; omega⟩
      have hcl : cur ≤ l.length := ends_le l cur hcm
      have hel : e ≤ l.length := ends_le l e hem
      rw [rgo, if_pos (by omega), hs, Int.toNat_natCast]
      congr 1
      refine ih (pre ++ [cur]) e cur f hE2 hce (ends_cut l cur hcm) (by omega) ?_
      rw [hE2, scan_skips l n wd cur _ _ _ hpre, scan_take _ _ _ _ _ _ _ (by omega) (.inl (by omega))]
    · rw [goL_no l n wd fr _ e es (fun h => hfit h.2)]
      refine ih (pre ++ [cur]) e fr f hE2 (by omega) hcut hf ?_
      rw [hs, scan_take _ _ _ _ _ _ _ (by omega) (.inr (by omega))]
theorem lines_eq (l : List UInt8) (n wd : Int) (hl : l ≠ []) : goL l n wd 0 (0, 0, 0, 0) (ends l) = rgo l n wd l.length 0 := by
  obtain ⟨e, es, hE⟩ : ∃ e es, ends l = e :: es := by
    cases h : ends l with
    | nil => simp [ends] at h
    | cons e es => exact ⟨e, es, rfl⟩
  have he0 : 0 < e := by
    have hm : e ∈ ends l := by rw [hE]; simp
    rcases List.mem_append.1 hm with h | h
    · exact (breaks_mem l e h).1
    · simp at h; subst h; exact List.length_pos_iff.2 hl
  rw [hE, goL_no l n wd 0 _ e es (by simp)]
  refine goL_rgo l n wd es [] e 0 l.length hE he0 (.zero l) (by omega) ?_
  rw [hE, scan_take _ _ _ _ _ _ _ (by omega) (.inl (by omega))]
end Go.Proofs.YtcpklmolofbopaaDoor
