/- Plain laws: a greater width does not need more lines; the beginning that fits; the nearest boundary. -/
import Derived.Test.YtcpklmolofbopaaDoorQ
import Derived.Test.YtcpklmolofbopaaDoorJ
namespace Go.Proofs.YtcpklmolofbopaaDoor
open Go.RowKit

/-- what the reference takes: it fits, or it is the first behind the line's beginning -/
theorem scan_char (l : List UInt8) (n wd : Int) (fr : Nat) : ∀ (es : List Nat) (nx : Int), es.Pairwise (· < ·) →
    scan l n wd fr nx es = nx ∨ ∃ e ∈ es, fr < e ∧ scan l n wd fr nx es = e ∧ ((partL l n fr e).2.2.2 ≤ wd ∨ (nx < 0 ∧ ∀ x ∈ es, fr < x → e ≤ x)) := by
  intro es
  induction es with
  | nil => intro nx _; exact .inl rfl
  | cons e es ih =>
    intro nx hp
    obtain ⟨hp1, hp2⟩ := List.pairwise_cons.1 hp
    by_cases h : e ≤ fr
    · rw [scan_skip _ _ _ _ _ _ _ h]
      rcases ih nx hp2 with h1 | ⟨y, h1, h2, h3, h4⟩
      · exact .inl h1
      · refine .inr ⟨y, List.mem_cons_of_mem _ h1, h2, h3, h4.imp id fun ⟨g1, g2⟩ => ⟨g1, fun x hx hf => ?_⟩⟩
        rcases List.mem_cons.1 hx with rfl | hx
        · omega
        · exact g2 x hx hf
    · by_cases h2 : nx < 0 ∨ (partL l n fr e).2.2.2 ≤ wd
      · rw [scan_take _ _ _ _ _ _ _ h h2]
        have hfirst : ∀ x ∈ e :: es, fr < x → e ≤ x := fun x hx _ => by
          rcases List.mem_cons.1 hx with rfl | hx
          · exact Nat.le_refl _
          · exact Nat.le_of_lt (hp1 x hx)
        rcases ih e hp2 with h1 | ⟨y, h1, h3, h4, h5⟩
        · exact .inr ⟨e, List.mem_cons_self, by omega, h1, h2.symm.imp id fun g => ⟨g, hfirst⟩⟩
        · refine .inr ⟨y, List.mem_cons_of_mem _ h1, h3, h4, h5.elim .inl fun ⟨g, _⟩ => ?_⟩
          omega
      · rw [scan_drop _ _ _ _ _ _ _ h h2]
        rcases ih nx hp2 with h1 | ⟨y, h1, h3, h4, h5⟩
        · exact .inl h1
        · exact .inr ⟨y, List.mem_cons_of_mem _ h1, h3, h4, h5.elim .inl fun ⟨g, _⟩ => absurd (.inl g) h2⟩
theorem scan_ge (l : List UInt8) (n wd : Int) (fr e : Nat) (hfe : fr < e) (hfit : (partL l n fr e).2.2.2 ≤ wd) : ∀ (es : List Nat) (nx : Int), es.Pairwise (· < ·) → e ∈ es → (e : Int) ≤ scan l n wd fr nx es := by
  intro es
  induction es with
  | nil => intro nx _ h; cases h
  | cons x es ih =>
    intro nx hp he
    obtain ⟨hp1, hp2⟩ := List.pairwise_cons.1 hp
    rcases List.mem_cons.1 he with rfl | he
    · rw [scan_take _ _ _ _ _ _ _ (by omega) (.inr hfit)]
      rcases scan_mem l n wd fr es e with h1 | ⟨y, h1, _, h3⟩
      · omega
      · have := hp1 y h1; omega
    · by_cases h : x ≤ fr
      · rw [scan_skip _ _ _ _ _ _ _ h]; exact ih nx hp2 he
      · by_cases h2 : nx < 0 ∨ (partL l n fr x).2.2.2 ≤ wd
        · rw [scan_take _ _ _ _ _ _ _ h h2]; exact ih _ hp2 he
        · rw [scan_drop _ _ _ _ _ _ _ h h2]; exact ih _ hp2 he
theorem trimTo_max (l : List UInt8) (a a' : Nat) (h : a ≤ a') : ∀ b, a' ≤ b → trimTo l a' b = max a' (trimTo l a b) := by
  intro b
  induction b with
  | zero => intro hb; simp [trimTo]; omega
  | succ b ih =>
    intro hb
    by_cases h1 : a' < b + 1 ∧ white ((l.getD b 0).toNat : Int) = true
    · rw [trimTo, if_pos h1, trimTo, if_pos ⟨by omega, h1.2⟩]
      exact ih (by omega)
    · rw [trimTo, if_neg h1]
      by_cases h2 : a < b + 1 ∧ white ((l.getD b 0).toNat : Int) = true
      · have : a' = b + 1 := by
          by_cases h3 : a' < b + 1
          · exact absurd ⟨h3, h2.2⟩ h1
          · omega
        have := trimTo_le l a (b + 1)
        omega
      · rw [trimTo, if_neg h2]; omega
theorem partL_later (l : List UInt8) (n wd : Int) (a a' e : Nat) (h : a ≤ a') (hae : a' ≤ e) (ha : Cut l a) (ha' : Cut l a') (he : Cut l e) (hfit : (partL l n a e).2.2.2 ≤ wd) : (partL l n a' e).2.2.2 ≤ wd := by
  rw [partL_w l n a e (by omega) ha he] at hfit
  rw [partL_w l n a' e hae ha' he, trimTo_max l a a' h e hae]
  have h1 := width_drop_le l n a a' ha ha' h
  rcases Nat.le_total (trimTo l a e) a' with h2 | h2
  · rw [Nat.max_eq_left h2]
    have := width_drop_le l n a (trimTo l a e) ha (trim_cut l a e (by omega) ha he) (trimTo_ge l a e (by omega))
    omega
  · rw [Nat.max_eq_right h2]; omega
theorem next_ex (l : List UInt8) (fr : Nat) (h : fr < l.length) : ∃ e ∈ ends l, fr < e := ⟨l.length, by simp [ends], h⟩
/-- with a greater width, and a later beginning, a line ends no earlier -/
theorem next_le (l : List UInt8) (n a b : Int) (hab : a ≤ b) (fa fb : Nat) (hf : fa ≤ fb) (hb : fb < l.length) (ca : Cut l fa) (cb : Cut l fb) :
    scan l n a fa (-1) (ends l) ≤ scan l n b fb (-1) (ends l) := by
  obtain ⟨tb, hb1, hb2, hb3⟩ := scan_pos l n b fb (ends l) (-1) (next_ex l fb hb) (by omega)
  rcases scan_char l n a fa (ends l) (-1) (ends_asc l) with h | ⟨ta, h1, h2, h3, h4⟩
  · rw [h, hb3]; omega
  · rw [h3]
    rcases Nat.lt_or_ge fb ta with h5 | h5
    · rcases h4 with h6 | ⟨_, h6⟩
      · exact scan_ge l n b fb ta h5 (by have := partL_later l n a fa fb ta hf (by omega) ca cb (ends_cut l ta h1) h6; omega) (ends l) (-1) (ends_asc l) h1
      · rw [hb3]; have := h6 tb hb1 (by omega); omega
    · rw [hb3]; omega
theorem narrow (l : List UInt8) (n a b : Int) (hab : a ≤ b) : ∀ (f fa fb : Nat), fa ≤ fb → l.length ≤ fa + f → Cut l fa → Cut l fb → (rgo l n b f fb).length ≤ (rgo l n a f fa).length := by
  intro f
  induction f with
  | zero => intro fa fb _ _ _ _; simp [rgo]
  | succ f ih =>
    intro fa fb hf hl ca cb
    rcases Nat.lt_or_ge fb l.length with h | h
    · have hn := next_le l n a b hab fa fb hf h ca cb
      obtain ⟨ta, a1, a2, a3⟩ := scan_pos l n a fa (ends l) (-1) (next_ex l fa (by omega)) (by omega)
      obtain ⟨tb, b1, b2, b3⟩ := scan_pos l n b fb (ends l) (-1) (next_ex l fb h) (by omega)
      rw [a3, b3] at hn
      rw [rgo, if_pos h, rgo, if_pos (by omega), a3, b3]
      simp only [Int.toNat_natCast, List.length_cons]
      have := ih ta tb (by omega) (by omega) (ends_cut l ta a1) (ends_cut l tb b1)
      omega
    · rw [rgo_end _ _ _ _ _ h]; simp

/-- the next boundary behind one -/
def nxt (l : List UInt8) (p : Nat) : Nat := p + (Lib.decodeL (l.drop p)).2
theorem nxt_cut (l : List UInt8) (p : Nat) (hp : Cut l p) (h : p < l.length) : Cut l (nxt l p) := by
  have hne : l.drop p ≠ [] := by intro e; have := congrArg List.length e; simp at this; omega
  exact Cut.add p l _ hp (Cut.step hne (Nat.le_refl _) (by rw [Nat.sub_self]; exact .zero _))
theorem nxt_le (l : List UInt8) (p : Nat) (hp : Cut l p) (h : p < l.length) : p < nxt l p ∧ nxt l p ≤ l.length := by
  have hw := Lib.decodeL_width (l.drop p)
  exact ⟨by unfold nxt; omega, (nxt_cut l p hp h).le⟩
theorem width_nxt (l : List UInt8) (n : Int) (p : Nat) (hp : Cut l p) (h : p < l.length) : width (l.take (nxt l p)) n = width (l.take p) n + char (Lib.decodeL (l.drop p)).1 n := by
  have h1 := width_cut n p l hp
  have h2 := width_cut n (nxt l p) l (nxt_cut l p hp h)
  have hne : l.drop p ≠ [] := by intro e; have := congrArg List.length e; simp at this; omega
  have h3 := width_cons (l.drop p) n hne
  rw [List.drop_drop] at h3
  unfold nxt at *
  omega
/-- the offsets behind an offset -/
def offFrom (l : List UInt8) (p : Nat) : List Nat := (chFrom l p).map (·.1) ++ [l.length]
theorem offFrom_cons (l : List UInt8) (p : Nat) (h : p < l.length) : offFrom l p = p :: offFrom l (nxt l p) := by unfold offFrom nxt; rw [chFrom_cons l p h]; rfl
theorem offFrom_end (l : List UInt8) : offFrom l l.length = [l.length] := by unfold offFrom; rw [chFrom_end l _ (Nat.le_refl _)]; rfl
theorem offs_eq (l : List UInt8) : offs l = offFrom l 0 := rfl

/-- the beginning that fits -/
theorem fit_spec (l : List UInt8) (n wd : Int) (hwd : 0 ≤ wd) : ∀ (f p : Nat), l.length - p ≤ f → Cut l p → width (l.take p) n ≤ wd →
    ∃ r, fitFrom (chFrom l p) n (width (l.take p) n) wd l.length = r ∧ Cut l r ∧ width (l.take r) n ≤ wd ∧ (r = l.length ∨ (r < l.length ∧ wd < width (l.take (nxt l r)) n)) ∧ r ∈ offFrom l p := by
  intro f
  induction f with
  | zero =>
    intro p h hp hw
    have hpl := hp.le
    have e : p = l.length := by omega
    subst e
    rw [chFrom_end l _ (Nat.le_refl _), offFrom_end]
    exact ⟨l.length, by rw [fitFrom, if_neg (by omega)], hp, hw, .inl rfl, by simp⟩
  | succ f ih =>
    intro p h hp hw
    have hpl := hp.le
    rcases Nat.lt_or_ge p l.length with hlt | hge
    · rw [chFrom_cons l p hlt, offFrom_cons l p hlt]
      have hx := width_nxt l n p hp hlt
      by_cases hover : width (l.take p) n + char (Lib.decodeL (l.drop p)).1 n > wd
      · exact ⟨p, by rw [fitFrom, if_pos hover], hp, hw, .inr ⟨hlt, by omega⟩, by simp⟩
      · obtain ⟨r, h1, h2, h3, h4, h5⟩ := ih (nxt l p) (by have := (nxt_le l p hp hlt).1; omega) (nxt_cut l p hp hlt) (by omega)
        refine ⟨r, ?_, h2, h3, h4, by simp [h5]⟩
        rw [fitFrom, if_neg hover, ← hx]
        exact h1
    · have e : p = l.length := by omega
      subst e
      rw [chFrom_end l _ (Nat.le_refl _), offFrom_end]
      exact ⟨l.length, by rw [fitFrom, if_neg (by omega)], hp, hw, .inl rfl, by simp⟩
theorem fit_neg (l : List UInt8) (n wd : Int) (hwd : wd < 0) : fitFrom (chars l) n 0 wd l.length = 0 := by
  unfold chars
  rcases Nat.lt_or_ge 0 l.length with h | h
  · rw [chFrom_cons l 0 h, fitFrom, if_pos (by have := char_lo (Lib.decodeL (l.drop 0)).1 n; show 0 + char (Lib.decodeL (l.drop 0)).1 n > wd; omega)]
  · rw [chFrom_end l 0 h, fitFrom, if_pos hwd]
theorem offFrom_next (l : List UInt8) : ∀ (f p : Nat), l.length - p ≤ f → Cut l p → ∀ k (h : k + 1 < (offFrom l p).length), (offFrom l p)[k] < l.length ∧ (offFrom l p)[k + 1] = nxt l (offFrom l p)[k] := by
  intro f
  induction f with
  | zero =>
    intro p h hp k hk
    have e : p = l.length := by have := hp.le; omega
    subst e
    simp only [offFrom_end] at hk
    simp at hk
  | succ f ih =>
    intro p h hp k hk
    rcases Nat.lt_or_ge p l.length with hlt | hge
    · have hn := nxt_le l p hp hlt
      simp only [offFrom_cons l p hlt] at hk ⊢
      cases k with
      | zero =>
        refine ⟨hlt, ?_⟩
        simp only [List.getElem_cons_succ, List.getElem_cons_zero]
        rcases Nat.lt_or_ge (nxt l p) l.length with h2 | h2
        · simp only [offFrom_cons l (nxt l p) h2, List.getElem_cons_zero]
        · have e : nxt l p = l.length := by omega
          simp only [e, offFrom_end, List.getElem_cons_zero]
      | succ k =>
        simp only [List.getElem_cons_succ]
        exact ih (nxt l p) (by omega) (nxt_cut l p hp hlt) k (by simpa using hk)
    · have e : p = l.length := by have := hp.le; omega
      subst e
      simp only [offFrom_end] at hk
      simp at hk

theorem farN_max (a b : Int) : farN a b = max (a - b) (b - a) := by unfold farN; split <;> omega
/-- the code's offset is the reference's, at the clamped distance -/
theorem ogo_roff (l : List UInt8) (n X : Int) : ∀ (f p best : Nat), l.length - p ≤ f → Cut l p →
    ogo n X l.length (width (l.take p) n) best (dist l n X best) (chFrom l p) = roff l n X best (offFrom l p) := by
  intro f
  induction f with
  | zero =>
    intro p best h hp
    have e : p = l.length := by have := hp.le; omega
    subst e
    rw [chFrom_end l _ (Nat.le_refl _), offFrom_end, ogo, ← farN_max]
    show (if dist l n X l.length < dist l n X best then l.length else best) = _
    by_cases h1 : dist l n X l.length < dist l n X best
    · rw [if_pos h1, roff_yes _ _ _ _ _ _ h1, roff]
    · rw [if_neg h1, roff_no _ _ _ _ _ _ h1, roff]
  | succ f ih =>
    intro p best h hp
    rcases Nat.lt_or_ge p l.length with hlt | hge
    · have hn := nxt_le l p hp hlt
      have hx := width_nxt l n p hp hlt
      have e : max (width (l.take p) n - X) (X - width (l.take p) n) = dist l n X p := (farN_max _ _).symm
      rw [chFrom_cons l p hlt, offFrom_cons l p hlt, ogo, e]
      by_cases h1 : dist l n X p < dist l n X best
      · rw [if_pos h1, roff_yes _ _ _ _ _ _ h1, ← hx]
        exact ih (nxt l p) p (by omega) (nxt_cut l p hp hlt)
      · rw [if_neg h1, roff_no _ _ _ _ _ _ h1, ← hx]
        exact ih (nxt l p) best (by omega) (nxt_cut l p hp hlt)
    · have e : p = l.length := by have := hp.le; omega
      subst e
      rw [chFrom_end l _ (Nat.le_refl _), offFrom_end, ogo, ← farN_max]
      show (if dist l n X l.length < dist l n X best then l.length else best) = _
      by_cases h1 : dist l n X l.length < dist l n X best
      · rw [if_pos h1, roff_yes _ _ _ _ _ _ h1, roff]
      · rw [if_neg h1, roff_no _ _ _ _ _ _ h1, roff]
theorem take_cut_bd (l : List UInt8) (n : Int) (o : Nat) (h : Cut l o) : 0 ≤ width (l.take o) n ∧ width (l.take o) n ≤ width l n := by
  have h1 := width_cut n o l h
  have h2 := width_nonneg (l.take o) n
  have h3 := width_nonneg (l.drop o) n
  omega
theorem roff_congr (l : List UInt8) (n x : Int) : ∀ (os : List Nat) (b : Nat), Cut l b → (∀ o ∈ os, Cut l o) → roff l n (clampX l n x) b os = roff l n x b os := by
  intro os
  induction os with
  | nil => intro b _ _; rfl
  | cons o os ih =>
    intro b hb ho
    have h1 := take_cut_bd l n b hb
    have h2 := take_cut_bd l n o (ho o List.mem_cons_self)
    have e : dist l n (clampX l n x) o < dist l n (clampX l n x) b ↔ dist l n x o < dist l n x b := by
      unfold dist clampX
      simp only [farN_max]
      generalize width (l.take o) n = u at *
      generalize width (l.take b) n = v at *
      generalize width l n = W at *
      omega
    have ho' : ∀ x ∈ os, Cut l x := fun x hx => ho x (List.mem_cons_of_mem _ hx)
    by_cases h : dist l n x o < dist l n x b
    · rw [roff_yes _ _ _ _ _ _ h, roff_yes _ _ _ _ _ _ (e.2 h)]; exact ih o (ho o List.mem_cons_self) ho'
    · rw [roff_no _ _ _ _ _ _ h, roff_no _ _ _ _ _ _ (fun k => h (e.1 k))]; exact ih b hb ho'
theorem offs_cut (l : List UInt8) (o : Nat) (h : o ∈ offs l) : Cut l o := by
  rcases List.mem_append.1 h with h | h
  · obtain ⟨c, hc, rfl⟩ := List.mem_map.1 h
    exact cut_chFrom l _ 0 (Nat.le_refl _) (.zero l) c hc
  · simp at h; subst h; exact cut_len l
theorem offset_eq (l : List UInt8) (n x : Int) : offset l n x = roff l n x 0 (offs l) := by
  rw [← roff_congr l n x (offs l) 0 (.zero l) (offs_cut l)]
  have h := ogo_roff l n (clampX l n x) l.length 0 0 (by omega) (.zero l)
  have h0 : width (l.take 0) n = 0 := by rw [List.take_zero]; rfl
  have hX : dist l n (clampX l n x) 0 = clampX l n x := by
    have := width_nonneg l n
    unfold dist farN
    rw [h0]
    unfold clampX
    split <;> omega
  rw [h0, hX] at h
  exact h
theorem roff_min (l : List UInt8) (n x : Int) : ∀ (os : List Nat) (b : Nat), (roff l n x b os = b ∨ roff l n x b os ∈ os) ∧ dist l n x (roff l n x b os) ≤ dist l n x b ∧ ∀ o ∈ os, dist l n x (roff l n x b os) ≤ dist l n x o := by
  intro os
  induction os with
  | nil => intro b; exact ⟨.inl rfl, Int.le_refl _, fun o h => by cases h⟩
  | cons o os ih =>
    intro b
    by_cases h : dist l n x o < dist l n x b
    · rw [roff_yes _ _ _ _ _ _ h]
      obtain ⟨h1, h2, h3⟩ := ih o
      refine ⟨.inr (h1.elim (fun e => by rw [e]; exact List.mem_cons_self) (fun e => List.mem_cons_of_mem _ e)), by omega, fun y hy => ?_⟩
      rcases List.mem_cons.1 hy with rfl | hy
      · exact h2
      · exact h3 y hy
    · rw [roff_no _ _ _ _ _ _ h]
      obtain ⟨h1, h2, h3⟩ := ih b
      refine ⟨h1.imp id (fun e => List.mem_cons_of_mem _ e), h2, fun y hy => ?_⟩
      rcases List.mem_cons.1 hy with rfl | hy
      · omega
      · exact h3 y hy
/-- for the distance of a boundary, the offset has that distance -/
theorem offset_back (l : List UInt8) (n : Int) (i : Nat) (hi : i = 0 ∨ i ∈ offs l) : let k := offset l n (width (l.take i) n); k ≤ l.length ∧ width (l.take k) n = width (l.take i) n := by
  intro k
  have hk : k = roff l n (width (l.take i) n) 0 (offs l) := offset_eq _ _ _
  obtain ⟨h1, h2, h3⟩ := roff_min l n (width (l.take i) n) (offs l) 0
  rw [← hk] at h1 h2 h3
  have hd : dist l n (width (l.take i) n) i = 0 := by unfold dist farN; split <;> omega
  have hle : dist l n (width (l.take i) n) k ≤ 0 := by
    rcases hi with rfl | hi
    · rw [hd] at h2; exact h2
    · have := h3 i hi; omega
  refine ⟨?_, ?_⟩
  · rcases h1 with h1 | h1
    · omega
    · exact offs_le l k h1
  · unfold dist farN at hle
    split at hle <;> omega
end Go.Proofs.YtcpklmolofbopaaDoor
