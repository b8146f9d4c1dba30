/- Plain laws on characters: where a string may be cut, and the widths of its parts. -/
import Derived.Test.YtcpklmolofbopaaDoorC
import Derived.Lib.ValidLaws
namespace Go.Proofs.YtcpklmolofbopaaDoor
open Go.RowKit

def val2 (b0 b1 : Nat) : Nat := b0 % 32 * 64 + b1 % 64
def val3 (b0 b1 b2 : Nat) : Nat := b0 % 16 * 4096 + b1 % 64 * 64 + b2 % 64
def val4 (b0 b1 b2 b3 : Nat) : Nat := b0 % 8 * 262144 + b1 % 64 * 4096 + b2 % 64 * 64 + b3 % 64
def okR (lo c : Nat) : Prop := c ≥ lo ∧ (c < 55296 ∨ (57344 ≤ c ∧ c ≤ 1114111))
theorem dec_A (n b0 b1 b2 b3 : Nat) (h : b0 < 128) : Lib.decodeN n b0 b1 b2 b3 = (b0, 1) := by rw [Lib.decodeN, if_pos h]
theorem dec_B (n b0 b1 b2 b3 : Nat) (h : b0 / 32 = 6) (hn : 1 < n) (h1 : b1 / 64 = 2) (h2 : 128 ≤ val2 b0 b1) : Lib.decodeN n b0 b1 b2 b3 = (val2 b0 b1, 2) := by
  rw [Lib.decodeN, if_neg (by omega), if_pos ⟨h, hn, h1⟩, if_pos (by exact h2)]; rfl
theorem dec_C (n b0 b1 b2 b3 : Nat) (h : b0 / 16 = 14) (hn : 2 < n) (h1 : b1 / 64 = 2) (h2 : b2 / 64 = 2) (h3 : okR 2048 (val3 b0 b1 b2)) : Lib.decodeN n b0 b1 b2 b3 = (val3 b0 b1 b2, 3) := by
  rw [Lib.decodeN, if_neg (by omega), if_neg (by omega), if_pos ⟨h, ⟨by omega, h1⟩, hn, h2⟩, if_pos (by exact h3)]; rfl
theorem dec_D (n b0 b1 b2 b3 : Nat) (h : b0 / 8 = 30) (hn : 3 < n) (h1 : b1 / 64 = 2) (h2 : b2 / 64 = 2) (h3 : b3 / 64 = 2) (h4 : okR 65536 (val4 b0 b1 b2 b3)) : Lib.decodeN n b0 b1 b2 b3 = (val4 b0 b1 b2 b3, 4) := by
  rw [Lib.decodeN, if_neg (by omega), if_neg (by omega), if_neg (by omega), if_pos ⟨h, ⟨by omega, h1⟩, ⟨by omega, h2⟩, hn, h3⟩, if_pos (by exact h4)]; rfl
/-- the five ways of decoding -/
theorem dec_cases (n b0 b1 b2 b3 : Nat) : b0 < 128 ∨ (b0 / 32 = 6 ∧ 1 < n ∧ b1 / 64 = 2 ∧ 128 ≤ val2 b0 b1) ∨ (b0 / 16 = 14 ∧ 2 < n ∧ b1 / 64 = 2 ∧ b2 / 64 = 2 ∧ okR 2048 (val3 b0 b1 b2)) ∨
    (b0 / 8 = 30 ∧ 3 < n ∧ b1 / 64 = 2 ∧ b2 / 64 = 2 ∧ b3 / 64 = 2 ∧ okR 65536 (val4 b0 b1 b2 b3)) ∨ Lib.decodeN n b0 b1 b2 b3 = (65533, 1) := by
  by_cases a : b0 < 128
  · exact .inl a
  by_cases b : b0 / 32 = 6 ∧ (1 < n ∧ b1 / 64 = 2)
  · by_cases b' : 128 ≤ val2 b0 b1
    · exact .inr (.inl ⟨b.1, b.2.1, b.2.2, b'⟩)
    · exact .inr (.inr (.inr (.inr (by rw [Lib.decodeN, if_neg a, if_pos b, if_neg (by exact b')]))))
  by_cases c : b0 / 16 = 14 ∧ (1 < n ∧ b1 / 64 = 2) ∧ (2 < n ∧ b2 / 64 = 2)
  · by_cases c' : okR 2048 (val3 b0 b1 b2)
    · exact .inr (.inr (.inl ⟨c.1, c.2.2.1, c.2.1.2, c.2.2.2, c'⟩))
    · exact .inr (.inr (.inr (.inr (by rw [Lib.decodeN, if_neg a, if_neg b, if_pos c, if_neg (by exact c')]))))
  by_cases d : b0 / 8 = 30 ∧ (1 < n ∧ b1 / 64 = 2) ∧ (2 < n ∧ b2 / 64 = 2) ∧ (3 < n ∧ b3 / 64 = 2)
  · by_cases d' : okR 65536 (val4 b0 b1 b2 b3)
    · exact .inr (.inr (.inr (.inl ⟨d.1, d.2.2.2.1, d.2.1.2, d.2.2.1.2, d.2.2.2.2, d'⟩)))
    · exact .inr (.inr (.inr (.inr (by rw [Lib.decodeN, if_neg a, if_neg b, if_neg c, if_pos d, if_neg (by exact d')]))))
  exact .inr (.inr (.inr (.inr (by rw [Lib.decodeN, if_neg a, if_neg b, if_neg c, if_neg d]))))
/-- decoding looks no further than what it takes -/
theorem decodeN_less (n m b0 b1 b2 b3 c1 c2 c3 : Nat) (hk : (Lib.decodeN n b0 b1 b2 b3).2 ≤ m) (hmn : m ≤ n)
    (h1 : 1 < m → c1 = b1) (h2 : 2 < m → c2 = b2) (h3 : 3 < m → c3 = b3) : Lib.decodeN m b0 c1 c2 c3 = Lib.decodeN n b0 b1 b2 b3 := by
  rcases dec_cases n b0 b1 b2 b3 with a | ⟨a1, a2, a3, a4⟩ | ⟨a1, a2, a3, a4, a5⟩ | ⟨a1, a2, a3, a4, a5, a6⟩ | e
  · rw [dec_A _ _ _ _ _ a, dec_A _ _ _ _ _ a]
  · have e := dec_B n b0 b1 b2 b3 a1 a2 a3 a4
    rw [e] at hk ⊢
    have g1 := h1 (by simp only at hk; omega); subst g1
    exact dec_B _ _ _ _ _ a1 (by simp only at hk; omega) a3 a4
  · have e := dec_C n b0 b1 b2 b3 a1 a2 a3 a4 a5
    rw [e] at hk ⊢
    have g1 := h1 (by simp only at hk; omega); subst g1
    have g2 := h2 (by simp only at hk; omega); subst g2
    exact dec_C _ _ _ _ _ a1 (by simp only at hk; omega) a3 a4 a5
  · have e := dec_D n b0 b1 b2 b3 a1 a2 a3 a4 a5 a6
    rw [e] at hk ⊢
    have g1 := h1 (by simp only at hk; omega); subst g1
    have g2 := h2 (by simp only at hk; omega); subst g2
    have g3 := h3 (by simp only at hk; omega); subst g3
    exact dec_D _ _ _ _ _ a1 (by simp only at hk; omega) a3 a4 a5 a6
  · rw [e]
    rcases dec_cases m b0 c1 c2 c3 with a | ⟨a1, a2, a3, a4⟩ | ⟨a1, a2, a3, a4, a5⟩ | ⟨a1, a2, a3, a4, a5, a6⟩ | e'
    · rw [dec_A _ _ _ _ _ a] at e ⊢; exact e
    · have g1 := h1 (by omega); subst g1
      rw [dec_B _ _ _ _ _ a1 (by omega) a3 a4] at e; simp at e
    · have g1 := h1 (by omega); subst g1
      have g2 := h2 (by omega); subst g2
      rw [dec_C _ _ _ _ _ a1 (by omega) a3 a4 a5] at e; simp at e
    · have g1 := h1 (by omega); subst g1
      have g2 := h2 (by omega); subst g2
      have g3 := h3 (by omega); subst g3
      rw [dec_D _ _ _ _ _ a1 (by omega) a3 a4 a5 a6] at e; simp at e
    · exact e'
theorem decodeL_take (l : List UInt8) (k : Nat) (h : (Lib.decodeL l).2 ≤ k) (hk : k ≤ l.length) : Lib.decodeL (l.take k) = Lib.decodeL l := by
  have hw := Lib.decodeL_width l
  rw [Lib.decodeL_N] at h hw
  rw [Lib.decodeL_N, Lib.decodeL_N]
  have hg : ∀ j, j < k → (l.take k).getD j 0 = l.getD j 0 := fun j hj => by simp [List.getElem?_take, hj]
  rw [List.length_take, Nat.min_eq_left hk, hg 0 (by omega)]
  exact decodeN_less _ _ _ _ _ _ _ _ _ h hk (fun h => by rw [hg 1 h]) (fun h => by rw [hg 2 h]) (fun h => by rw [hg 3 h])
theorem decodeN_tail (n b0 b1 b2 b3 j : Nat) (b : Nat) (hj : 0 < j) (hk : j < (Lib.decodeN n b0 b1 b2 b3).2) (hb : (j = 1 → b = b1) ∧ (j = 2 → b = b2) ∧ (j = 3 → b = b3)) : 128 ≤ b := by
  obtain ⟨g1, g2, g3⟩ := hb
  rcases dec_cases n b0 b1 b2 b3 with a | ⟨a1, a2, a3, a4⟩ | ⟨a1, a2, a3, a4, a5⟩ | ⟨a1, a2, a3, a4, a5, a6⟩ | e
  · rw [dec_A _ _ _ _ _ a] at hk; simp only at hk; omega
  · rw [dec_B _ _ _ _ _ a1 a2 a3 a4] at hk; simp only at hk; have := g1 (by omega); omega
  · rw [dec_C _ _ _ _ _ a1 a2 a3 a4 a5] at hk; simp only at hk
    rcases (show j = 1 ∨ j = 2 by omega) with e | e
    · have := g1 e; omega
    · have := g2 e; omega
  · rw [dec_D _ _ _ _ _ a1 a2 a3 a4 a5 a6] at hk; simp only at hk
    rcases (show j = 1 ∨ j = 2 ∨ j = 3 by omega) with e | e | e
    · have := g1 e; omega
    · have := g2 e; omega
    · have := g3 e; omega
  · rw [e] at hk; simp only at hk; omega
/-- inside a character no byte is of ASCII -/
theorem decodeL_tail (l : List UInt8) (j : Nat) (hj : 0 < j) (hk : j < (Lib.decodeL l).2) : 128 ≤ (l.getD j 0).toNat := by
  have h4 : (Lib.decodeL l).2 ≤ 4 := by
    rw [Lib.decodeL_N]
    generalize l.length = n, (l.getD 0 0).toNat = b0, (l.getD 1 0).toNat = b1, (l.getD 2 0).toNat = b2, (l.getD 3 0).toNat = b3
    rcases dec_cases n b0 b1 b2 b3 with a | ⟨a1, a2, a3, a4⟩ | ⟨a1, a2, a3, a4, a5⟩ | ⟨a1, a2, a3, a4, a5, a6⟩ | e
    · rw [dec_A _ _ _ _ _ a]; simp
    · rw [dec_B _ _ _ _ _ a1 a2 a3 a4]; simp
    · rw [dec_C _ _ _ _ _ a1 a2 a3 a4 a5]; simp
    · rw [dec_D _ _ _ _ _ a1 a2 a3 a4 a5 a6]; simp
    · rw [e]; simp
  rw [Lib.decodeL_N] at hk
  exact decodeN_tail _ _ _ _ _ j _ hj hk ⟨fun h => by rw [h], fun h => by rw [h], fun h => by rw [h]⟩
theorem decodeL_app (a b : List UInt8) (ha : a ≠ []) (h : ¬ ((Lib.decodeL a).1 = 65533 ∧ (Lib.decodeL a).2 = 1)) : Lib.decodeL (a ++ b) = Lib.decodeL a := by
  have hp : 0 < a.length := List.length_pos_iff.2 ha
  have hg : ∀ j, j < a.length → (a ++ b).getD j 0 = a.getD j 0 := fun j hj => by simp [List.getElem?_append_left hj]
  rw [Lib.decodeL_N] at h
  rw [Lib.decodeL_N, Lib.decodeL_N, List.length_append, hg 0 hp]
  rcases dec_cases a.length (a.getD 0 0).toNat (a.getD 1 0).toNat (a.getD 2 0).toNat (a.getD 3 0).toNat with x | ⟨a1, a2, a3, a4⟩ | ⟨a1, a2, a3, a4, a5⟩ | ⟨a1, a2, a3, a4, a5, a6⟩ | e
  · rw [dec_A _ _ _ _ _ x, dec_A _ _ _ _ _ x]
  · rw [hg 1 (by omega), dec_B _ _ _ _ _ a1 a2 a3 a4, dec_B _ _ _ _ _ a1 (by omega) a3 a4]
  · rw [hg 1 (by omega), hg 2 (by omega), dec_C _ _ _ _ _ a1 a2 a3 a4 a5, dec_C _ _ _ _ _ a1 (by omega) a3 a4 a5]
  · rw [hg 1 (by omega), hg 2 (by omega), hg 3 (by omega), dec_D _ _ _ _ _ a1 a2 a3 a4 a5 a6, dec_D _ _ _ _ _ a1 (by omega) a3 a4 a5 a6]
  · rw [e] at h; exact absurd ⟨rfl, rfl⟩ h

/-- the width, character by character -/
theorem chL_snd : ∀ (f o o' : Nat) (l : List UInt8), (chL f o l).map (·.2) = (chL f o' l).map (·.2) := by
  intro f
  induction f with
  | zero => intro o o' l; rfl
  | succ f ih => intro o o' l; unfold chL; split
                 · rfl
                 · simp only [List.map_cons]; rw [ih]
theorem wFrom_drop (l : List UInt8) (n : Int) (p : Nat) : wFrom l n p = width (l.drop p) n := by
  unfold wFrom width wFrom chFrom
  simp only [List.length_drop, List.drop_zero, Nat.sub_zero]
  have := congrArg (fun m => (m.map fun r => char r n).sum) (chL_snd (l.length - p) p 0 (l.drop p))
  simpa [List.map_map, Function.comp_def] using this
theorem width_nil (n : Int) : width [] n = 0 := rfl
theorem width_cons (l : List UInt8) (n : Int) (h : l ≠ []) : width l n = char (Lib.decodeL l).1 n + width (l.drop (Lib.decodeL l).2) n := by
  have h0 : 0 < l.length := List.length_pos_iff.2 h
  have := wFrom_cons l n 0 h0
  simp only [List.drop_zero, Nat.zero_add] at this
  rw [wFrom_drop l n (Lib.decodeL l).2] at this
  exact this
theorem width_nonneg (l : List UInt8) (n : Int) : 0 ≤ width l n := (wFrom_bd l n 0).1

/-- a place between two characters -/
def cutF : Nat → List UInt8 → Nat → Prop
  | 0, _, k => k = 0
  | f + 1, l, k => k = 0 ∨ (l ≠ [] ∧ (Lib.decodeL l).2 ≤ k ∧ cutF f (l.drop (Lib.decodeL l).2) (k - (Lib.decodeL l).2))
def Cut (l : List UInt8) (k : Nat) : Prop := ∃ f, cutF f l k
theorem Cut.zero (l : List UInt8) : Cut l 0 := ⟨0, rfl⟩
theorem Cut.step {l : List UInt8} {k : Nat} (hl : l ≠ []) (hd : (Lib.decodeL l).2 ≤ k) (h : Cut (l.drop (Lib.decodeL l).2) (k - (Lib.decodeL l).2)) : Cut l k :=
  let ⟨f, hf⟩ := h; ⟨f + 1, .inr ⟨hl, hd, hf⟩⟩
theorem Cut.inv {l : List UInt8} {k : Nat} (h : Cut l k) (hk : 0 < k) : l ≠ [] ∧ (Lib.decodeL l).2 ≤ k ∧ Cut (l.drop (Lib.decodeL l).2) (k - (Lib.decodeL l).2) := by
  obtain ⟨f, hf⟩ := h
  cases f with
  | zero => exact absurd hf (by show ¬ k = 0; omega)
  | succ f =>
    rcases hf with rfl | ⟨h1, h2, h3⟩
    · omega
    · exact ⟨h1, h2, f, h3⟩
theorem Cut.le : ∀ (k : Nat) (l : List UInt8), Cut l k → k ≤ l.length := by
  intro k
  induction k using Nat.strongRecOn with
  | _ k ih =>
    intro l h
    by_cases hk : 0 < k
    · obtain ⟨h1, h2, h3⟩ := h.inv hk
      have hw := Lib.decodeL_width l
      have := ih _ (by omega) _ h3
      rw [List.length_drop] at this
      have hle := Lib.decodeL_le l h1
      omega
    · omega
/-- the width of what lies before and behind a place between two characters -/
theorem width_cut (n : Int) : ∀ (k : Nat) (l : List UInt8), Cut l k → width l n = width (l.take k) n + width (l.drop k) n := by
  intro k
  induction k using Nat.strongRecOn with
  | _ k ih =>
    intro l h
    by_cases hk : 0 < k
    · have hle := h.le
      obtain ⟨h1, h2, h3⟩ := h.inv hk
      have hw := Lib.decodeL_width l
      have e := ih _ (by omega) _ h3
      have ht := decodeL_take l k h2 hle
      rw [width_cons l n h1, width_cons (l.take k) n (by intro e; have h9 := congrArg List.length e; rw [List.length_take, Nat.min_eq_left hle, List.length_nil] at h9; omega), ht, e, List.drop_take, List.drop_drop]
      rw [show (Lib.decodeL l).2 + (k - (Lib.decodeL l).2) = k by omega]
      omega
    · have : k = 0 := by omega
      subst this
      simp [width_nil]
theorem Cut.add : ∀ (k : Nat) (l : List UInt8) (j : Nat), Cut l k → Cut (l.drop k) j → Cut l (k + j) := by
  intro k
  induction k using Nat.strongRecOn with
  | _ k ih =>
    intro l j h hj
    by_cases hk : 0 < k
    · obtain ⟨h1, h2, h3⟩ := h.inv hk
      have hw := Lib.decodeL_width l
      refine Cut.step h1 (by omega) ?_
      have := ih _ (by omega) (l.drop (Lib.decodeL l).2) j h3 (by rw [List.drop_drop, show (Lib.decodeL l).2 + (k - (Lib.decodeL l).2) = k by omega]; exact hj)
      rwa [show k - (Lib.decodeL l).2 + j = k + j - (Lib.decodeL l).2 by omega] at this
    · have : k = 0 := by omega
      subst this
      simpa using hj
theorem Cut.sub : ∀ (a : Nat) (l : List UInt8) (b : Nat), Cut l a → Cut l b → a ≤ b → Cut (l.drop a) (b - a) := by
  intro a
  induction a using Nat.strongRecOn with
  | _ a ih =>
    intro l b ha hb hab
    by_cases h0 : 0 < a
    · obtain ⟨h1, h2, h3⟩ := ha.inv h0
      obtain ⟨_, h5, h6⟩ := hb.inv (by omega)
      have hw := Lib.decodeL_width l
      have := ih _ (by omega) (l.drop (Lib.decodeL l).2) _ h3 h6 (by omega)
      rw [List.drop_drop, show (Lib.decodeL l).2 + (a - (Lib.decodeL l).2) = a by omega] at this
      rwa [show b - (Lib.decodeL l).2 - (a - (Lib.decodeL l).2) = b - a by omega] at this
    · have : a = 0 := by omega
      subst this
      simpa using hb
theorem Cut.all : ∀ (n : Nat) (l : List UInt8), l.length ≤ n → Cut l l.length := by
  intro n
  induction n with
  | zero => intro l h; rw [show l.length = 0 by omega]; exact .zero l
  | succ n ih =>
    intro l h
    by_cases hl : l = []
    · subst hl; exact .zero _
    · have hw := Lib.decodeL_width l
      have hle := Lib.decodeL_le l hl
      refine Cut.step hl hle ?_
      have := ih (l.drop (Lib.decodeL l).2) (by rw [List.length_drop]; omega)
      rwa [List.length_drop] at this
theorem cut_len (l : List UInt8) : Cut l l.length := Cut.all _ l (Nat.le_refl _)
/-- ahead of a byte of ASCII there is such a place -/
theorem cut_ascii : ∀ (t : Nat) (l : List UInt8), t < l.length → (l.getD t 0).toNat < 128 → Cut l t := by
  intro t
  induction t using Nat.strongRecOn with
  | _ t ih =>
    intro l ht h
    by_cases h0 : 0 < t
    · have hl : l ≠ [] := by intro e; subst e; simp at ht
      have hw := Lib.decodeL_width l
      have hd : (Lib.decodeL l).2 ≤ t := by
        rcases Nat.lt_or_ge t (Lib.decodeL l).2 with h1 | h1
        · have := decodeL_tail l t h0 h1; omega
        · exact h1
      refine Cut.step hl hd (ih _ (by omega) _ (by rw [List.length_drop]; omega) ?_)
      rw [List.getD_eq_getElem?_getD, List.getElem?_drop, show (Lib.decodeL l).2 + (t - (Lib.decodeL l).2) = t by omega, ← List.getD_eq_getElem?_getD]
      exact h
    · rw [show t = 0 by omega]; exact .zero l
theorem cut_chFrom (l : List UInt8) : ∀ (f p : Nat), l.length - p ≤ f → Cut l p → ∀ c ∈ chFrom l p, Cut l c.1 := by
  intro f
  induction f with
  | zero => intro p h _ c hc; rw [chFrom_end l p (by omega)] at hc; cases hc
  | succ f ih =>
    intro p h hp c hc
    by_cases hlt : p < l.length
    · rw [chFrom_cons l p hlt] at hc
      have hw := Lib.decodeL_width (l.drop p)
      rcases List.mem_cons.1 hc with rfl | hc
      · exact hp
      · refine ih _ (by omega) ?_ c hc
        have hne : l.drop p ≠ [] := by intro e; have := congrArg List.length e; simp at this; omega
        exact Cut.add p l _ hp (Cut.step hne (Nat.le_refl _) (by rw [Nat.sub_self]; exact .zero _))
    · rw [chFrom_end l p (by omega)] at hc; cases hc
/-- the width of a stretch between two such places -/
theorem width_sub (l : List UInt8) (n : Int) (a b : Nat) (ha : Cut l a) (hb : Cut l b) (hab : a ≤ b) : width ((l.drop a).take (b - a)) n = width (l.drop a) n - width (l.drop b) n := by
  have h := width_cut n (b - a) (l.drop a) (Cut.sub a l b ha hb hab)
  rw [List.drop_drop, show a + (b - a) = b by omega] at h
  omega
theorem width_drop_le (l : List UInt8) (n : Int) (a b : Nat) (ha : Cut l a) (hb : Cut l b) (hab : a ≤ b) : width (l.drop b) n ≤ width (l.drop a) n := by
  have h := width_sub l n a b ha hb hab
  have := width_nonneg ((l.drop a).take (b - a)) n
  omega
/-- a valid string ends between two characters, whatever comes behind it -/
theorem cut_valid : ∀ (k : Nat) (a b : List UInt8), a.length ≤ k → Lib.validD a = true → Cut (a ++ b) a.length := by
  intro k
  induction k with
  | zero => intro a b h _; rw [show a.length = 0 by omega]; exact .zero _
  | succ k ih =>
    intro a b h hv
    by_cases ha : a = []
    · subst ha; exact .zero _
    · rw [Lib.validD_step a ha] at hv
      split at hv
      · cases hv
      · rename_i hne
        have hd := decodeL_app a b ha hne
        have hw := Lib.decodeL_width a
        have hle := Lib.decodeL_le a ha
        refine Cut.step (by simp [ha]) (by rw [hd]; exact hle) ?_
        rw [hd, List.drop_append_of_le_length hle]
        have := ih (a.drop (Lib.decodeL a).2) b (by rw [List.length_drop]; omega) hv
        rwa [List.length_drop] at this
theorem width_append (a b : List UInt8) (n : Int) (h : Lib.validD a = true) : width (a ++ b) n = width a n + width b n := by
  have := width_cut n a.length (a ++ b) (cut_valid _ a b (Nat.le_refl _) h)
  simpa using this
end Go.Proofs.YtcpklmolofbopaaDoor
