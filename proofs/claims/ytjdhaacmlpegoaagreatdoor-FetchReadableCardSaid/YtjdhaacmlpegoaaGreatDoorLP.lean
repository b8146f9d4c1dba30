/- Plain: what conv and cleanL keep; an address is parsed from its text again. -/
import Derived.Test.YtjdhaacmlpegoaaGreatDoorLA
import Derived.Test.YtjdhaacmlpegoaaGreatDoorLPA
namespace Go.Proofs.YtjdhaacmlpegoaaGreatDoor
set_option linter.unusedVariables false
set_option linter.unusedSimpArgs false
open Go.RowKit

/-- no conversion changes it -/
def Fixed (keep l : List UInt8) : Prop := conv keep true l = l
theorem conv_ge (keep : List UInt8) (codes : Bool) (l : List UInt8) : l.length ≤ (conv keep codes l).length := by
  induction l with
  | nil => simp [conv]
  | cons c r ih => unfold conv; split <;> simp [pct] <;> omega
theorem fixed_cases (keep : List UInt8) (c : UInt8) (r : List UInt8) (h : Fixed keep (c :: r)) :
    (okC keep c = true ∧ Fixed keep r) ∨ (∃ a b t, c = 37 ∧ r = a :: b :: t ∧ codedL (37 :: a :: b :: t) = true ∧ Fixed keep t) := by
  unfold Fixed at h ⊢
  by_cases h1 : okC keep c = true
  · rw [conv_ok keep true c r h1] at h
    exact .inl ⟨h1, (List.cons.inj h).2⟩
  · by_cases h2 : codedL (c :: r) = true
    · obtain ⟨a, b, t, rfl, rfl⟩ := coded_shape c r h2
      rw [conv_coded keep a b t h2] at h
      exact .inr ⟨a, b, t, rfl, rfl, h2, (List.cons.inj (List.cons.inj (List.cons.inj h).2).2).2⟩
    · exfalso
      rw [conv, if_neg (by simp [h1, h2])] at h
      have := congrArg List.length h
      have h3 := conv_ge keep true r
      simp [pct] at this
      omega
theorem fixed_ok (keep : List UInt8) (c : UInt8) (r : List UInt8) (h : okC keep c = true) (hr : Fixed keep r) : Fixed keep (c :: r) := by
  unfold Fixed at *; rw [conv_ok keep true c r h, hr]
theorem fixed_coded (keep : List UInt8) (a b : UInt8) (r : List UInt8) (h : codedL (37 :: a :: b :: r) = true) (hr : Fixed keep r) : Fixed keep (37 :: a :: b :: r) := by
  unfold Fixed at *; rw [conv_coded keep a b r h, hr]
theorem fixed_nil (keep : List UInt8) : Fixed keep [] := rfl
theorem fixed_app (keep b : List UInt8) (hb : Fixed keep b) : ∀ n (a : List UInt8), a.length ≤ n → Fixed keep a → Fixed keep (a ++ b) := by
  intro n
  induction n with
  | zero => intro a ha _; obtain rfl := List.eq_nil_of_length_eq_zero (Nat.le_zero.1 ha); exact hb
  | succ n ih =>
    intro a ha h
    match a, ha, h with
    | [], _, _ => exact hb
    | c :: r, ha, h =>
      simp only [List.length_cons] at ha
      rcases fixed_cases keep c r h with ⟨h1, h2⟩ | ⟨x, y, t, rfl, rfl, h3, h4⟩
      · exact fixed_ok keep c _ h1 (ih r (by omega) h2)
      · exact fixed_coded keep x y _ h3 (ih t (by simp at ha; omega) h4)
theorem hex_not_slash (a : UInt8) (h : 0 ≤ hexB a) : a ≠ 47 := by rintro rfl; revert h; decide
theorem fixed_split (keep r : List UInt8) (hk : okC keep 47 = true) : ∀ n (p : List UInt8), p.length ≤ n → Fixed keep (p ++ 47 :: r) → Fixed keep p ∧ Fixed keep r := by
  intro n
  induction n with
  | zero =>
    intro p hp h
    obtain rfl := List.eq_nil_of_length_eq_zero (Nat.le_zero.1 hp)
    rcases fixed_cases keep 47 r h with ⟨_, h2⟩ | ⟨_, _, _, e, _⟩
    · exact ⟨rfl, h2⟩
    · cases e
  | succ n ih =>
    intro p hp h
    match p, hp, h with
    | [], _, h =>
      rcases fixed_cases keep 47 r h with ⟨_, h2⟩ | ⟨_, _, _, e, _⟩
      · exact ⟨rfl, h2⟩
      · cases e
    | c :: q, hp, h =>
      simp only [List.length_cons] at hp
      rcases fixed_cases keep c (q ++ 47 :: r) h with ⟨h1, h2⟩ | ⟨x, y, t, rfl, e, h3, h4⟩
      · obtain ⟨h5, h6⟩ := ih q (by omega) h2
        exact ⟨fixed_ok keep c q h1 h5, h6⟩
      · have hx := h3
        simp only [codedL, Bool.and_eq_true, decide_eq_true_eq] at hx
        match q, e, hp with
        | [], e, _ => exact absurd (List.cons.inj e).1.symm (hex_not_slash x hx.1.2)
        | [z], e, _ => exact absurd (List.cons.inj (List.cons.inj e).2).1.symm (hex_not_slash y hx.2)
        | z :: z2 :: q2, e, hp =>
          obtain ⟨rfl, e2⟩ := List.cons.inj e
          obtain ⟨rfl, rfl⟩ := List.cons.inj e2
          obtain ⟨h5, h6⟩ := ih q2 (by simp at hp; omega) h4
          exact ⟨fixed_coded keep _ _ q2 h3 h5, h6⟩
theorem segs_step (c : UInt8) (l : List UInt8) (h : c ∈ l) : segs c l = pre c l :: segs c (post c l) := by
  have e := pre_post c l h
  calc segs c l = segs c (pre c l ++ c :: post c l) := congrArg _ e
    _ = _ := segs_pre c _ _ (pre_not c l)
theorem post_lt (c : UInt8) (l : List UInt8) (h : c ∈ l) : (post c l).length < l.length := by
  have := congrArg List.length (pre_post c l h)
  simp at this; omega
theorem segs_all (P : List UInt8 → Prop) (c : UInt8) (h1 : ∀ p r, c ∉ p → P (p ++ c :: r) → P p ∧ P r) : ∀ n (l : List UInt8), l.length ≤ n → P l → ∀ x ∈ segs c l, P x ∧ c ∉ x := by
  intro n
  induction n with
  | zero =>
    intro l hl hP x hx
    obtain rfl := List.eq_nil_of_length_eq_zero (Nat.le_zero.1 hl)
    simp [segs] at hx; subst hx; exact ⟨hP, by simp⟩
  | succ n ih =>
    intro l hl hP x hx
    by_cases hc : c ∈ l
    · rw [segs_step c l hc] at hx
      have e := pre_post c l hc
      rw [e] at hP
      obtain ⟨p1, p2⟩ := h1 _ _ (pre_not c l) hP
      rcases List.mem_cons.1 hx with rfl | hx
      · exact ⟨p1, pre_not c l⟩
      · exact ih _ (by have := post_lt c l hc; omega) p2 x hx
    · rw [segs_one c l hc] at hx
      obtain rfl : x = l := by simpa using hx
      exact ⟨hP, hc⟩
theorem fold_keep (l : List (List UInt8)) : ∀ (acc : List (List UInt8)) (x : List UInt8), x ∈ l.foldl kstep acc → x ∈ acc ∨ (x ∈ l ∧ isDot x = false) := by
  induction l with
  | nil => intro acc x h; exact .inl h
  | cons p r ih =>
    intro acc x h
    rcases ih _ x h with h | h
    · unfold kstep at h
      split at h
      · exact .inl (List.dropLast_subset _ h)
      · split at h
        · exact .inl h
        · next h1 h2 =>
          rcases List.mem_append.1 h with h | h
          · exact .inl h
          · obtain rfl : x = p := by simpa using h
            exact .inr ⟨List.mem_cons_self, by simp [isDot, h1, h2]⟩
    · exact .inr ⟨List.mem_cons_of_mem _ h.1, h.2⟩
theorem kept_mem (l : List (List UInt8)) (x : List UInt8) (h : x ∈ keptL l) : x = [] ∨ (x ∈ l ∧ isDot x = false) := by
  unfold keptL kpt at h
  rcases List.mem_append.1 h with h | h
  · rw [List.take_length] at h
    rcases fold_keep _ _ _ h with h | h
    · cases h
    · exact .inr h
  · split at h
    · exact .inl (by simpa using h)
    · cases h
theorem tailE_mem (l : List (List UInt8)) (x : List UInt8) (h : x ∈ tailE l) : x ∈ l := by
  unfold tailE at h
  split at h
  · exact List.mem_of_mem_tail h
  · exact h
theorem fold_same (l : List (List UInt8)) (h : ∀ x ∈ l, isDot x = false) : ∀ acc, l.foldl kstep acc = acc ++ l := by
  induction l with
  | nil => intro acc; simp
  | cons p r ih =>
    intro acc
    have hp := h p List.mem_cons_self
    simp only [isDot, Bool.or_eq_false_iff, beq_eq_false_iff_ne] at hp
    rw [List.foldl_cons, ih (fun x hx => h x (List.mem_cons_of_mem _ hx)), kstep, if_neg hp.2, if_neg hp.1]; simp
theorem kept_same (l : List (List UInt8)) (h : ∀ x ∈ l, isDot x = false) : keptL l = l := by
  unfold keptL kpt
  rw [List.take_length, fold_same l h, if_neg, List.append_nil, List.nil_append]
  rintro ⟨_, h2⟩
  cases e : l.getLast? with
  | none => rw [e] at h2; cases h2
  | some x =>
    rw [e] at h2
    have := h x (List.mem_of_getLast? e)
    simp only [Option.map_some, Option.getD_some] at h2
    rw [this] at h2; cases h2
theorem segs_out (k : List (List UInt8)) (h : ∀ x ∈ k, (47 : UInt8) ∉ x) (hk : k ≠ []) : segs 47 (outL k) = [] :: k := by
  induction k with
  | nil => exact absurd rfl hk
  | cons x r ih =>
    have e : outL (x :: r) = 47 :: (x ++ outL r) := by simp [outL]
    have hx := h x List.mem_cons_self
    have e2 : segs 47 (47 :: (x ++ outL r)) = [] :: segs 47 (x ++ outL r) := by rw [segs, if_pos (by rfl)]
    rw [e, e2]
    cases r with
    | nil => rw [show outL [] = [] from rfl, List.append_nil, segs_one 47 x hx]
    | cons y r =>
      have h2 := ih (fun z hz => h z (List.mem_cons_of_mem _ hz)) (by simp)
      have e3 : outL (y :: r) = 47 :: (y ++ outL r) := by simp [outL]
      rw [e3] at h2 ⊢
      rw [segs_pre 47 _ x hx]
      rw [segs, if_pos (by rfl)] at h2
      rw [(List.cons.inj h2).2]
def keptP (l : List UInt8) : List (List UInt8) := keptL (tailE (segs 47 l))
theorem keptP_mem (l : List UInt8) (x : List UInt8) (h : x ∈ keptP l) : (47 : UInt8) ∉ x ∧ isDot x = false ∧ (x = [] ∨ x ∈ segs 47 l) := by
  rcases kept_mem _ _ h with rfl | ⟨h1, h2⟩
  · exact ⟨by simp, rfl, .inl rfl⟩
  · have h3 := tailE_mem _ _ h1
    exact ⟨(segs_all (fun _ => True) 47 (fun _ _ _ _ => ⟨trivial, trivial⟩) _ l (Nat.le_refl _) trivial x h3).2, h2, .inr h3⟩
theorem cleanL_is (l : List UInt8) : cleanL l = if keptP l = [] then [47] else outL (keptP l) := rfl
/-- a cleaned path stays as it is -/
theorem clean_idem (l : List UInt8) : cleanL (cleanL l) = cleanL l := by
  rw [cleanL_is l]
  split
  · rfl
  · next h =>
    have h1 := segs_out (keptP l) (fun x hx => (keptP_mem l x hx).1) h
    have h2 : keptP (outL (keptP l)) = keptP l := by
      rw [keptP, h1, tailE, if_pos (show ([] :: keptP l).head? = some [] from rfl), List.tail_cons, kept_same _ (fun x hx => (keptP_mem l x hx).2.1)]
    rw [cleanL_is, h2, if_neg h]
theorem clean_head (l : List UInt8) : ∃ r, cleanL l = 47 :: r := by
  rw [cleanL_is]
  split
  · exact ⟨[], rfl⟩
  · next h =>
    cases e : keptP l with
    | nil => exact absurd e h
    | cons x r => exact ⟨x ++ outL r, by simp [outL]⟩
theorem fixed_out (keep : List UInt8) (hk : okC keep 47 = true) (k : List (List UInt8)) (h : ∀ x ∈ k, Fixed keep x) : Fixed keep (outL k) := by
  induction k with
  | nil => rfl
  | cons x r ih =>
    have e : outL (x :: r) = 47 :: (x ++ outL r) := by simp [outL]
    rw [e]
    exact fixed_ok keep 47 _ hk (fixed_app keep _ (ih fun y hy => h y (List.mem_cons_of_mem _ hy)) _ x (Nat.le_refl _) (h x List.mem_cons_self))
/-- cleaning keeps what is converted -/
theorem fixed_clean (keep : List UInt8) (hk : okC keep 47 = true) (l : List UInt8) (h : Fixed keep l) : Fixed keep (cleanL l) := by
  rw [cleanL_is]
  split
  · exact fixed_ok keep 47 [] hk rfl
  · refine fixed_out keep hk _ fun x hx => ?_
    rcases (keptP_mem l x hx).2.2 with rfl | h3
    · rfl
    · exact (segs_all (Fixed keep) 47 (fun p r _ hpr => fixed_split keep r hk _ p (Nat.le_refl _) hpr) _ l (Nat.le_refl _) h x h3).1
theorem out_mem (k : List (List UInt8)) (x : UInt8) (h : x ∈ outL k) : x = 47 ∨ ∃ p ∈ k, x ∈ p := by
  induction k with
  | nil => simp [outL] at h
  | cons p r ih =>
    have e : outL (p :: r) = 47 :: (p ++ outL r) := by simp [outL]
    rw [e] at h
    rcases List.mem_cons.1 h with h | h
    · exact .inl h
    · rcases List.mem_append.1 h with h | h
      · exact .inr ⟨p, List.mem_cons_self, h⟩
      · rcases ih h with h | ⟨q, hq, h⟩
        · exact .inl h
        · exact .inr ⟨q, List.mem_cons_of_mem _ hq, h⟩
theorem segs_sub (c : UInt8) : ∀ n (l : List UInt8), l.length ≤ n → ∀ p ∈ segs c l, ∀ x ∈ p, x ∈ l := by
  intro n
  induction n with
  | zero =>
    intro l hl p hp x hx
    obtain rfl := List.eq_nil_of_length_eq_zero (Nat.le_zero.1 hl)
    simp [segs] at hp; subst hp; exact hx
  | succ n ih =>
    intro l hl p hp x hx
    by_cases hc : c ∈ l
    · rw [segs_step c l hc] at hp
      have e := pre_post c l hc
      rw [e]
      rcases List.mem_cons.1 hp with rfl | hp
      · exact List.mem_append_left _ hx
      · exact List.mem_append_right _ (List.mem_cons_of_mem _ (ih _ (by have := post_lt c l hc; omega) p hp x hx))
    · rw [segs_one c l hc] at hp
      obtain rfl : p = l := by simpa using hp
      exact hx
theorem clean_mem (l : List UInt8) (x : UInt8) (h : x ∈ cleanL l) : x = 47 ∨ x ∈ l := by
  rw [cleanL_is] at h
  split at h
  · exact .inl (by simpa using h)
  · rcases out_mem _ _ h with h | ⟨p, hp, h⟩
    · exact .inl h
    · rcases (keptP_mem l p hp).2.2 with rfl | h3
      · cases h
      · exact .inr (segs_sub 47 _ l (Nat.le_refl _) p h3 x h)
theorem takeW_stop (c : UInt8) (p r : List UInt8) (h : c ∉ p) : pre c (p ++ c :: r) = p ∧ post c (p ++ c :: r) = r := by
  induction p with
  | nil => simp [pre, post]
  | cons b p ih =>
    have hb : (b != c) = true := by simp only [bne_iff_ne]; exact fun e => h (by rw [e]; exact List.mem_cons_self)
    obtain ⟨h1, h2⟩ := ih fun hm => h (List.mem_cons_of_mem _ hm)
    unfold pre post at *
    rw [List.cons_append, List.takeWhile_cons, if_pos hb, List.dropWhile_cons, if_pos hb]
    exact ⟨by rw [h1], h2⟩
theorem pre_tail (c : UInt8) (p l : List UInt8) (h : c ∉ p) : pre c (p ++ tailL c l) = p ∧ post c (p ++ tailL c l) = l := by
  unfold tailL
  split
  · next hl => subst hl; rw [List.append_nil]; exact ⟨pre_all c p h, post_none c p h⟩
  · exact takeW_stop c p l h
/-- no byte of it is white space -/
theorem trim_id (l : List UInt8) (h : ∀ x ∈ l, 32 < x.toNat) : trimL l = l := by
  have hw : ∀ m : List UInt8, (∀ x ∈ m, 32 < x.toNat) → m.dropWhile wsB = m := fun m hm => by
    cases m with
    | nil => rfl
    | cons b r =>
      rw [List.dropWhile_cons, if_neg]
      have := hm b List.mem_cons_self
      simp only [wsB, decide_eq_true_eq]; omega
  unfold trimL trimE trimF
  rw [hw l h, hw l.reverse (fun x hx => h x (by simpa using hx)), List.reverse_reverse]
theorem okC_ascii (more : List UInt8) (hm : ∀ x ∈ more, 32 < x.toNat) (x : UInt8) (h : okC more x = true) : 32 < x.toNat := by
  unfold okC letterB letterI digitB digitI at h
  simp only [Bool.or_eq_true, decide_eq_true_eq] at h
  rcases h with (h | h) | h
  · omega
  · omega
  · exact hm x (by simpa using h)
theorem conv_ascii (more : List UInt8) (codes : Bool) (hm : ∀ x ∈ more, 32 < x.toNat) (l : List UInt8) : ∀ x ∈ conv more codes l, 32 < x.toNat := fun x hx => by
  rcases conv_mem more codes l x hx with h | rfl
  · exact okC_ascii more hm x h
  · decide
theorem okC_ne (more : List UInt8) (c : UInt8) (hc : okC more c = false) (l : List UInt8) (h : ∀ x ∈ l, okC more x = true ∨ x = 37) (h37 : c ≠ 37) : c ∉ l := fun hm => by
  rcases h c hm with h | h
  · rw [hc] at h; cases h
  · exact h37 h
theorem lowB_low (b : UInt8) : lowB (lowB b) = lowB b := by
  unfold lowB
  split
  · next h =>
    have : (b + 32).toNat = b.toNat + 32 := by rw [UInt8.toNat_add]; have := b.toNat_lt; simp; omega
    rw [if_neg (by omega)]
  · rfl
theorem lowL_low (l : List UInt8) : lowL (lowL l) = lowL l := by
  unfold lowL; rw [List.map_map]; congr 1; exact funext fun b => lowB_low b
theorem zeros_zeros (l : List UInt8) : zerosOff (zerosOff l) = zerosOff l := by
  cases e : zerosOff l with
  | nil => rfl
  | cons b r =>
    have := zeros_head l b r e
    unfold zerosOff
    rw [List.dropWhile_cons, if_neg (by simpa using this)]
theorem zeros_len (l : List UInt8) : (zerosOff l).length ≤ l.length := (List.dropWhile_sublist _).length_le
theorem digit_ok (more : List UInt8) (x : UInt8) (h : digitB x = true) : okC more x = true := by unfold okC; simp [h]
/-- the port that was read is read again -/
theorem port_again (n d : List UInt8) (h : portOk d) : portOk (portOf n d) ∧ portOf n (portOf n d) = portOf n d := by
  obtain ⟨h1, h2, h3⟩ := h
  unfold portOf
  split
  · refine ⟨⟨rfl, by simp, by decide⟩, ?_⟩
    rw [if_neg (by rintro (⟨_, h⟩ | ⟨_, h⟩) <;> revert h <;> decide)]; rfl
  · next hn =>
    refine ⟨⟨zeros_all d h1, Nat.le_trans (zeros_len d) h2, by rw [numL_zeros]; exact h3⟩, ?_⟩
    rw [numL_zeros, if_neg hn, zeros_zeros]
theorem http_ne : httpL ≠ aboutL ∧ httpsL ≠ aboutL := by decide
structure Site (n h p path q f : List UInt8) : Prop where
  sch : n = httpL ∨ n = httpsL
  hlow : lowL h = h
  hlen : 1 ≤ h.length ∧ h.length ≤ 253
  hok : h.all (okC [45, 46]) = true
  pok : portOk p ∧ portOf n p = p
  clean : cleanL path = path
  pfix : conv innerL true path = path
  pmem : ∀ x ∈ path, okC innerL x = true ∨ x = 37
  qfix : conv (innerL ++ [63]) true q = q
  qmem : ∀ x ∈ q, okC (innerL ++ [63]) x = true ∨ x = 37
  ffix : conv (innerL ++ [63]) true f = f
  fmem : ∀ x ∈ f, okC (innerL ++ [63]) x = true ∨ x = 37
theorem innerQ_gt : ∀ x ∈ innerL ++ [63], 32 < x.toNat := by decide
theorem inner_gt : ∀ x ∈ innerL, 32 < x.toNat := by decide
theorem okC_sub (a b : List UInt8) (x : UInt8) (h : ∀ y ∈ a, y ∈ b) (hx : okC a x = true) : okC b x = true := by
  unfold okC at *
  simp only [Bool.or_eq_true] at *
  rcases hx with hx | hx
  · exact .inl hx
  · exact .inr (by simp only [List.contains_iff_mem] at *; exact h x hx)
/-- what parseL gives for a site -/
theorem site_of {n fr before : List UInt8} {u : U6} (hf : fr = conv (innerL ++ [63]) true fr) (hfm : ∀ x ∈ fr, okC (innerL ++ [63]) x = true ∨ x = 37) (h : siteL n fr before = some u) : ∃ a b c d, u = (n, a, b, c, d, fr) ∧ Site n a b c d fr := by
  unfold siteL at h
  split at h
  · next h1 =>
    simp only at h
    split at h
    · next h2 =>
      obtain ⟨h3, h4, h5, h6⟩ := h2
      cases h
      have hk : okC innerL 47 = true := by decide
      refine ⟨_, _, _, _, rfl, ⟨h1.1, lowL_low _, by rw [lowL_len]; exact ⟨h4, h5⟩, by rw [lowL_ok [45, 46] _ (by decide)]; exact h6, port_again n _ h3, clean_idem _, ?_, ?_, conv_idem _ _, conv_mem _ _ _, hf.symm, hfm⟩⟩
      · exact fixed_clean innerL hk _ (conv_idem innerL _)
      · intro x hx
        rcases clean_mem _ x hx with rfl | hx
        · exact .inl hk
        · exact conv_mem _ _ _ x hx
    · cases h
  · cases h
theorem http_gt : ∀ x ∈ httpL, 32 < x.toNat := by decide
theorem https_gt : ∀ x ∈ httpsL, 32 < x.toNat := by decide
theorem about_gt : ∀ x ∈ aboutL, 32 < x.toNat := by decide
theorem all_mem {more l : List UInt8} (h : l.all (okC more) = true) : ∀ x ∈ l, okC more x = true ∨ x = 37 := fun x hx => .inl (List.all_eq_true.1 h x hx)
theorem port_mem {p : List UInt8} (h : portOk p) : ∀ x ∈ p, okC [] x = true ∨ x = 37 := fun x hx => .inl (digit_ok [] x (List.all_eq_true.1 h.1 x hx))
theorem mem_tail (c : UInt8) (l : List UInt8) (x : UInt8) (h : x ∈ tailL c l) : x = c ∨ x ∈ l := by
  unfold tailL at h
  split at h
  · cases h
  · exact List.mem_cons.1 h
/-- what stands between the scheme and the fragment, and behind // -/
def midL (a b c d : List UInt8) : List UInt8 := a ++ tailL 58 b ++ c ++ tailL 63 d
theorem format_site (n a b c d f : List UInt8) (hn : n ≠ aboutL) : formatL (n, a, b, c, d, f) = n ++ 58 :: (47 :: 47 :: midL a b c d ++ tailL 35 f) := by
  unfold formatL placeL midL
  rw [if_neg hn]
  simp [tailL, List.append_assoc]
theorem http_pre (n r : List UInt8) (h : n = httpL ∨ n = httpsL) : pre 58 (n ++ 58 :: r) = n ∧ post 58 (n ++ 58 :: r) = r ∧ schemeOk (n ++ 58 :: r) = true ∧ lowL n = n := by
  have h1 := takeW_stop 58 n r (by rcases h with rfl | rfl <;> decide)
  refine ⟨h1.1, h1.2, ?_, by rcases h with rfl | rfl <;> decide⟩
  unfold schemeOk
  rw [h1.1]
  have h2 : (n ++ 58 :: r).contains 58 = true := by simp
  rw [h2]
  rcases h with rfl | rfl <;> rfl
theorem site_again {n a b c d f : List UInt8} (s : Site n a b c d f) : siteL n f (47 :: 47 :: midL a b c d) = some (n, a, b, c, d, f) := by
  obtain ⟨sch, hlow, hlen, hok, pok, clean, pfix, pmem, qfix, qmem, ffix, fmem⟩ := s
  have hc47 : ∃ r, c = 47 :: r := by rw [← clean]; exact clean_head c
  obtain ⟨cr, hcr⟩ := hc47
  have ha := all_mem hok
  have hb := port_mem pok.1
  have n63 : (63 : UInt8) ∉ a ++ tailL 58 b ++ c := by
    simp only [List.mem_append, not_or]
    refine ⟨⟨okC_ne _ 63 (by decide) a ha (by decide), fun h => ?_⟩, okC_ne _ 63 (by decide) c pmem (by decide)⟩
    rcases mem_tail 58 b 63 h with h | h
    · revert h; decide
    · exact okC_ne _ 63 (by decide) b hb (by decide) h
  have n47 : (47 : UInt8) ∉ a ++ tailL 58 b := by
    simp only [List.mem_append, not_or]
    refine ⟨okC_ne _ 47 (by decide) a ha (by decide), fun h => ?_⟩
    rcases mem_tail 58 b 47 h with h | h
    · revert h; decide
    · exact okC_ne _ 47 (by decide) b hb (by decide) h
  have n58 : (58 : UInt8) ∉ a := okC_ne _ 58 (by decide) a ha (by decide)
  have q1 := pre_tail 63 _ d n63
  have q2 : pre 47 (a ++ tailL 58 b ++ c) = a ++ tailL 58 b := by rw [hcr]; exact (takeW_stop 47 _ cr n47).1
  have q3 := pre_tail 58 a b n58
  have q4 : (a ++ tailL 58 b ++ c).drop (a ++ tailL 58 b).length = c := by simp
  unfold siteL
  rw [if_pos ⟨sch, rfl⟩]
  simp only [List.drop_succ_cons, List.drop_zero, midL, q1.1, q1.2, q2, q3.1, q3.2, q4]
  rw [if_pos ⟨pok.1, hlen.1, hlen.2, hok⟩, hlow, pok.2, pfix, clean, qfix]
theorem mid_mem {n a b c d f : List UInt8} (s : Site n a b c d f) : ∀ x ∈ midL a b c d, okC (innerL ++ [63]) x = true ∨ x = 37 := by
  intro x hx
  unfold midL at hx
  simp only [List.mem_append] at hx
  have hs : ∀ m : List UInt8, (∀ y ∈ m, y ∈ innerL ++ [63]) → okC m x = true ∨ x = 37 → okC (innerL ++ [63]) x = true ∨ x = 37 := fun m hm h => h.imp (okC_sub m _ x hm) id
  rcases hx with ((hx | hx) | hx) | hx
  · exact hs [45, 46] (by decide) (all_mem s.hok x hx)
  · rcases mem_tail 58 b x hx with rfl | hx
    · exact .inl (by decide)
    · exact hs [] (by simp) (port_mem s.pok.1 x hx)
  · exact hs innerL (fun y hy => List.mem_append_left _ hy) (s.pmem x hx)
  · rcases mem_tail 63 d x hx with rfl | hx
    · exact .inl (by decide)
    · exact s.qmem x hx
theorem ok_gt (x : UInt8) (h : okC (innerL ++ [63]) x = true ∨ x = 37) : 32 < x.toNat := by
  rcases h with h | rfl
  · exact okC_ascii _ innerQ_gt x h
  · decide
theorem site_parse {n a b c d f : List UInt8} (s : Site n a b c d f) : parseL (formatL (n, a, b, c, d, f)) = some (n, a, b, c, d, f) := by
  have hn : n ≠ aboutL := by rcases s.sch with rfl | rfl <;> decide
  rw [format_site n a b c d f hn]
  obtain ⟨p1, p2, p3, p4⟩ := http_pre n (47 :: 47 :: midL a b c d ++ tailL 35 f) s.sch
  have hgt : ∀ x ∈ n ++ 58 :: (47 :: 47 :: midL a b c d ++ tailL 35 f), 32 < x.toNat := by
    intro x hx
    rcases List.mem_append.1 hx with hx | hx
    · rcases s.sch with rfl | rfl
      · exact http_gt x hx
      · exact https_gt x hx
    · rcases List.mem_cons.1 hx with rfl | hx
      · decide
      · rcases List.mem_append.1 hx with hx | hx
        · rcases List.mem_cons.1 hx with rfl | hx
          · decide
          · rcases List.mem_cons.1 hx with rfl | hx
            · decide
            · exact ok_gt x (mid_mem s x hx)
        · rcases mem_tail 35 f x hx with rfl | hx
          · decide
          · exact ok_gt x (s.fmem x hx)
  have n35 : (35 : UInt8) ∉ 47 :: 47 :: midL a b c d := by
    intro h
    rcases List.mem_cons.1 h with h | h
    · revert h; decide
    · rcases List.mem_cons.1 h with h | h
      · revert h; decide
      · exact okC_ne _ 35 (by decide) _ (mid_mem s) (by decide) h
  have q := pre_tail 35 _ f n35
  unfold parseL
  rw [trim_id _ hgt, if_pos p3, p1, p2, p4]
  unfold restL
  simp only [if_neg hn, q.1, q.2, s.ffix]
  exact site_again s
structure About (path f : List UInt8) : Prop where
  pok : path.all (okC [45]) = true
  ffix : conv (innerL ++ [63]) true f = f
  fmem : ∀ x ∈ f, okC (innerL ++ [63]) x = true ∨ x = 37
theorem about_parse {p f : List UInt8} (s : About p f) : parseL (formatL (aboutL, [], [], p, [], f)) = some (aboutL, [], [], p, [], f) := by
  have e : formatL (aboutL, [], [], p, [], f) = aboutL ++ 58 :: (p ++ tailL 35 f) := by
    unfold formatL; rw [if_pos rfl]; simp
  rw [e]
  have h1 := takeW_stop 58 aboutL (p ++ tailL 35 f) (by decide)
  have hgt : ∀ x ∈ aboutL ++ 58 :: (p ++ tailL 35 f), 32 < x.toNat := by
    intro x hx
    rcases List.mem_append.1 hx with hx | hx
    · exact about_gt x hx
    · rcases List.mem_cons.1 hx with rfl | hx
      · decide
      · rcases List.mem_append.1 hx with hx | hx
        · exact okC_ascii [45] (by decide) x (List.all_eq_true.1 s.pok x hx)
        · rcases mem_tail 35 f x hx with rfl | hx
          · decide
          · exact ok_gt x (s.fmem x hx)
  have n35 : (35 : UInt8) ∉ p := okC_ne _ 35 (by decide) p (all_mem s.pok) (by decide)
  have q := pre_tail 35 _ f n35
  have hsc : schemeOk (aboutL ++ 58 :: (p ++ tailL 35 f)) = true := by
    unfold schemeOk
    rw [h1.1]
    have h2 : (aboutL ++ 58 :: (p ++ tailL 35 f)).contains 58 = true := by simp
    rw [h2]; rfl
  unfold parseL
  rw [trim_id _ hgt, if_pos hsc, h1.1, h1.2]
  unfold restL
  rw [if_pos (show lowL aboutL = aboutL from by decide)]
  simp only [q.1, q.2, s.ffix, if_pos s.pok]
  rfl
/-- what parseL gives -/
theorem parse_cases {s : List UInt8} {u : U6} (h : parseL s = some u) : (∃ p f, u = (aboutL, [], [], p, [], f) ∧ About p f) ∨ (∃ n a b c d f, u = (n, a, b, c, d, f) ∧ Site n a b c d f) := by
  unfold parseL at h
  split at h
  · unfold restL at h
    simp only at h
    split at h
    · next ha =>
      split at h
      · next hp =>
        cases h
        exact .inl ⟨_, _, by rw [ha], hp, conv_idem _ _, conv_mem _ _ _⟩
      · cases h
    · obtain ⟨a, b, c, d, h1, h2⟩ := site_of (conv_idem _ _).symm (conv_mem _ _ _) h
      exact .inr ⟨_, a, b, c, d, _, h1, h2⟩
  · cases h
/-- the text of a parsed address is parsed to it again -/
theorem parse_format {s : List UInt8} {u : U6} (h : parseL s = some u) : parseL (formatL u) = some u := by
  rcases parse_cases h with ⟨p, f, rfl, ha⟩ | ⟨n, a, b, c, d, f, rfl, hs⟩
  · exact about_parse ha
  · exact site_parse hs
end Go.Proofs.YtjdhaacmlpegoaaGreatDoor
