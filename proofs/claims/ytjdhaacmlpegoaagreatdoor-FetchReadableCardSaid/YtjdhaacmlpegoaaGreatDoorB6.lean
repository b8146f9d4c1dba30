import Derived.Test.YtjdhaacmlpegoaaGreatDoorLP
import Derived.Test.YtjdhaacmlpegoaaGreatDoorLV
import Derived.Test.YtjdhaacmlpegoaaGreatDoorLV2
/- Plain: origins, valid addresses, fragments. -/
namespace Go.Proofs.YtjdhaacmlpegoaaGreatDoor
set_option linter.unusedVariables false
set_option linter.unusedSimpArgs false
open Go.RowKit

theorem place_site (n a b c d f : List UInt8) : placeL (n, a, b, c, d, f) = n ++ 58 :: (47 :: 47 :: (a ++ tailL 58 b)) := by
  unfold placeL
  simp [tailL, List.append_assoc]
theorem Site.bare {n a b c d f : List UInt8} (s : Site n a b c d f) : Site n a b [47] [] [] :=
  ⟨s.sch, s.hlow, s.hlen, s.hok, s.pok, by decide, by decide, by decide, by decide, by simp, by decide, by simp⟩
theorem Site.noFrag {n a b c d f : List UInt8} (s : Site n a b c d f) : Site n a b c d [] :=
  ⟨s.sch, s.hlow, s.hlen, s.hok, s.pok, s.clean, s.pfix, s.pmem, s.qfix, s.qmem, rfl, by simp⟩
theorem About.noFrag {p f : List UInt8} (s : About p f) : About p [] := ⟨s.pok, rfl, by simp⟩
/-- an origin's text is parsed to the address with the path / -/
theorem place_parse {n a b c d f : List UInt8} (s : Site n a b c d f) : parseL (placeL (n, a, b, c, d, f)) = some (n, a, b, [47], [], []) := by
  have hn : n ≠ aboutL := by rcases s.sch with rfl | rfl <;> decide
  rw [place_site]
  have s2 := s.bare
  have hm : midL a b [] [] = a ++ tailL 58 b := by simp [midL, tailL]
  obtain ⟨p1, p2, p3, p4⟩ := http_pre n (47 :: 47 :: (a ++ tailL 58 b)) s.sch
  have hab : ∀ x ∈ a ++ tailL 58 b, okC (innerL ++ [63]) x = true ∨ x = 37 := fun x hx => mid_mem s x (by
    unfold midL
    rcases List.mem_append.1 hx with h | h
    · simp [h]
    · simp [h])
  have hgt : ∀ x ∈ n ++ 58 :: (47 :: 47 :: (a ++ tailL 58 b)), 32 < x.toNat := by
    intro x hx
    rcases List.mem_append.1 hx with hx | hx
    · rcases s.sch with rfl | rfl
      · exact http_gt x hx
      · exact https_gt x hx
    · rcases List.mem_cons.1 hx with rfl | hx
      · decide
      · rcases List.mem_cons.1 hx with rfl | hx
        · decide
        · rcases List.mem_cons.1 hx with rfl | hx
          · decide
          · exact ok_gt x (hab x hx)
  have n35 : (35 : UInt8) ∉ 47 :: 47 :: (a ++ tailL 58 b) := by
    intro h
    rcases List.mem_cons.1 h with h | h
    · revert h; decide
    · rcases List.mem_cons.1 h with h | h
      · revert h; decide
      · exact okC_ne _ 35 (by decide) _ hab (by decide) h
  have ha := all_mem s.hok
  have hb := port_mem s.pok.1
  have nx : ∀ c : UInt8, c ≠ 58 → okC [45, 46] c = false → okC [] c = false → c ≠ 37 → c ∉ a ++ tailL 58 b := fun c h1 h2 h3 h4 h => by
    rcases List.mem_append.1 h with h | h
    · exact okC_ne _ c h2 a ha h4 h
    · rcases mem_tail 58 b c h with h | h
      · exact h1 h
      · exact okC_ne _ c h3 b hb h4 h
  have n63 := nx 63 (by decide) (by decide) (by decide) (by decide)
  have n47 := nx 47 (by decide) (by decide) (by decide) (by decide)
  have n58 : (58 : UInt8) ∉ a := okC_ne _ 58 (by decide) a ha (by decide)
  have q3 := pre_tail 58 a b n58
  unfold parseL
  rw [trim_id _ hgt, if_pos p3, p1, p2, p4]
  unfold restL
  simp only [if_neg hn, pre_all 35 _ n35, post_none 35 _ n35]
  unfold siteL
  rw [if_pos ⟨s.sch, rfl⟩]
  simp only [List.drop_succ_cons, List.drop_zero, pre_all 63 _ n63, post_none 63 _ n63, pre_all 47 _ n47, q3.1, q3.2, List.drop_length]
  rw [if_pos ⟨s.pok.1, s.hlen.1, s.hlen.2, s.hok⟩, s.hlow, s.pok.2]
  rfl
/-- valid addresses -/
theorem valid_cases {u : U6} (h : parseL (formatL u) = some u) : (∃ p f, u = (aboutL, [], [], p, [], f) ∧ About p f) ∨ (∃ n a b c d f, u = (n, a, b, c, d, f) ∧ Site n a b c d f) := parse_cases h
theorem format_trim {u : U6} (h : parseL (formatL u) = some u) : trimL (formatL u) = formatL u := by
  rcases valid_cases h with ⟨p, f, rfl, s⟩ | ⟨n, a, b, c, d, f, rfl, s⟩
  · refine trim_id _ fun x hx => ?_
    have e : formatL (aboutL, [], [], p, [], f) = aboutL ++ 58 :: (p ++ tailL 35 f) := by
      unfold formatL; rw [if_pos rfl]; simp
    rw [e] at hx
    rcases List.mem_append.1 hx with hx | hx
    · exact about_gt x hx
    · rcases List.mem_cons.1 hx with rfl | hx
      · decide
      · rcases List.mem_append.1 hx with hx | hx
        · exact okC_ascii [45] (by decide) x (List.all_eq_true.1 s.pok x hx)
        · rcases mem_tail 35 f x hx with rfl | hx
          · decide
          · exact ok_gt x (s.fmem x hx)
  · refine trim_id _ fun x hx => ?_
    have hn : n ≠ aboutL := by rcases s.sch with rfl | rfl <;> decide
    rw [format_site n a b c d f hn] at hx
    rcases List.mem_append.1 hx with hx | hx
    · rcases s.sch with rfl | rfl
      · exact http_gt x hx
      · exact https_gt x hx
    · rcases List.mem_cons.1 hx with rfl | hx
      · decide
      · rcases List.mem_append.1 hx with hx | hx
        · rcases List.mem_cons.1 hx with rfl | hx
          · decide
          · rcases List.mem_cons.1 hx with rfl | hx
            · decide
            · exact ok_gt x (mid_mem s x hx)
        · rcases mem_tail 35 f x hx with rfl | hx
          · decide
          · exact ok_gt x (s.fmem x hx)
theorem some_scheme {l : List UInt8} {u : U6} (h : parseL l = some u) : schemeOk (trimL l) = true := by
  unfold parseL at h
  split at h
  · assumption
  · cases h
/-- without its fragment an address stays valid -/
theorem valid_noFrag {n a b c d f : List UInt8} (h : parseL (formatL (n, a, b, c, d, f)) = some (n, a, b, c, d, f)) : parseL (formatL (n, a, b, c, d, [])) = some (n, a, b, c, d, []) := by
  rcases valid_cases h with ⟨p, g, e, s⟩ | ⟨_, _, _, _, _, _, e, s⟩
  · cases e; exact about_parse s.noFrag
  · cases e; exact site_parse s.noFrag
def originL (u : U6) (v : Bool) : List UInt8 := if v = true ∧ u.1 ≠ aboutL then placeL u else [110, 117, 108, 108]
theorem place_null (u : U6) (h : parseL (formatL u) = some u) (ha : u.1 ≠ aboutL) : placeL u ≠ [110, 117, 108, 108] := by
  rcases valid_cases h with ⟨p, g, rfl, s⟩ | ⟨n, a, b, c, d, f, rfl, s⟩
  · exact absurd rfl ha
  · rw [place_site]
    rcases s.sch with rfl | rfl <;> simp
end Go.Proofs.YtjdhaacmlpegoaaGreatDoor

/- Plain: how long the parts of a parsed address can be. -/
namespace Go.Proofs.YtjdhaacmlpegoaaGreatDoor
set_option linter.unusedVariables false
set_option linter.unusedSimpArgs false
open Go.RowKit

theorem outL_app (a b : List (List UInt8)) : outL (a ++ b) = outL a ++ outL b := by simp [outL]
theorem outL_cons (p : List UInt8) (r : List (List UInt8)) : (outL (p :: r)).length = p.length + 1 + (outL r).length := by simp [outL]; omega
theorem outL_drop (acc : List (List UInt8)) : (outL acc.dropLast).length ≤ (outL acc).length := by
  rcases List.eq_nil_or_concat acc with rfl | ⟨l, x, rfl⟩
  · simp
  · rw [List.concat_eq_append, List.dropLast_concat, outL_app, List.length_append]; omega
theorem kstep_w (acc : List (List UInt8)) (p : List UInt8) : (outL (kstep acc p)).length ≤ (outL acc).length + (p.length + 1) := by
  unfold kstep
  split
  · have := outL_drop acc; omega
  · split
    · omega
    · rw [outL_app, List.length_append, outL_cons]; simp [outL]
theorem fold_w (l : List (List UInt8)) : ∀ acc : List (List UInt8), (outL (l.foldl kstep acc)).length ≤ (outL acc).length + (outL l).length := by
  induction l with
  | nil => intro acc; simp
  | cons p r ih =>
    intro acc
    rw [List.foldl_cons, outL_cons]
    have := ih (kstep acc p)
    have := kstep_w acc p
    omega
theorem segs_w (c : UInt8) (l : List UInt8) : (outL (segs c l)).length = l.length + 1 := by
  induction l with
  | nil => simp [segs, outL]
  | cons b l ih =>
    unfold segs
    split
    · rw [outL_cons, ih]; simp; omega
    · have hne := segs_ne c l
      cases e : segs c l with
      | nil => exact absurd e hne
      | cons p r =>
        rw [e, outL_cons] at ih
        simp only [outL_cons, List.length_cons]
        omega
theorem tail_w (l : List (List UInt8)) : (outL (tailE l)).length ≤ (outL l).length := by
  unfold tailE
  split
  · cases l with
    | nil => simp
    | cons p r => rw [List.tail_cons, outL_cons]; omega
  · exact Nat.le_refl _
theorem clean_le (l : List UInt8) : (cleanL l).length ≤ l.length + 2 := by
  unfold cleanL
  split
  · simp
  · have h1 := segs_w 47 l
    have h2 := tail_w (segs 47 l)
    unfold keptL kpt
    rw [List.take_length, outL_app, List.length_append]
    have h3 := fold_w (tailE (segs 47 l)) []
    have h4 : (outL []).length = 0 := rfl
    have h5 : ∀ b : Prop, [Decidable b] → (outL (if b then [[]] else [])).length ≤ 1 := fun b _ => by split <;> simp [outL]
    have h6 := h5 ((tailE (segs 47 l)).length = (tailE (segs 47 l)).length ∧ ((tailE (segs 47 l)).getLast?.map isDot).getD false = true)
    omega
def Fits (n : Nat) (u : U6) : Prop := u.1.length ≤ n ∧ u.2.1.length ≤ n ∧ u.2.2.1.length ≤ n ∧ u.2.2.2.1.length ≤ n ∧ u.2.2.2.2.1.length ≤ n ∧ u.2.2.2.2.2.length ≤ n
/-- the parts of a parsed address -/
theorem parse_len (s : List UInt8) (u : U6) (h : parseL s = some u) : Fits (3 * s.length + 2) u := by
  unfold parseL at h
  split at h
  · have ht := trimL_len s
    have h1 := pre_le 58 (trimL s)
    have h2 := post_le 58 (trimL s)
    have h3 := lowL_len (pre 58 (trimL s))
    revert h
    generalize lowL (pre 58 (trimL s)) = n at h3 ⊢
    generalize post 58 (trimL s) = r at h2 ⊢
    intro h
    unfold restL at h
    have h4 := pre_le 35 r
    have h5 := post_le 35 r
    have h6 := conv_len (innerL ++ [63]) true (post 35 r)
    revert h
    generalize conv (innerL ++ [63]) true (post 35 r) = fr at h6 ⊢
    generalize pre 35 r = b at h4 ⊢
    intro h
    simp only at h
    split at h
    · split at h
      · cases h
        refine ⟨?_, ?_, ?_, ?_, ?_, ?_⟩ <;> simp only [List.length_nil] <;> omega
      · cases h
    · unfold siteL at h
      split at h
      · simp only at h
        split at h
        · next h7 =>
          cases h
          have a1 := pre_le 63 (b.drop 2)
          have a2 := post_le 63 (b.drop 2)
          have a3 : (b.drop 2).length ≤ b.length := by simp
          have a4 := conv_len (innerL ++ [63]) true (post 63 (b.drop 2))
          have a5 := clean_le (conv innerL true ((pre 63 (b.drop 2)).drop (pre 47 (pre 63 (b.drop 2))).length))
          have a6 := conv_len innerL true ((pre 63 (b.drop 2)).drop (pre 47 (pre 63 (b.drop 2))).length)
          have a7 : ((pre 63 (b.drop 2)).drop (pre 47 (pre 63 (b.drop 2))).length).length ≤ (pre 63 (b.drop 2)).length := by simp
          have a8 := pre_le 47 (pre 63 (b.drop 2))
          have a9 := pre_le 58 (pre 47 (pre 63 (b.drop 2)))
          have b1 := lowL_len (pre 58 (pre 47 (pre 63 (b.drop 2))))
          have b2 : (portOf n (post 58 (pre 47 (pre 63 (b.drop 2))))).length ≤ (post 58 (pre 47 (pre 63 (b.drop 2)))).length := by
            unfold portOf
            split
            · simp
            · exact zeros_len _
          have b3 := post_le 58 (pre 47 (pre 63 (b.drop 2)))
          refine ⟨?_, ?_, ?_, ?_, ?_, ?_⟩ <;> simp only <;> omega
        · cases h
      · cases h
  · cases h
end Go.Proofs.YtjdhaacmlpegoaaGreatDoor

/- Origin. -/
namespace Go.Proofs.YtjdhaacmlpegoaaGreatDoor
set_option linter.unusedVariables false
set_option linter.unusedSimpArgs false
open Go.RowKit

abbrev nullS : ByteArray := ⟨#[110, 117, 108, 108]⟩
set_option maxRecDepth 20000 in
set_option maxHeartbeats 1000000 in
theorem origin_any (a b c d e f : ByteArray) (w : World) (ha : a.size ≤ 40000) (hb : b.size ≤ 40000) (hc : c.size ≤ 40000) (hd : d.size ≤ 40000) (he : e.size ≤ 40000) (hf : f.size ≤ 40000) (hM : MaxAt w) :
    Calls Tryz.prog 29 #[.agg #[.string a, .string b, .string c, .string d, .string e, .string f]] w fun e' w' => ∃ t : ByteArray, e' = .returned (.string t) ∧ t.data.toList = originL (a.data.toList, b.data.toList, c.data.toList, d.data.toList, e.data.toList, f.data.toList) (validB (a.data.toList, b.data.toList, c.data.toList, d.data.toList, e.data.toList, f.data.toList)) ∧ Below w.heap.size w w' := by
  have cV := fun w hM => valid_any a b c d e f w ha hb hc hd he hf hM
  have cP := fun w => site_any a b c d e f w (by omega) (by omega) (by omega)
  obtain ⟨B, hB⟩ : ∃ B, validB (a.data.toList, b.data.toList, c.data.toList, d.data.toList, e.data.toList, f.data.toList) = B := ⟨_, rfl⟩
  obtain ⟨PL, hPL⟩ : ∃ PL, placeL (a.data.toList, b.data.toList, c.data.toList, d.data.toList, e.data.toList, f.data.toList) = PL := ⟨_, rfl⟩
  have hR : originL (a.data.toList, b.data.toList, c.data.toList, d.data.toList, e.data.toList, f.data.toList) B = if B = true ∧ a.data.toList ≠ aboutL then PL else [110, 117, 108, 108] := by rw [originL, hPL]
  rw [hB] at cV ⊢
  rw [hPL] at cP
  obtain ⟨R, hRR⟩ : ∃ R, originL (a.data.toList, b.data.toList, c.data.toList, d.data.toList, e.data.toList, f.data.toList) B = R := ⟨_, rfl⟩
  rw [hRR] at hR ⊢
  have hB0 : Below w.heap.size w (w.alloc (.cells #[.string a, .string b, .string c, .string d, .string e, .string f] 37)) := (Below.refl _ w).alloc (Nat.le_refl _) _
  have n1 : (a.toList == [97, 98, 111, 117, 116]) = decide (a.data.toList = aboutL) := str_beq _ _
  obtain ⟨X, hX⟩ : ∃ X, decide (a.data.toList = aboutL) = X := ⟨_, rfl⟩
  have hR2 : R = if B = true ∧ X = false then PL else [110, 117, 108, 108] := by rw [hR, ← hX]; simp
  rw [hX] at n1
  have HR := Lib.hid hR2
  have CV := Lib.hid cV
  have CP := Lib.hid cP
  clear cV cP hB hPL hR hRR hX hR2
  cases B <;> cases X
  all_goals
    go_enter Tryz.func29, Tryz.ntmps29
    go_wp2_with (first
      | (go_at_call 49; with_reducible refine (CV.out _ (hM.below hB0 (Nat.le_refl _))).mono ?_; rintro e' w1 ⟨rfl, hb1⟩; have hB1 := hB0.trans (hb1.mono hB0.size); obtain ⟨hc1, hf1⟩ := bcell hb1; have hz1 : w.heap.size < w1.heap.size := (by have := hb1.size; simp at this; omega))
      | (go_at_call 68; with_reducible refine (CP.out _).mono ?_; rintro e' w2 ⟨t, rfl, ht, hb2⟩; have hB2 := hB1.trans (hb2.mono hB1.size); have Ht := Lib.hid ht; clear ht))
    go_ret
    first
      | exact ⟨_, rfl, by rw [HR.out]; rfl, hB1⟩
      | exact ⟨t, rfl, by rw [HR.out, Ht.out]; rfl, hB2⟩
end Go.Proofs.YtjdhaacmlpegoaaGreatDoor

/- The reference's Origin. -/
namespace Go.Proofs.YtjdhaacmlpegoaaGreatDoor
set_option linter.unusedVariables false
set_option linter.unusedSimpArgs false
open Go.RowKit

set_option maxRecDepth 20000 in
set_option maxHeartbeats 1000000 in
theorem rorigin_any (a b c d e f : ByteArray) (w : World) (ha : a.size ≤ 40000) (hb : b.size ≤ 40000) (hc : c.size ≤ 40000) (hd : d.size ≤ 40000) (he : e.size ≤ 40000) (hf : f.size ≤ 40000) (hM : MaxAt w) :
    Calls Tryz.prog 27 #[.agg #[.string a, .string b, .string c, .string d, .string e, .string f]] w fun e' w' => ∃ t : ByteArray, e' = .returned (.string t) ∧ t.data.toList = originL (a.data.toList, b.data.toList, c.data.toList, d.data.toList, e.data.toList, f.data.toList) (validB (a.data.toList, b.data.toList, c.data.toList, d.data.toList, e.data.toList, f.data.toList)) ∧ Below w.heap.size w w' := by
  have cV := fun w hM => rvalid_any a b c d e f w ha hb hc hd he hf hM
  have cP := fun w => place_any a b c d e f w (by omega) (by omega) (by omega)
  obtain ⟨B, hB⟩ : ∃ B, validB (a.data.toList, b.data.toList, c.data.toList, d.data.toList, e.data.toList, f.data.toList) = B := ⟨_, rfl⟩
  obtain ⟨PL, hPL⟩ : ∃ PL, placeL (a.data.toList, b.data.toList, c.data.toList, d.data.toList, e.data.toList, f.data.toList) = PL := ⟨_, rfl⟩
  have hR : originL (a.data.toList, b.data.toList, c.data.toList, d.data.toList, e.data.toList, f.data.toList) B = if B = true ∧ a.data.toList ≠ aboutL then PL else [110, 117, 108, 108] := by rw [originL, hPL]
  rw [hB] at cV ⊢
  rw [hPL] at cP
  obtain ⟨R, hRR⟩ : ∃ R, originL (a.data.toList, b.data.toList, c.data.toList, d.data.toList, e.data.toList, f.data.toList) B = R := ⟨_, rfl⟩
  rw [hRR] at hR ⊢
  have hB0 : Below w.heap.size w (w.alloc (.cells #[.string a, .string b, .string c, .string d, .string e, .string f] 37)) := (Below.refl _ w).alloc (Nat.le_refl _) _
  have n1 : (a.toList == [97, 98, 111, 117, 116]) = decide (a.data.toList = aboutL) := str_beq _ _
  obtain ⟨X, hX⟩ : ∃ X, decide (a.data.toList = aboutL) = X := ⟨_, rfl⟩
  have hR2 : R = if B = true ∧ X = false then PL else [110, 117, 108, 108] := by rw [hR, ← hX]; simp
  rw [hX] at n1
  have HR := Lib.hid hR2
  have CV := Lib.hid cV
  have CP := Lib.hid cP
  clear cV cP hB hPL hR hRR hX hR2
  cases B <;> cases X
  all_goals
    go_enter Tryz.func27, Tryz.ntmps27
    go_wp2_with (first
      | (go_at_call 56; with_reducible refine (CV.out _ (hM.below hB0 (Nat.le_refl _))).mono ?_; rintro e' w1 ⟨rfl, hb1⟩; have hB1 := hB0.trans (hb1.mono hB0.size); obtain ⟨hc1, hf1⟩ := bcell hb1; have hz1 : w.heap.size < w1.heap.size := (by have := hb1.size; simp at this; omega))
      | (go_at_call 57; with_reducible refine (CP.out _).mono ?_; rintro e' w2 ⟨t, rfl, ht, hb2⟩; have hB2 := hB1.trans (hb2.mono hB1.size); have Ht := Lib.hid ht; clear ht))
    go_ret
    first
      | exact ⟨_, rfl, by rw [HR.out]; rfl, hB1⟩
      | exact ⟨t, rfl, by rw [HR.out, Ht.out]; rfl, hB2⟩
end Go.Proofs.YtjdhaacmlpegoaaGreatDoor

/- Short, Without, SameOrigin; both Parses and Valid at an address whose text is known. -/
namespace Go.Proofs.YtjdhaacmlpegoaaGreatDoor
set_option linter.unusedVariables false
set_option linter.unusedSimpArgs false
open Go.RowKit

abbrev aggU (a b c d e f : ByteArray) : Value := .agg #[.string a, .string b, .string c, .string d, .string e, .string f]
theorem without_any (a b c d e f : ByteArray) (w : World) :
    Calls Tryz.prog 124 #[.agg #[.string a, .string b, .string c, .string d, .string e, .string f]] w fun x w' => x = .returned (.agg #[.string a, .string b, .string c, .string d, .string e, .string ⟨#[]⟩]) ∧ Below w.heap.size w w' := by
  go_enter Tryz.func124, Tryz.ntmps124
  go_wp2_with fail
  refine bodyPost_ret (v := aggU a b c d e ⟨#[]⟩) (by simp [results, Tryz.results124, go_sem]) rfl ⟨rfl, ?_⟩
  exact ((Below.refl _ w).alloc (Nat.le_refl _) _).alloc (by simp) _
theorem snext12 {wa wX w3 : World} {K M : Nat} {v0 v1 v2 v3 v4 v5 u0 u1 u2 u3 u4 u5 : Value} (hk : K < wa.heap.size) (hm : M < wa.heap.size) (h : wX.cell? ⟨K, 0, none⟩ = some v0 ∧ wX.cell? ⟨K, 1, none⟩ = some v1 ∧ wX.cell? ⟨K, 2, none⟩ = some v2 ∧ wX.cell? ⟨K, 3, none⟩ = some v3 ∧ wX.cell? ⟨K, 4, none⟩ = some v4 ∧ wX.cell? ⟨K, 5, none⟩ = some v5 ∧ wX.cell? ⟨M, 0, none⟩ = some u0 ∧ wX.cell? ⟨M, 1, none⟩ = some u1 ∧ wX.cell? ⟨M, 2, none⟩ = some u2 ∧ wX.cell? ⟨M, 3, none⟩ = some u3 ∧ wX.cell? ⟨M, 4, none⟩ = some u4 ∧ wX.cell? ⟨M, 5, none⟩ = some u5 ∧ MaxAt wX ∧ Below wa.heap.size wa wX) (h3 : Below wX.heap.size wX w3) :
    w3.cell? ⟨K, 0, none⟩ = some v0 ∧ w3.cell? ⟨K, 1, none⟩ = some v1 ∧ w3.cell? ⟨K, 2, none⟩ = some v2 ∧ w3.cell? ⟨K, 3, none⟩ = some v3 ∧ w3.cell? ⟨K, 4, none⟩ = some v4 ∧ w3.cell? ⟨K, 5, none⟩ = some v5 ∧ w3.cell? ⟨M, 0, none⟩ = some u0 ∧ w3.cell? ⟨M, 1, none⟩ = some u1 ∧ w3.cell? ⟨M, 2, none⟩ = some u2 ∧ w3.cell? ⟨M, 3, none⟩ = some u3 ∧ w3.cell? ⟨M, 4, none⟩ = some u4 ∧ w3.cell? ⟨M, 5, none⟩ = some u5 ∧ MaxAt w3 ∧ Below wa.heap.size wa w3 := by
  obtain ⟨a0, a1, a2, a3, a4, a5, b0, b1, b2, b3, b4, b5, hM, hw⟩ := h
  have hk' := Nat.lt_of_lt_of_le hk hw.size
  have hm' := Nat.lt_of_lt_of_le hm hw.size
  exact ⟨(h3.cell (p := ⟨K, 0, none⟩) hk').trans a0, (h3.cell (p := ⟨K, 1, none⟩) hk').trans a1, (h3.cell (p := ⟨K, 2, none⟩) hk').trans a2, (h3.cell (p := ⟨K, 3, none⟩) hk').trans a3, (h3.cell (p := ⟨K, 4, none⟩) hk').trans a4, (h3.cell (p := ⟨K, 5, none⟩) hk').trans a5,
    (h3.cell (p := ⟨M, 0, none⟩) hm').trans b0, (h3.cell (p := ⟨M, 1, none⟩) hm').trans b1, (h3.cell (p := ⟨M, 2, none⟩) hm').trans b2, (h3.cell (p := ⟨M, 3, none⟩) hm').trans b3, (h3.cell (p := ⟨M, 4, none⟩) hm').trans b4, (h3.cell (p := ⟨M, 5, none⟩) hm').trans b5, hM.below h3 (Nat.le_refl _), hw.trans (h3.mono hw.size)⟩
theorem max12 {W : World} {p0 p1 p2 p3 p4 p5 p6 p7 p8 p9 pa pb q : Prop} (h : p0 ∧ p1 ∧ p2 ∧ p3 ∧ p4 ∧ p5 ∧ p6 ∧ p7 ∧ p8 ∧ p9 ∧ pa ∧ pb ∧ MaxAt W ∧ q) : MaxAt W := h.2.2.2.2.2.2.2.2.2.2.2.2.1
theorem bel12 {W w : World} {p0 p1 p2 p3 p4 p5 p6 p7 p8 p9 pa pb q : Prop} (h : p0 ∧ p1 ∧ p2 ∧ p3 ∧ p4 ∧ p5 ∧ p6 ∧ p7 ∧ p8 ∧ p9 ∧ pa ∧ pb ∧ q ∧ Below w.heap.size w W) : Below w.heap.size w W := h.2.2.2.2.2.2.2.2.2.2.2.2.2
/-- two blocks of six strings, the second one the newest -/
theorem start12 {w : World} {K : Nat} {v0 v1 v2 v3 v4 v5 u0 u1 u2 u3 u4 u5 : Value} {T : Nat} (hM : MaxAt w) (hk : K < w.heap.size) (h : w.cell? ⟨K, 0, none⟩ = some v0 ∧ w.cell? ⟨K, 1, none⟩ = some v1 ∧ w.cell? ⟨K, 2, none⟩ = some v2 ∧ w.cell? ⟨K, 3, none⟩ = some v3 ∧ w.cell? ⟨K, 4, none⟩ = some v4 ∧ w.cell? ⟨K, 5, none⟩ = some v5) {wa : World} {M : Nat} (hwa : w.alloc (.cells #[u0, u1, u2, u3, u4, u5] T) = wa) (hm : w.heap.size = M) :
    wa.cell? ⟨K, 0, none⟩ = some v0 ∧ wa.cell? ⟨K, 1, none⟩ = some v1 ∧ wa.cell? ⟨K, 2, none⟩ = some v2 ∧ wa.cell? ⟨K, 3, none⟩ = some v3 ∧ wa.cell? ⟨K, 4, none⟩ = some v4 ∧ wa.cell? ⟨K, 5, none⟩ = some v5 ∧ wa.cell? ⟨M, 0, none⟩ = some u0 ∧ wa.cell? ⟨M, 1, none⟩ = some u1 ∧ wa.cell? ⟨M, 2, none⟩ = some u2 ∧ wa.cell? ⟨M, 3, none⟩ = some u3 ∧ wa.cell? ⟨M, 4, none⟩ = some u4 ∧ wa.cell? ⟨M, 5, none⟩ = some u5 ∧ MaxAt wa ∧ Below wa.heap.size wa wa := by
  subst hwa
  subst hm
  obtain ⟨b0, b1, b2, b3, b4, b5⟩ := new6 w u0 u1 u2 u3 u4 u5 T
  have h3 : Below w.heap.size w (w.alloc (.cells #[u0, u1, u2, u3, u4, u5] T)) := (Below.refl _ w).alloc (Nat.le_refl _) _
  obtain ⟨a0, a1, a2, a3, a4, a5⟩ := h
  exact ⟨(h3.cell (p := ⟨K, 0, none⟩) hk).trans a0, (h3.cell (p := ⟨K, 1, none⟩) hk).trans a1, (h3.cell (p := ⟨K, 2, none⟩) hk).trans a2, (h3.cell (p := ⟨K, 3, none⟩) hk).trans a3, (h3.cell (p := ⟨K, 4, none⟩) hk).trans a4, (h3.cell (p := ⟨K, 5, none⟩) hk).trans a5, b0, b1, b2, b3, b4, b5, hM.below h3 (Nat.le_refl _), Below.refl _ _⟩
theorem drew12 {w : World} {K M : Nat} {v0 v1 v2 v3 v4 v5 u0 u1 u2 u3 u4 u5 : Value} {wa : World} (hk : K < wa.heap.size) (hm : M < wa.heap.size) (h : w.cell? ⟨K, 0, none⟩ = some v0 ∧ w.cell? ⟨K, 1, none⟩ = some v1 ∧ w.cell? ⟨K, 2, none⟩ = some v2 ∧ w.cell? ⟨K, 3, none⟩ = some v3 ∧ w.cell? ⟨K, 4, none⟩ = some v4 ∧ w.cell? ⟨K, 5, none⟩ = some v5 ∧ w.cell? ⟨M, 0, none⟩ = some u0 ∧ w.cell? ⟨M, 1, none⟩ = some u1 ∧ w.cell? ⟨M, 2, none⟩ = some u2 ∧ w.cell? ⟨M, 3, none⟩ = some u3 ∧ w.cell? ⟨M, 4, none⟩ = some u4 ∧ w.cell? ⟨M, 5, none⟩ = some u5 ∧ MaxAt w ∧ Below wa.heap.size wa w) : w.drew.cell? ⟨K, 0, none⟩ = some v0 ∧ w.drew.cell? ⟨K, 1, none⟩ = some v1 ∧ w.drew.cell? ⟨K, 2, none⟩ = some v2 ∧ w.drew.cell? ⟨K, 3, none⟩ = some v3 ∧ w.drew.cell? ⟨K, 4, none⟩ = some v4 ∧ w.drew.cell? ⟨K, 5, none⟩ = some v5 ∧ w.drew.cell? ⟨M, 0, none⟩ = some u0 ∧ w.drew.cell? ⟨M, 1, none⟩ = some u1 ∧ w.drew.cell? ⟨M, 2, none⟩ = some u2 ∧ w.drew.cell? ⟨M, 3, none⟩ = some u3 ∧ w.drew.cell? ⟨M, 4, none⟩ = some u4 ∧ w.drew.cell? ⟨M, 5, none⟩ = some u5 ∧ MaxAt w.drew ∧ Below wa.heap.size wa w.drew := snext12 hk hm h (Below.refl _ w).drew
theorem byteArray_ext {a b : ByteArray} (h : a.data.toList = b.data.toList) : a = b := by
  cases a; cases b; congr 1; exact Array.toList_inj.1 h
theorem drew_below {w w' : World} (h : Below w.drew.heap.size w.drew w') : Below w.heap.size w w' := (Below.refl _ w).drew.trans (h.mono (by simp))
end Go.Proofs.YtjdhaacmlpegoaaGreatDoor

/- Plain: what the origin of an address is parsed to. -/
namespace Go.Proofs.YtjdhaacmlpegoaaGreatDoor
set_option linter.unusedVariables false
set_option linter.unusedSimpArgs false
open Go.RowKit

def orgL (u : U6) : List UInt8 := originL u (validB u)
theorem org_live {u : U6} (h : orgL u ≠ [110, 117, 108, 108]) : parseL (formatL u) = some u ∧ u.1 ≠ aboutL ∧ orgL u = placeL u := by
  unfold orgL originL at *
  split at h
  · next h1 => exact ⟨(valid_iff u).1 h1.1, h1.2, by rw [if_pos h1]⟩
  · exact absurd rfl h
theorem org_of {u : U6} (h : parseL (formatL u) = some u) (h1 : u.1 ≠ aboutL) : orgL u = placeL u := by
  unfold orgL originL; rw [if_pos ⟨(valid_iff u).2 h, h1⟩]
theorem org_parse {a b c d e f : List UInt8} (h : orgL (a, b, c, d, e, f) ≠ [110, 117, 108, 108]) :
    parseL (orgL (a, b, c, d, e, f)) = some (a, b, c, [47], [], []) ∧ orgL (a, b, c, [47], [], []) = orgL (a, b, c, d, e, f) ∧ orgL (a, b, c, d, e, []) = orgL (a, b, c, d, e, f) := by
  obtain ⟨h1, h2, h3⟩ := org_live h
  have hp : ∀ d e f d' e' f' : List UInt8, placeL (a, b, c, d, e, f) = placeL (a, b, c, d', e', f') := fun _ _ _ _ _ _ => rfl
  rcases valid_cases h1 with ⟨p, g, e0, s⟩ | ⟨n, a1, b1, c1, d1, f1, e0, s⟩
  · cases e0; exact absurd rfl h2
  · cases e0
    have hq := place_parse s
    refine ⟨by rw [h3]; exact hq, ?_, ?_⟩
    · rw [h3, org_of (parse_format hq) h2]; exact hp ..
    · rw [h3, org_of (valid_noFrag h1) h2]; exact hp ..
theorem origin_is (a b c d e f T : ByteArray) (w : World) (ha : a.size ≤ 40000) (hb : b.size ≤ 40000) (hc : c.size ≤ 40000) (hd : d.size ≤ 40000) (he : e.size ≤ 40000) (hf : f.size ≤ 40000) (hM : MaxAt w) (hT : T.data.toList = orgL (a.data.toList, b.data.toList, c.data.toList, d.data.toList, e.data.toList, f.data.toList)) :
    Calls Tryz.prog 29 #[.agg #[.string a, .string b, .string c, .string d, .string e, .string f]] w fun x w' => x = .returned (.string T) ∧ Below w.heap.size w w' := by
  refine (origin_any a b c d e f w ha hb hc hd he hf hM).mono ?_
  rintro x w' ⟨u, rfl, hu, hb⟩
  exact ⟨by rw [byteArray_ext (hu.trans hT.symm)], hb⟩
theorem rorigin_is (a b c d e f T : ByteArray) (w : World) (ha : a.size ≤ 40000) (hb : b.size ≤ 40000) (hc : c.size ≤ 40000) (hd : d.size ≤ 40000) (he : e.size ≤ 40000) (hf : f.size ≤ 40000) (hM : MaxAt w) (hT : T.data.toList = orgL (a.data.toList, b.data.toList, c.data.toList, d.data.toList, e.data.toList, f.data.toList)) :
    Calls Tryz.prog 27 #[.agg #[.string a, .string b, .string c, .string d, .string e, .string f]] w fun x w' => x = .returned (.string T) ∧ Below w.heap.size w w' := by
  refine (rorigin_any a b c d e f w ha hb hc hd he hf hM).mono ?_
  rintro x w' ⟨u, rfl, hu, hb⟩
  exact ⟨by rw [byteArray_ext (hu.trans hT.symm)], hb⟩
theorem org_len (a b c d e f : ByteArray) : (orgL (a.data.toList, b.data.toList, c.data.toList, d.data.toList, e.data.toList, f.data.toList)).length ≤ a.size + b.size + c.size + 4 := by
  unfold orgL originL
  split
  · exact site_len a b c d e f
  · simp
end Go.Proofs.YtjdhaacmlpegoaaGreatDoor
