/- Plain: origins, valid addresses, fragments. -/
import Derived.Test.YtgbinadjbikhhaaDoorLP
namespace Go.Proofs.YtgbinadjbikhhaaDoor
set_option linter.unusedVariables false
set_option linter.unusedSimpArgs false
open Go.RowKit

theorem place_site (n a b c d f : List UInt8) : placeL (n, a, b, c, d, f) = n ++ 58 :: (47 :: 47 :: (a ++ tailL 58 b)) := by
  unfold placeL
  simp [tailL, List.append_assoc]
theorem Site.bare {n a b c d f : List UInt8} (s : Site n a b c d f) : Site n a b [47] [] [] :=
  ⟨s.sch, s.hlow, s.hlen, s.hok, s.pok, by decide, by decide, by decide, by decide, by simp, by decide, by simp⟩
theorem Site.noFrag {n a b c d f : List UInt8} (s : Site n a b c d f) : Site n a b c d [] :=
  ⟨s.sch, s.hlow, s.hlen, s.hok, s.pok, s.clean, s.pfix, s.pmem, s.qfix, s.qmem, rfl, by simp⟩
theorem About.noFrag {p f : List UInt8} (s : About p f) : About p [] := ⟨s.pok, rfl, by simp⟩
/-- an origin's text is parsed to the address with the path / -/
theorem place_parse {n a b c d f : List UInt8} (s : Site n a b c d f) : parseL (placeL (n, a, b, c, d, f)) = some (n, a, b, [47], [], []) := by
  have hn : n ≠ aboutL := by rcases s.sch with rfl | rfl <;> decide
  rw [place_site]
  have s2 := s.bare
  have hm : midL a b [] [] = a ++ tailL 58 b := by simp [midL, tailL]
  obtain ⟨p1, p2, p3, p4⟩ := http_pre n (47 :: 47 :: (a ++ tailL 58 b)) s.sch
  have hab : ∀ x ∈ a ++ tailL 58 b, okC (innerL ++ [63]) x = true ∨ x = 37 := fun x hx => mid_mem s x (by
    unfold midL
    rcases List.mem_append.1 hx with h | h
    · simp [h]
    · simp [h])
  have hgt : ∀ x ∈ n ++ 58 :: (47 :: 47 :: (a ++ tailL 58 b)), 32 < x.toNat := by
    intro x hx
    rcases List.mem_append.1 hx with hx | hx
    · rcases s.sch with rfl | rfl
      · exact http_gt x hx
      · exact https_gt x hx
    · rcases List.mem_cons.1 hx with rfl | hx
      · decide
      · rcases List.mem_cons.1 hx with rfl | hx
        · decide
        · rcases List.mem_cons.1 hx with rfl | hx
          · decide
          · exact ok_gt x (hab x hx)
  have n35 : (35 : UInt8) ∉ 47 :: 47 :: (a ++ tailL 58 b) := by
    intro h
    rcases List.mem_cons.1 h with h | h
    · revert h; decide
    · rcases List.mem_cons.1 h with h | h
      · revert h; decide
      · exact okC_ne _ 35 (by decide) _ hab (by decide) h
  have ha := all_mem s.hok
  have hb := port_mem s.pok.1
  have nx : ∀ c : UInt8, c ≠ 58 → okC [45, 46] c = false → okC [] c = false → c ≠ 37 → c ∉ a ++ tailL 58 b := fun c h1 h2 h3 h4 h => by
    rcases List.mem_append.1 h with h | h
    · exact okC_ne _ c h2 a ha h4 h
    · rcases mem_tail 58 b c h with h | h
      · exact h1 h
      · exact okC_ne _ c h3 b hb h4 h
  have n63 := nx 63 (by decide) (by decide) (by decide) (by decide)
  have n47 := nx 47 (by decide) (by decide) (by decide) (by decide)
  have n58 : (58 : UInt8) ∉ a := okC_ne _ 58 (by decide) a ha (by decide)
  have q3 := pre_tail 58 a b n58
  unfold parseL
  rw [trim_id _ hgt, if_pos p3, p1, p2, p4]
  unfold restL
  simp only [if_neg hn, pre_all 35 _ n35, post_none 35 _ n35]
  unfold siteL
  rw [if_pos ⟨s.sch, rfl⟩]
  simp only [List.drop_succ_cons, List.drop_zero, pre_all 63 _ n63, post_none 63 _ n63, pre_all 47 _ n47, q3.1, q3.2, List.drop_length]
  rw [if_pos ⟨s.pok.1, s.hlen.1, s.hlen.2, s.hok⟩, s.hlow, s.pok.2]
  rfl
/-- valid addresses -/
theorem valid_cases {u : U6} (h : parseL (formatL u) = some u) : (∃ p f, u = (aboutL, [], [], p, [], f) ∧ About p f) ∨ (∃ n a b c d f, u = (n, a, b, c, d, f) ∧ Site n a b c d f) := parse_cases h
theorem format_trim {u : U6} (h : parseL (formatL u) = some u) : trimL (formatL u) = formatL u := by
  rcases valid_cases h with ⟨p, f, rfl, s⟩ | ⟨n, a, b, c, d, f, rfl, s⟩
  · refine trim_id _ fun x hx => ?_
    have e : formatL (aboutL, [], [], p, [], f) = aboutL ++ 58 :: (p ++ tailL 35 f) := by
      unfold formatL; rw [if_pos rfl]; simp
    rw [e] at hx
    rcases List.mem_append.1 hx with hx | hx
    · exact about_gt x hx
    · rcases List.mem_cons.1 hx with rfl | hx
      · decide
      · rcases List.mem_append.1 hx with hx | hx
        · exact okC_ascii [45] (by decide) x (List.all_eq_true.1 s.pok x hx)
        · rcases mem_tail 35 f x hx with rfl | hx
          · decide
          · exact ok_gt x (s.fmem x hx)
  · refine trim_id _ fun x hx => ?_
    have hn : n ≠ aboutL := by rcases s.sch with rfl | rfl <;> decide
    rw [format_site n a b c d f hn] at hx
    rcases List.mem_append.1 hx with hx | hx
    · rcases s.sch with rfl | rfl
      · exact http_gt x hx
      · exact https_gt x hx
    · rcases List.mem_cons.1 hx with rfl | hx
      · decide
      · rcases List.mem_append.1 hx with hx | hx
        · rcases List.mem_cons.1 hx with rfl | hx
          · decide
          · rcases List.mem_cons.1 hx with rfl | hx
            · decide
            · exact ok_gt x (mid_mem s x hx)
        · rcases mem_tail 35 f x hx with rfl | hx
          · decide
          · exact ok_gt x (s.fmem x hx)
theorem some_scheme {l : List UInt8} {u : U6} (h : parseL l = some u) : schemeOk (trimL l) = true := by
  unfold parseL at h
  split at h
  · assumption
  · cases h
/-- without its fragment an address stays valid -/
theorem valid_noFrag {n a b c d f : List UInt8} (h : parseL (formatL (n, a, b, c, d, f)) = some (n, a, b, c, d, f)) : parseL (formatL (n, a, b, c, d, [])) = some (n, a, b, c, d, []) := by
  rcases valid_cases h with ⟨p, g, e, s⟩ | ⟨_, _, _, _, _, _, e, s⟩
  · cases e; exact about_parse s.noFrag
  · cases e; exact site_parse s.noFrag
def originL (u : U6) (v : Bool) : List UInt8 := if v = true ∧ u.1 ≠ aboutL then placeL u else [110, 117, 108, 108]
theorem place_null (u : U6) (h : parseL (formatL u) = some u) (ha : u.1 ≠ aboutL) : placeL u ≠ [110, 117, 108, 108] := by
  rcases valid_cases h with ⟨p, g, rfl, s⟩ | ⟨n, a, b, c, d, f, rfl, s⟩
  · exact absurd rfl ha
  · rw [place_site]
    rcases s.sch with rfl | rfl <;> simp
end Go.Proofs.YtgbinadjbikhhaaDoor
