/- Plain: what the origin of an address is parsed to. -/
import Derived.Test.YtgbinadjbikhhaaDoorLO2
import Derived.Test.YtgbinadjbikhhaaDoorLW
namespace Go.Proofs.YtgbinadjbikhhaaDoor
set_option linter.unusedVariables false
set_option linter.unusedSimpArgs false
open Go.RowKit

def orgL (u : U6) : List UInt8 := originL u (validB u)
theorem org_live {u : U6} (h : orgL u ≠ [110, 117, 108, 108]) : parseL (formatL u) = some u ∧ u.1 ≠ aboutL ∧ orgL u = placeL u := by
  unfold orgL originL at *
  split at h
  · next h1 => exact ⟨(valid_iff u).1 h1.1, h1.2, by rw [if_pos h1]⟩
  · exact absurd rfl h
theorem org_of {u : U6} (h : parseL (formatL u) = some u) (h1 : u.1 ≠ aboutL) : orgL u = placeL u := by
  unfold orgL originL; rw [if_pos ⟨(valid_iff u).2 h, h1⟩]
theorem org_parse {a b c d e f : List UInt8} (h : orgL (a, b, c, d, e, f) ≠ [110, 117, 108, 108]) :
    parseL (orgL (a, b, c, d, e, f)) = some (a, b, c, [47], [], []) ∧ orgL (a, b, c, [47], [], []) = orgL (a, b, c, d, e, f) ∧ orgL (a, b, c, d, e, []) = orgL (a, b, c, d, e, f) := by
  obtain ⟨h1, h2, h3⟩ := org_live h
  have hp : ∀ d e f d' e' f' : List UInt8, placeL (a, b, c, d, e, f) = placeL (a, b, c, d', e', f') := fun _ _ _ _ _ _ => rfl
  rcases valid_cases h1 with ⟨p, g, e0, s⟩ | ⟨n, a1, b1, c1, d1, f1, e0, s⟩
  · cases e0; exact absurd rfl h2
  · cases e0
    have hq := place_parse s
    refine ⟨by rw [h3]; exact hq, ?_, ?_⟩
    · rw [h3, org_of (parse_format hq) h2]; exact hp ..
    · rw [h3, org_of (valid_noFrag h1) h2]; exact hp ..
theorem origin_is (a b c d e f T : ByteArray) (w : World) (ha : a.size ≤ 40000) (hb : b.size ≤ 40000) (hc : c.size ≤ 40000) (hd : d.size ≤ 40000) (he : e.size ≤ 40000) (hf : f.size ≤ 40000) (hM : MaxAt w) (hT : T.data.toList = orgL (a.data.toList, b.data.toList, c.data.toList, d.data.toList, e.data.toList, f.data.toList)) :
    Calls Tryd.prog 28 #[.agg #[.string a, .string b, .string c, .string d, .string e, .string f]] w fun x w' => x = .returned (.string T) ∧ Below w.heap.size w w' := by
  refine (origin_any a b c d e f w ha hb hc hd he hf hM).mono ?_
  rintro x w' ⟨u, rfl, hu, hb⟩
  exact ⟨by rw [byteArray_ext (hu.trans hT.symm)], hb⟩
theorem rorigin_is (a b c d e f T : ByteArray) (w : World) (ha : a.size ≤ 40000) (hb : b.size ≤ 40000) (hc : c.size ≤ 40000) (hd : d.size ≤ 40000) (he : e.size ≤ 40000) (hf : f.size ≤ 40000) (hM : MaxAt w) (hT : T.data.toList = orgL (a.data.toList, b.data.toList, c.data.toList, d.data.toList, e.data.toList, f.data.toList)) :
    Calls Tryd.prog 29 #[.agg #[.string a, .string b, .string c, .string d, .string e, .string f]] w fun x w' => x = .returned (.string T) ∧ Below w.heap.size w w' := by
  refine (rorigin_any a b c d e f w ha hb hc hd he hf hM).mono ?_
  rintro x w' ⟨u, rfl, hu, hb⟩
  exact ⟨by rw [byteArray_ext (hu.trans hT.symm)], hb⟩
theorem org_len (a b c d e f : ByteArray) : (orgL (a.data.toList, b.data.toList, c.data.toList, d.data.toList, e.data.toList, f.data.toList)).length ≤ a.size + b.size + c.size + 4 := by
  unfold orgL originL
  split
  · exact site_len a b c d e f
  · simp
end Go.Proofs.YtgbinadjbikhhaaDoor
