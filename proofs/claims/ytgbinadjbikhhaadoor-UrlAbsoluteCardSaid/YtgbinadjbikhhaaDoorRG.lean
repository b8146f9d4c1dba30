/- Both Resolves compute resolveL. -/
import Derived.Test.YtgbinadjbikhhaaDoorRC
import Derived.Test.YtgbinadjbikhhaaDoorRE
import Derived.Test.YtgbinadjbikhhaaDoorRF
namespace Go.Proofs.YtgbinadjbikhhaaDoor
set_option linter.unusedVariables false
set_option linter.unusedSimpArgs false
open Go.RowKit

theorem resolve_any (a b c d e f s : ByteArray) (w : World) (hM : MaxAt w) (ha : a.size ≤ 40000) (hb : b.size ≤ 40000) (hc : c.size ≤ 40000) (hd : d.size ≤ 40000) (he : e.size ≤ 40000) (hf : f.size ≤ 40000) (hs : s.size ≤ 40000) :
    Calls Tryd.prog 32 #[.agg #[.string a, .string b, .string c, .string d, .string e, .string f], .string s] w fun x w' => x = .returned (resV (resolveL (a.data.toList, b.data.toList, c.data.toList, d.data.toList, e.data.toList, f.data.toList) (validB (a.data.toList, b.data.toList, c.data.toList, d.data.toList, e.data.toList, f.data.toList)) (trimL s.data.toList))) ∧ Below w.heap.size w w' := by
  obtain ⟨T, hT⟩ := list_bytes (trimL s.data.toList)
  have P : Pre a b c d e f s T := ⟨ha, hb, hc, hd, he, hf, hs, hT⟩
  rw [← hT]
  unfold resolveL
  by_cases h1 : schemeOk T.data.toList = true
  · rw [if_pos h1]; exact resolve1 a b c d e f s T w hM P h1 
  · rw [if_neg h1]
    have h1' : schemeOk T.data.toList = false := by simpa using h1
    by_cases h2 : validB (a.data.toList, b.data.toList, c.data.toList, d.data.toList, e.data.toList, f.data.toList) = false
    · rw [if_pos h2]; exact resolve2 a b c d e f s T w hM P h1' h2 
    · rw [if_neg h2]
      have h2' : validB (a.data.toList, b.data.toList, c.data.toList, d.data.toList, e.data.toList, f.data.toList) = true := by simpa using h2
      by_cases h3 : T.data.toList = []
      · rw [if_pos h3]; exact resolve3 a b c d e f s T w hM P h1' h2' (by rw [← size_len, h3]; rfl) _ rfl
      · rw [if_neg h3]
        have h3' : 0 < T.size := by
          rw [← size_len]; exact List.length_pos_iff.2 h3
        by_cases h4 : T.data.toList.head? = some 35
        · rw [if_pos h4]
          exact resolve4 a b c d e f s T w hM P h1' h2' h3' h4 _ rfl
        · rw [if_neg h4]
          by_cases h5 : a.data.toList = aboutL
          · rw [if_pos h5]; exact resolve5 a b c d e f s T w hM P h1' h2' h3' h4 h5 _ rfl
          · rw [if_neg h5]
            by_cases h6 : T.data.toList.take 2 = [47, 47]
            · rw [if_pos h6]; exact resolve6 a b c d e f s T w hM P h1' h2' h3' h4 h5 h6 _ rfl
            · rw [if_neg h6]
              by_cases h7 : T.data.toList.head? = some 47
              · rw [if_pos h7]; exact resolve7 a b c d e f s T w hM P h1' h2' h3' h4 h5 h6 h7 _ rfl
              · rw [if_neg h7]
                by_cases h8 : T.data.toList.head? = some 63
                · rw [if_pos h8]; exact resolve8 a b c d e f s T w hM P h1' h2' h3' h4 h5 h6 h7 h8 _ rfl
                · rw [if_neg h8]; exact resolve9 a b c d e f s T w hM P h1' h2' h3' h4 h5 h6 h7 h8 _ rfl
theorem rresolve_any (a b c d e f s : ByteArray) (w : World) (hM : MaxAt w) (ha : a.size ≤ 40000) (hb : b.size ≤ 40000) (hc : c.size ≤ 40000) (hd : d.size ≤ 40000) (he : e.size ≤ 40000) (hf : f.size ≤ 40000) (hs : s.size ≤ 40000) :
    Calls Tryd.prog 33 #[.agg #[.string a, .string b, .string c, .string d, .string e, .string f], .string s] w fun x w' => x = .returned (resB (resolveL (a.data.toList, b.data.toList, c.data.toList, d.data.toList, e.data.toList, f.data.toList) (validB (a.data.toList, b.data.toList, c.data.toList, d.data.toList, e.data.toList, f.data.toList)) (trimL s.data.toList))) ∧ Below w.heap.size w w' := by
  obtain ⟨T, hT⟩ := list_bytes (trimL s.data.toList)
  have P : Pre a b c d e f s T := ⟨ha, hb, hc, hd, he, hf, hs, hT⟩
  rw [← hT]
  unfold resolveL
  by_cases h1 : schemeOk T.data.toList = true
  · rw [if_pos h1]; exact rresolve1 a b c d e f s T w hM P h1 _ rfl
  · rw [if_neg h1]
    have h1' : schemeOk T.data.toList = false := by simpa using h1
    by_cases h2 : validB (a.data.toList, b.data.toList, c.data.toList, d.data.toList, e.data.toList, f.data.toList) = false
    · rw [if_pos h2]; exact rresolve2 a b c d e f s T w hM P h1' h2 _ rfl
    · rw [if_neg h2]
      have h2' : validB (a.data.toList, b.data.toList, c.data.toList, d.data.toList, e.data.toList, f.data.toList) = true := by simpa using h2
      by_cases h3 : T.data.toList = []
      · rw [if_pos h3]; exact rresolve3 a b c d e f s T w hM P h1' h2' (by rw [← size_len, h3]; rfl) _ rfl
      · rw [if_neg h3]
        have h3' : 0 < T.size := by
          rw [← size_len]; exact List.length_pos_iff.2 h3
        by_cases h4 : T.data.toList.head? = some 35
        · rw [if_pos h4]
          by_cases h9 : 1 < T.size
          · exact rresolve4b a b c d e f s T w hM P h1' h2' h3' h4 h9 _ rfl
          · have h9' : T.size = 1 := by omega
            have ht : T.data.toList.tail = [] := List.eq_nil_of_length_eq_zero (by rw [List.length_tail, size_len]; omega)
            rw [ht]
            exact rresolve4a a b c d e f s T w hM P h1' h2' h3' h4 h9' _ rfl
        · rw [if_neg h4]
          by_cases h5 : a.data.toList = aboutL
          · rw [if_pos h5]; exact rresolve5 a b c d e f s T w hM P h1' h2' h3' h4 h5 _ rfl
          · rw [if_neg h5]
            by_cases h6 : T.data.toList.take 2 = [47, 47]
            · rw [if_pos h6]; exact rresolve6 a b c d e f s T w hM P h1' h2' h3' h4 h5 h6 _ rfl
            · rw [if_neg h6]
              by_cases h7 : T.data.toList.head? = some 47
              · rw [if_pos h7]; exact rresolve7 a b c d e f s T w hM P h1' h2' h3' h4 h5 h6 h7 _ rfl
              · rw [if_neg h7]
                by_cases h8 : T.data.toList.head? = some 63
                · rw [if_pos h8]; exact rresolve8 a b c d e f s T w hM P h1' h2' h3' h4 h5 h6 h7 h8 _ rfl
                · rw [if_neg h8]; exact rresolve9 a b c d e f s T w hM P h1' h2' h3' h4 h5 h6 h7 h8 _ rfl
end Go.Proofs.YtgbinadjbikhhaaDoor
