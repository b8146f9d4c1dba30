/- UrlFields: the law. -/
import Derived.Test.YtgbinadjbikhhaaDoorFE
import Derived.Test.YtgbinadjbikhhaaDoorLC
namespace Go.Proofs.YtgbinadjbikhhaaDoor
set_option linter.unusedVariables false
set_option linter.unusedSimpArgs false
open Go.RowKit

theorem few2b (s t : ByteArray) (b : Nat) (w : World) (hc : w.cell? ⟨b, 0, none⟩ = some (.string s)) (hd : w.cell? ⟨b, 1, none⟩ = some (.string t)) :
    Calls Tryd.prog 12 #[.slice (some ⟨b, 0, none⟩) 2 2] w fun e w' => e = .returned (.bool (decide (s.size ≤ 400) && decide (t.size ≤ 400))) ∧ w = w' := by
  have := few_any [s, t] b 2 w (fun j h => by
    match j, h with
    | 0, _ => exact hc
    | 1, _ => exact hd) (by simp)
  refine Calls.mono this ?_
  rintro e w' ⟨rfl, rfl⟩
  exact ⟨by simp, rfl⟩
theorem find61 (s : ByteArray) (w : World) (hs : s.size ≤ 1000000) :
    Calls Tryd.prog 35 #[.string s, .int .u8 61] w fun e w' => e = .returned (.int .i64 ((pre 61 s.data.toList).length : Nat)) ∧ w = w' := find_any 61 s w hs
theorem changeP (s T : ByteArray) (w : World) (hs : s.size ≤ 3000000) (hT : T.data.toList = subL 43 32 s.data.toList) :
    Calls Tryd.prog 36 #[.string s, .int .u8 43, .int .u8 32] w fun e w' => e = .returned (.string T) ∧ Below w.heap.size w w' := change_is s 43 32 w hs T hT
theorem changeS (s T : ByteArray) (w : World) (hs : s.size ≤ 3000000) (hT : T.data.toList = subL 32 43 s.data.toList) :
    Calls Tryd.prog 36 #[.string s, .int .u8 32, .int .u8 43] w fun e w' => e = .returned (.string T) ∧ Below w.heap.size w w' := change_is s 32 43 w hs T hT
theorem segs38 (s : ByteArray) (w : World) (hs : s.size ≤ 1000000) :
    Calls Tryd.prog 34 #[.string s, .int .u8 38] w fun e w' => ∃ v ps, e = .returned v ∧ w'.ownsRow w.heap.size 9 1 v ps.length (strsV ps) ∧ lists ps = segs 38 s.data.toList ∧ Below w.heap.size w w' := segments_any s 38 w hs
/-- what the law takes of one part -/
theorem ref_bytes (p : ByteArray) : ∃ A B CA CB X Y : ByteArray, A = p.extract 0 (pre 61 p.data.toList).length ∧ B.data.toList = post 61 p.data.toList ∧ CA.data.toList = subL 43 32 A.data.toList ∧ CB.data.toList = subL 43 32 B.data.toList ∧ X.data.toList = unescL CA.data.toList ∧ Y.data.toList = unescL CB.data.toList ∧ (X.data.toList, Y.data.toList) = fieldOf p.data.toList ∧ A.size ≤ p.size ∧ B.size ≤ p.size ∧ CA.size ≤ p.size ∧ CB.size ≤ p.size := by
  have hA : (p.extract 0 (pre 61 p.data.toList).length).data.toList = pre 61 p.data.toList := by
    rw [ext_from]; exact pre_take 61 p.data.toList
  have h1 := pre_le 61 p.data.toList
  have h2 := post_le 61 p.data.toList
  rw [size_len] at h1 h2
  refine ⟨_, ⟨(post 61 p.data.toList).toArray⟩, ⟨(subL 43 32 (pre 61 p.data.toList)).toArray⟩, ⟨(subL 43 32 (post 61 p.data.toList)).toArray⟩, ⟨(unescL (subL 43 32 (pre 61 p.data.toList))).toArray⟩, ⟨(unescL (subL 43 32 (post 61 p.data.toList))).toArray⟩, rfl, rfl, by rw [hA], rfl, rfl, rfl, rfl, ?_, ?_, ?_, ?_⟩
  · rw [size_of hA]; exact h1
  · show (post 61 p.data.toList).toArray.size ≤ _
    rw [List.size_toArray]; exact h2
  · show (subL 43 32 (pre 61 p.data.toList)).toArray.size ≤ _
    rw [List.size_toArray, sub_len]; exact h1
  · show (subL 43 32 (post 61 p.data.toList)).toArray.size ≤ _
    rw [List.size_toArray, sub_len]; exact h2
theorem post_size (p : ByteArray) (h : ¬ (pre 61 p.data.toList).length < p.size) : post 61 p.data.toList = [] := by
  by_cases hm : 61 ∈ p.data.toList
  · have := congrArg List.length (pre_post 61 _ hm)
    rw [List.length_append, List.length_cons, size_len] at this
    omega
  · exact post_none 61 _ hm
/-- the first loop of the law: the fields that the document says -/
def Want (s : ByteArray) (B : Nat) (wA : World) (v : Value) (w' : World) : Prop := ∃ fs : List BFld, w'.ownsRow B 51 2 v fs.length (attrsV fs) ∧ flds fs = fieldsL s.data.toList ∧ Below B wA w'
end Go.Proofs.YtgbinadjbikhhaaDoor
