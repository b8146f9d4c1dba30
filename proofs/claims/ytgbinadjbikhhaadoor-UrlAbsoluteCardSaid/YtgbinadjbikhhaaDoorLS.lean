/- Plain: what Resolve computes; blocks for its walk. -/
import Derived.Test.YtgbinadjbikhhaaDoorLX
namespace Go.Proofs.YtgbinadjbikhhaaDoor
set_option linter.unusedVariables false
set_option linter.unusedSimpArgs false
open Go.RowKit

/-- how much of a path reaches up to the last slash -/
def dirN (l : List UInt8) : Nat → Nat
  | 0 => 0
  | k + 1 => if l[k]? = some 47 then k + 1 else dirN l k
theorem dirN_le (l : List UInt8) : ∀ k, dirN l k ≤ k
  | 0 => Nat.le_refl _
  | k + 1 => by
    unfold dirN
    have := dirN_le l k
    split <;> omega
/-- the address that a trimmed text denotes on a page -/
def resolveL (u : U6) (v : Bool) (t : List UInt8) : Option U6 :=
  if schemeOk t = true then parseL t
  else if v = false then none
  else if t = [] then some (u.1, u.2.1, u.2.2.1, u.2.2.2.1, u.2.2.2.2.1, [])
  else if t.head? = some 35 then some (u.1, u.2.1, u.2.2.1, u.2.2.2.1, u.2.2.2.2.1, conv (innerL ++ [63]) true t.tail)
  else if u.1 = aboutL then none
  else if t.take 2 = [47, 47] then parseL (u.1 ++ 58 :: t)
  else if t.head? = some 47 then parseL (placeL u ++ t)
  else if t.head? = some 63 then parseL (placeL u ++ u.2.2.2.1 ++ t)
  else parseL (placeL u ++ u.2.2.2.1.take (dirN u.2.2.2.1 u.2.2.2.1.length) ++ t)
theorem getb (s : ByteArray) (k : Nat) (h : k < s.size) : s.data.toList[k]? = some s[k] := by
  rw [List.getElem?_eq_getElem (by rw [size_len]; exact h)]; rfl
theorem lastIdx_dir (s : ByteArray) : ∀ k, k ≤ s.size → Lib.lastIdx s 47 k + 1 = (dirN s.data.toList k : Int)
  | 0, _ => rfl
  | k + 1, hk => by
    have ih := lastIdx_dir s k (by omega)
    have hg : s.data[k]! = s[k] := by
      rw [getElem!_pos s.data k (show k + 1 ≤ s.size from hk)]; rfl
    unfold Lib.lastIdx dirN
    rw [hg, getb s k (by omega)]
    by_cases h : s[k] = 47
    · rw [if_pos (by rw [h]; rfl), if_pos (by rw [h])]; omega
    · rw [if_neg (fun e => h (UInt8.toNat_inj.1 (by rw [show (47 : UInt8).toNat = 47 from rfl]; omega))), if_neg (fun e => h (Option.some.inj e)), ih]
theorem res_at {fn : Func} {i j : Nat} (hr : fn.results = #[.cell i 25, .tmp j]) (tmps : Array Value) (w : World) (k : Nat) (a b c d e f x : Value) (h2 : tmps.getD i undef = .pointer (some ⟨k, 0, none⟩)) (h3 : tmps.getD j undef = x)
    (h : w.cell? ⟨k, 0, none⟩ = some a ∧ w.cell? ⟨k, 1, none⟩ = some b ∧ w.cell? ⟨k, 2, none⟩ = some c ∧ w.cell? ⟨k, 3, none⟩ = some d ∧ w.cell? ⟨k, 4, none⟩ = some e ∧ w.cell? ⟨k, 5, none⟩ = some f) :
    (results fn tmps).run Tryd.prog w = .ok (.tuple #[.agg #[a, b, c, d, e, f], x]) w := by
  obtain ⟨c0, c1, c2, c3, c4, c5⟩ := h
  rw [Array.getD_eq_getD_getElem?] at h2 h3
  simp [results, hr, h2, h3, go_sem, c0, c1, c2, c3, c4, c5]
theorem url_at {fn : Func} {i j : Nat} (hr : fn.results = #[.cell i 25, .tmp j]) (tmps : Array Value) (W : World) (k : Nat) (hW : Blank W k) (a b c d e f x : Value) (h2 : tmps.getD i undef = .pointer (some ⟨k, 0, none⟩)) (h3 : tmps.getD j undef = x) :
    (results fn tmps).run Tryd.prog (set6 W k a b c d e f) = .ok (.tuple #[.agg #[a, b, c, d, e, f], x]) (set6 W k a b c d e f) := res_at hr tmps _ k a b c d e f x h2 h3 (set6_at hW a b c d e f)
theorem below_set6 {B M : Nat} {w w' : World} (h : Below B w w') (hM : B ≤ M) (a b c d e f : Value) : Below B w (set6 w' M a b c d e f) :=
  (((((h.setCell hM _).setCell hM _).setCell hM _).setCell hM _).setCell hM _).setCell hM _
theorem frule {B : Nat} {w0 w1 : World} (hb : Below B w0 w1) : ∀ b o, b < B → w1.frozen? ⟨b, o, none⟩ = w0.frozen? ⟨b, o, none⟩ := fun b o h => hb.frozen (p := ⟨b, o, none⟩) h
theorem parse_known (X : ByteArray) (hs : X.size ≤ 300000) : ∃ (r1 r2 r3 r4 r5 r6 : ByteArray) (B : Bool), resV (parseL X.data.toList) = .tuple #[.agg #[.string r1, .string r2, .string r3, .string r4, .string r5, .string r6], .int .i64 (if B then 0 else 4)] ∧ resB (parseL X.data.toList) = .tuple #[.agg #[.string r1, .string r2, .string r3, .string r4, .string r5, .string r6], .bool B]
    ∧ (∀ w, MaxAt w → Calls Tryd.prog 13 #[.string X] w fun x w' => x = .returned (.tuple #[.agg #[.string r1, .string r2, .string r3, .string r4, .string r5, .string r6], .int .i64 (if B then 0 else 4)]) ∧ Below w.heap.size w w')
    ∧ (∀ w, MaxAt w → Calls Tryd.prog 14 #[.string X] w fun x w' => x = .returned (.tuple #[.agg #[.string r1, .string r2, .string r3, .string r4, .string r5, .string r6], .bool B]) ∧ Below w.heap.size w w') := by
  obtain ⟨a, b, c, d, e, f, h⟩ : ∃ a b c d e f : ByteArray, (parseL X.data.toList).getD noneU = (a.data.toList, b.data.toList, c.data.toList, d.data.toList, e.data.toList, f.data.toList) := by
    obtain ⟨a, b, c, d, e, f⟩ := (parseL X.data.toList).getD noneU
    exact ⟨⟨a.toArray⟩, ⟨b.toArray⟩, ⟨c.toArray⟩, ⟨d.toArray⟩, ⟨e.toArray⟩, ⟨f.toArray⟩, rfl⟩
  have h1 : resV (parseL X.data.toList) = .tuple #[.agg #[.string a, .string b, .string c, .string d, .string e, .string f], .int .i64 (if (parseL X.data.toList).isSome then 0 else 4)] := by rw [resV, h]; rfl
  have h2 : resB (parseL X.data.toList) = .tuple #[.agg #[.string a, .string b, .string c, .string d, .string e, .string f], .bool (parseL X.data.toList).isSome] := by rw [resB, h]; rfl
  refine ⟨a, b, c, d, e, f, (parseL X.data.toList).isSome, h1, h2, fun w hM => ?_, fun w hM => ?_⟩
  · rw [← h1]; exact parse_any X w hs hM
  · rw [← h2]; exact rparse_any X w hs hM
theorem trim_is (s T : ByteArray) (w : World) (hs : s.size ≤ 1000000) (hT : T.data.toList = trimL s.data.toList) : Calls Tryd.prog 41 #[.string s] w fun x w' => x = .returned (.string T) ∧ w = w' := by
  refine (trim_any s w hs).mono ?_
  rintro x w' ⟨u, rfl, hu, hb⟩
  exact ⟨by rw [byteArray_ext (hu.trans hT.symm)], hb⟩
theorem rtrim_is (s T : ByteArray) (w : World) (hs : s.size ≤ 1000000) (hT : T.data.toList = trimL s.data.toList) : Calls Tryd.prog 49 #[.string s] w fun x w' => x = .returned (.string T) ∧ w = w' := by
  refine (rtrim_any s w hs).mono ?_
  rintro x w' ⟨u, rfl, hu, hb⟩
  exact ⟨by rw [byteArray_ext (hu.trans hT.symm)], hb⟩
theorem site_is (a b c d e f t : ByteArray) (w : World) (ha : a.size ≤ 1000000) (hb : b.size ≤ 1000000) (hc : c.size ≤ 1000000) (ht : t.data.toList = placeL (a.data.toList, b.data.toList, c.data.toList, d.data.toList, e.data.toList, f.data.toList)) :
    Calls Tryd.prog 56 #[.agg #[.string a, .string b, .string c, .string d, .string e, .string f]] w fun x w' => x = .returned (.string t) ∧ Below w.heap.size w w' := by
  refine (site_any a b c d e f w ha hb hc).mono ?_
  rintro x w' ⟨u, rfl, hu, hb⟩
  exact ⟨by rw [byteArray_ext (hu.trans ht.symm)], hb⟩
theorem place_is (a b c d e f t : ByteArray) (w : World) (ha : a.size ≤ 1000000) (hb : b.size ≤ 1000000) (hc : c.size ≤ 1000000) (ht : t.data.toList = placeL (a.data.toList, b.data.toList, c.data.toList, d.data.toList, e.data.toList, f.data.toList)) :
    Calls Tryd.prog 57 #[.agg #[.string a, .string b, .string c, .string d, .string e, .string f]] w fun x w' => x = .returned (.string t) ∧ Below w.heap.size w w' := by
  refine (place_any a b c d e f w ha hb hc).mono ?_
  rintro x w' ⟨u, rfl, hu, hb⟩
  exact ⟨by rw [byteArray_ext (hu.trans ht.symm)], hb⟩
end Go.Proofs.YtgbinadjbikhhaaDoor
