/- Change; strings.ReplaceAll at two bytes; Fields. -/
import Derived.Test.YtgbinadjbikhhaaDoorFA
import Derived.Test.YtgbinadjbikhhaaDoorLT
import Derived.Test.YtgbinadjbikhhaaDoorLT2
import Derived.Test.YtgbinadjbikhhaaDoorUQ
namespace Go.Proofs.YtgbinadjbikhhaaDoor
set_option linter.unusedVariables false
set_option linter.unusedSimpArgs false
open Go.RowKit

theorem ba_ext {a b : ByteArray} (h : a.data.toList = b.data.toList) : a = b := by
  cases a; cases b; congr 1; exact Array.toList_inj.1 h
theorem sub_take (a b : UInt8) (s : ByteArray) (k : Nat) (h : k < s.size) : subL a b (s.data.toList.take (k + 1)) = subL a b (s.data.toList.take k) ++ [subB a b s[k]] := by
  have hts : s.data.toList.take (k + 1) = s.data.toList.take k ++ [s[k]] := by rw [List.take_succ_eq_append_getElem (by simpa using h)]; rfl
  rw [hts, sub_app]; rfl
set_option maxRecDepth 20000 in
theorem change_any (s : ByteArray) (a b : UInt8) (w : World) (hs : s.size ≤ 3000000) :
    Calls Tryd.prog 36 #[.string s, .int .u8 (a.toNat : Int), .int .u8 (b.toNat : Int)] w fun e w' => ∃ t : ByteArray, e = .returned (.string t) ∧ t.data.toList = subL a b s.data.toList ∧ Below w.heap.size w w' := by
  obtain ⟨cap, w1, hcv, hby, hb1⟩ := conv_bytes w s
  go_enter Tryd.func36, Tryd.ntmps36
  go_wp2
  go_loopw [8] (fun iv wr => ∃ (k : Nat), k ≤ s.size ∧ iv = .int .i64 k ∧ BytesAt wr w.heap.size (subL a b (s.data.toList.take k) ++ s.data.toList.drop k) ∧ Below w.heap.size w wr) (fun iv _ => s.size - (intOf iv).toNat)
  case atStart => exact ⟨0, Nat.zero_le _, rfl, hby, hb1⟩
  case round =>
    obtain ⟨k, hk, rfl, hbl, hbw⟩ := hrel
    clear hby hb1 hcv
    by_cases hlt : k < s.size
    · have hd := drop_at s k hlt
      have hll : (subL a b (s.data.toList.take k)).length = k := by rw [sub_len, List.length_take, size_len]; omega
      have hn := sub_take a b s k hlt
      obtain ⟨P, hP⟩ : ∃ P, subL a b (s.data.toList.take k) = P := ⟨_, rfl⟩
      rw [hd, hP] at hbl
      rw [hP] at hll hn
      have c0 := hbl.cell k (by simp; omega)
      have f0 := hbl.free k (by simp; omega)
      rw [List.getElem_append_right (by omega)] at c0
      simp only [hll, Nat.sub_self, List.getElem_cons_zero] at c0
      have hlt2 := hbl.lt
      have hset := hbl.set k (by simp; omega) b
      rw [List.set_append_right _ _ (by omega), hll, Nat.sub_self, List.set_cons_zero] at hset
      have HN := Lib.hid hn
      have HS := Lib.hid hset
      have HBL := Lib.hid hbl
      clear hn hset hbl hd hP
      have hkk : (k : Int) < (s.size : Int) := by omega
      by_cases hx : s[k] = a
      · have n1 : ((s[k].toNat : Int) == (a.toNat : Int)) = true := by rw [hx]; simp
        have HX := Lib.hid (show subB a b s[k] = b from if_pos hx)
        clear hx
        go_wp2
        go_roundw
        case rel =>
          refine ⟨k + 1, by omega, by go_num, ?_, hbw.setCell (Nat.le_refl _) _⟩
          rw [HN.out, List.append_assoc, List.singleton_append, HX.out]
          exact HS.out
        case measure => simp [intOf]; omega
      · have n1 : ((s[k].toNat : Int) == (a.toNat : Int)) = false := by
          rw [beq_eq_false_iff_ne]; exact fun e => hx (UInt8.toNat_inj.1 (by omega))
        have HX := Lib.hid (show subB a b s[k] = s[k] from if_neg hx)
        clear hx
        go_wp2
        go_roundw
        case rel =>
          refine ⟨k + 1, by omega, by go_num, ?_, hbw⟩
          rw [HN.out, List.append_assoc, List.singleton_append, HX.out]
          exact HBL.out
        case measure => simp [intOf]; omega
    · rw [drop_end s k (by omega), List.append_nil, List.take_of_length_le (by simp; omega)] at hbl
      have hcv2 := run_convert_bytes_back (P := Tryd.prog) wr 69 9 5 ⟨w.heap.size, 0, none⟩ cap (subL a b s.data.toList) Tryd.underlying69 Tryd.underlying5 Tryd.underlying9 (fun j hj => by rw [show (⟨w.heap.size, 0, none⟩ : Addr).add j = ⟨w.heap.size, j, none⟩ by cases j <;> simp [Addr.add]]; exact hbl.cell j hj)
      have hll : (subL a b s.data.toList).length = s.size := by rw [sub_len, size_len]
      obtain ⟨t, ht⟩ : ∃ t : ByteArray, (⟨(subL a b s.data.toList).toArray⟩ : ByteArray) = t := ⟨_, rfl⟩
      rw [hll, ht] at hcv2
      have ht2 : t.data.toList = subL a b s.data.toList := by rw [← ht]
      have HT2 := Lib.hid ht2
      clear hbl hll ht ht2
      go_wp2
      go_ret
      exact ⟨t, rfl, HT2.out, hbw⟩
/-- strings.ReplaceAll at two bytes -/
theorem repl_any (s : ByteArray) (a b : UInt8) (hab : a ≠ b) (w : World) (hs : s.size ≤ 3000000) (hM : MaxAt w) (T : ByteArray) (hT : T.data.toList = subL a b s.data.toList) :
    Calls Tryd.prog 67 #[.string s, .string ⟨#[a]⟩, .string ⟨#[b]⟩] w fun e w' => e = .returned (.string T) ∧ Below w.heap.size w w' := by
  obtain ⟨m, hm⟩ := hM
  have hc := Lib.countB_le ⟨#[a]⟩ (Nat.le_refl 1) s.size s (Nat.le_refl _)
  refine (Tryd.strings_ReplaceAll s ⟨#[a]⟩ ⟨#[b]⟩ m w (by omega) hm (Nat.le_refl 1) (by
    have : (⟨#[b]⟩ : ByteArray).size = 1 := rfl
    rw [this]; omega)).mono ?_
  rintro e w' ⟨rfl, hb⟩
  refine ⟨?_, hb⟩
  congr 2
  refine ba_ext ?_
  rw [hT]
  exact replaceAll_sub a b hab s.data.toList
theorem cut_is (s : ByteArray) (c : UInt8) (w : World) (hs : s.size ≤ 1000000) (hM : MaxAt w) (A B : ByteArray) (hA : A.data.toList = pre c s.data.toList) (hB : B.data.toList = post c s.data.toList) :
    Calls Tryd.prog 42 #[.string s, .string ⟨#[c]⟩] w fun e w' => e = .returned (.tuple #[.string A, .string B, .bool (s.data.toList.contains c)]) ∧ Below w.heap.size w w' := by
  refine (cut_any s c w hs hM).mono ?_
  rintro e w' ⟨a, b, rfl, ha, hb, h⟩
  exact ⟨by rw [ba_ext (ha.trans hA.symm), ba_ext (hb.trans hB.symm)], h⟩
theorem unesc_is (s : ByteArray) (w : World) (hs : s.size ≤ 1000000) (T : ByteArray) (hT : T.data.toList = unescL s.data.toList) :
    Calls Tryd.prog 24 #[.string s] w fun e w' => e = .returned (.string T) ∧ Below w.heap.size w w' := by
  refine (unescape_any s w hs).mono ?_
  rintro e w' ⟨t, rfl, ht, h⟩
  exact ⟨by rw [ba_ext (ht.trans hT.symm)], h⟩
theorem runesc_is (s : ByteArray) (w : World) (hs : s.size ≤ 1000000) (T : ByteArray) (hT : T.data.toList = unescL s.data.toList) :
    Calls Tryd.prog 25 #[.string s] w fun e w' => e = .returned (.string T) ∧ Below w.heap.size w w' := by
  refine (runescape_any s w hs).mono ?_
  rintro e w' ⟨t, rfl, ht, h⟩
  exact ⟨by rw [ba_ext (ht.trans hT.symm)], h⟩
theorem change_is (s : ByteArray) (a b : UInt8) (w : World) (hs : s.size ≤ 3000000) (T : ByteArray) (hT : T.data.toList = subL a b s.data.toList) :
    Calls Tryd.prog 36 #[.string s, .int .u8 (a.toNat : Int), .int .u8 (b.toNat : Int)] w fun e w' => e = .returned (.string T) ∧ Below w.heap.size w w' := by
  refine (change_any s a b w hs).mono ?_
  rintro e w' ⟨t, rfl, ht, h⟩
  exact ⟨by rw [ba_ext (ht.trans hT.symm)], h⟩
/-- names and values in memory -/
abbrev BFld := ByteArray × ByteArray
def attrsV (l : List BFld) : List Value := l.flatMap fun p => [.string p.1, .string p.2]
def flds (l : List BFld) : List Fld := l.map fun p => (p.1.data.toList, p.2.data.toList)
theorem attrs_len (l : List BFld) : (attrsV l).length = l.length * 2 := by
  induction l with
  | nil => rfl
  | cons p l ih => simp [attrsV] at *; omega
theorem attrs_app (l : List BFld) (x y : ByteArray) : attrsV (l ++ [(x, y)]) = attrsV l ++ [.string x, .string y] := by simp [attrsV]
theorem slA : SlTy Tryd.prog 46 51 2 32 := .mk' (z := .agg #[.string ⟨#[]⟩, .string ⟨#[]⟩]) Tryd.underlying46 (by kernel_rfl) rfl (by decide)
def fldK (l : List (List UInt8)) (k : Nat) : List Fld := ((l.take k).filter fun p => !p.isEmpty).map fieldOf
theorem fldK_succ (l : List (List UInt8)) (k : Nat) (h : k < l.length) : fldK l (k + 1) = fldK l k ++ (if l[k].isEmpty then [] else [fieldOf l[k]]) := by
  unfold fldK
  rw [List.take_succ_eq_append_getElem h, List.filter_append, List.map_append]
  congr 1
  cases e : l[k].isEmpty <;> simp [e]
end Go.Proofs.YtgbinadjbikhhaaDoor
