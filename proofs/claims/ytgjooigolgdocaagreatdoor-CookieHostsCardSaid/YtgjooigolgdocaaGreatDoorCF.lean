/- Cookies: the walk of cookie.Parse. -/
import Derived.Test.YtgjooigolgdocaaGreatDoorCE
namespace Go.Proofs.YtgjooigolgdocaaGreatDoor
set_option linter.unusedVariables false
set_option linter.unusedSimpArgs false
open Go.RowKit

theorem trimC_nil_bs (l : List UInt8) : (bs (trimC l)).toList.isEmpty = decide (trimC l = []) := by
  rw [ByteArray.toList_eq, bs_list]
  cases trimC l with
  | nil => rfl
  | cons b r => simp
theorem split_is (c : UInt8) (s : ByteArray) (hs : s.size ≤ 1000000) : ∃ l : List ByteArray, lists l = segs c s.data.toList ∧ ∀ w, MaxAt w → Calls Tryz.prog 35 #[.string s, .string ⟨#[c]⟩] w fun e w' => e = .returned (.slice (some ⟨w.heap.size, 0, none⟩) l.length l.length) ∧ w' = w.alloc (.cells (l.map Value.string).toArray 9) := by
  refine ⟨Lib.splitB ⟨#[c]⟩ 0 (Lib.countB s ⟨#[c]⟩) s, split_segs c _ s rfl, fun w hM => ?_⟩
  obtain ⟨m, hm⟩ := hM
  have cS := Tryz.strings_Split s ⟨#[c]⟩ m w (by omega) hm (by show 1 ≤ 1; omega)
  have hsl := Lib.splitB_all ⟨#[c]⟩ (Nat.le_refl 1) 0 (Lib.countB s ⟨#[c]⟩) s rfl
  rw [← hsl] at cS
  exact cS
set_option maxRecDepth 20000 in
theorem lowerc_any (s : ByteArray) (w : World) (hs : s.size ≤ 1000000) :
    Calls Tryz.prog 38 #[.string s] w fun e w' => ∃ t : ByteArray, e = .returned (.string t) ∧ t.data.toList = lowL s.data.toList ∧ Below w.heap.size w w' := by
  obtain ⟨cap, w1, hcv, hby, hb1⟩ := conv_bytes w s
  go_enter Tryz.func38, Tryz.ntmps38
  go_wp2
  go_loopw [10] (fun iv wr => ∃ (k : Nat), k ≤ s.size ∧ iv = .int .i64 k ∧ BytesAt wr w.heap.size (lowL (s.data.toList.take k) ++ s.data.toList.drop k) ∧ Below w.heap.size w wr) (fun iv _ => s.size - (intOf iv).toNat)
  case atStart => exact ⟨0, Nat.zero_le _, rfl, hby, hb1⟩
  case round =>
    obtain ⟨k, hk, rfl, hbl, hbw⟩ := hrel
    clear hby hb1 hcv
    by_cases hlt : k < s.size
    · have hd := drop_at s k hlt
      have hll : (lowL (s.data.toList.take k)).length = k := by simp [lowL]; omega
      obtain ⟨P, hP⟩ : ∃ P, lowL (s.data.toList.take k) = P := ⟨_, rfl⟩
      rw [hd, hP] at hbl
      rw [hP] at hll
      have c0 := hbl.cell k (by simp; omega)
      have f0 := hbl.free k (by simp; omega)
      rw [List.getElem_append_right (by omega)] at c0
      simp only [hll, Nat.sub_self, List.getElem_cons_zero] at c0
      have hlt2 := hbl.lt
      have hts : s.data.toList.take (k + 1) = s.data.toList.take k ++ [s[k]] := by rw [List.take_succ_eq_append_getElem (by simpa using hlt)]; rfl
      have hn : lowL (s.data.toList.take (k + 1)) = P ++ [lowB s[k]] := by rw [hts, ← hP]; simp [lowL]
      have hset := hbl.set k (by simp; omega) (lowB s[k])
      rw [List.set_append_right _ _ (by omega), hll, Nat.sub_self, List.set_cons_zero] at hset
      have hb := lowB_int s[k]
      have HB := Lib.hid hb
      have HN := Lib.hid hn
      have HS := Lib.hid hset
      have HBL := Lib.hid hbl
      clear hb hn hset hbl hd hP hts
      have hkk : (k : Int) < (s.size : Int) := by omega
      go_wp2
      · go_roundw
        case rel =>
          refine ⟨k + 1, by omega, by go_num, ?_, hbw.setCell (Nat.le_refl _) _⟩
          rw [HN.out, List.append_assoc, List.singleton_append]
          have e := HB.out.1 (by omega) (by omega)
          have e2 : ((lowB s[k]).toNat : Int) = (s[k].toNat : Int) + 97 - 65 := by
            rw [← e, show ((s[k].toNat : Int) + 32).toNat = s[k].toNat + 32 by omega, UInt8.toNat_ofNat']
            omega
          have := HS.out
          rwa [e2] at this
        case measure => simp [intOf]; omega
      all_goals
        go_roundw
        case rel =>
          refine ⟨k + 1, by omega, by go_num, ?_, hbw⟩
          have e := HB.out.2 (by omega)
          rw [byte_ofNat] at e
          rw [HN.out, List.append_assoc, List.singleton_append, ← e]
          exact HBL.out
        case measure => simp [intOf]; omega
    · rw [drop_end s k (by omega), List.append_nil, List.take_of_length_le (by simp; omega)] at hbl
      have hcv2 := run_convert_bytes_back (P := Tryz.prog) wr 85 9 5 ⟨w.heap.size, 0, none⟩ cap (lowL s.data.toList) Tryz.underlying85 Tryz.underlying5 Tryz.underlying9 (fun j hj => by rw [show (⟨w.heap.size, 0, none⟩ : Addr).add j = ⟨w.heap.size, j, none⟩ by cases j <;> simp [Addr.add]]; exact hbl.cell j hj)
      have hll : (lowL s.data.toList).length = s.size := by simp [lowL]
      obtain ⟨t, ht⟩ : ∃ t : ByteArray, (⟨(lowL s.data.toList).toArray⟩ : ByteArray) = t := ⟨_, rfl⟩
      rw [hll, ht] at hcv2
      have ht2 : t.data.toList = lowL s.data.toList := by rw [← ht]
      have HT2 := Lib.hid ht2
      clear hbl hll ht ht2
      go_wp2
      go_ret
      exact ⟨t, rfl, HT2.out, hbw⟩
theorem lowc_is (s T : ByteArray) (hT : T.data.toList = lowL s.data.toList) (w : World) (hs : s.size ≤ 1000000) :
    Calls Tryz.prog 38 #[.string s] w fun e w' => e = .returned (.string T) ∧ Below w.heap.size w w' := by
  refine (lowerc_any s w hs).mono ?_
  rintro e w' ⟨t, rfl, ht, h⟩
  exact ⟨by rw [ba_ext' (ht.trans hT.symm)], h⟩
theorem smallc_is (s T : ByteArray) (hT : T.data.toList = lowL s.data.toList) (w : World) (hs : s.size ≤ 1000000) :
    Calls Tryz.prog 48 #[.string s] w fun e w' => e = .returned (.string T) ∧ Below w.heap.size w w' := by
  refine (small_any s w hs).mono ?_
  rintro e w' ⟨t, rfl, ht, h⟩
  exact ⟨by rw [ba_ext' (ht.trans hT.symm)], h⟩
theorem trimpre_is (s T : ByteArray) (hT : T.data.toList = undot s.data.toList) (w : World) :
    Calls Tryz.prog 41 #[.string s, .string ⟨#[46]⟩] w fun e w' => e = .returned (.string T) ∧ w = w' := by
  refine (Tryz.strings_TrimPrefix s ⟨#[46]⟩ w).mono ?_
  rintro e w' ⟨rfl, h⟩
  refine ⟨?_, h.symm⟩
  congr 2
  exact ba_ext' (by rw [hT]; rfl)
theorem defp_is (s : ByteArray) (w : World) (hs : s.size ≤ 1000000) :
    Calls Tryz.prog 18 #[.string s] w fun e w' => e = .returned (.string (bs (defpL s.data.toList))) ∧ w = w' := by
  refine (defp_any s w hs).mono ?_
  rintro e w' ⟨t, rfl, ht, h⟩
  exact ⟨by rw [bs_of ht], h⟩
theorem rdefp_is (s : ByteArray) (w : World) (hs : s.size ≤ 1000000) :
    Calls Tryz.prog 19 #[.string s] w fun e w' => e = .returned (.string (bs (defpL s.data.toList))) ∧ w = w' := by
  refine (rdefp_any s w hs).mono ?_
  rintro e w' ⟨t, rfl, ht, h⟩
  exact ⟨by rw [bs_of ht], h⟩
theorem hasp_is (s : ByteArray) (H : Bool) (hH : Lib.hasPrefix s.data.toList [47] = H) (w : World) :
    Calls Tryz.prog 42 #[.string s, .string ⟨#[47]⟩] w fun e w' => e = .returned (.bool H) ∧ w = w' := by
  refine (Tryz.strings_HasPrefix s ⟨#[47]⟩ w).mono ?_
  rintro e w' ⟨rfl, h⟩
  exact ⟨ret_bool hH, h.symm⟩
/-- which attribute a name is -/
theorem kind_cases (L : ByteArray) :
    ((L.toList == maxageL) = true ∧ L.data.toList = maxageL) ∨ ((L.toList == maxageL) = false ∧ (L.toList == domainL) = true ∧ L.data.toList = domainL) ∨
    ((L.toList == maxageL) = false ∧ (L.toList == domainL) = false ∧ (L.toList == pathwL) = true ∧ L.data.toList = pathwL) ∨
    ((L.toList == maxageL) = false ∧ (L.toList == domainL) = false ∧ (L.toList == pathwL) = false ∧ (L.toList == secureL) = true ∧ L.data.toList = secureL) ∨
    ((L.toList == maxageL) = false ∧ (L.toList == domainL) = false ∧ (L.toList == pathwL) = false ∧ (L.toList == secureL) = false ∧ (L.toList == hidL) = true ∧ L.data.toList = hidL) ∨
    ((L.toList == maxageL) = false ∧ (L.toList == domainL) = false ∧ (L.toList == pathwL) = false ∧ (L.toList == secureL) = false ∧ (L.toList == hidL) = false ∧ L.data.toList ≠ maxageL ∧ L.data.toList ≠ domainL ∧ L.data.toList ≠ pathwL ∧ L.data.toList ≠ secureL ∧ L.data.toList ≠ hidL) := by
  rw [ByteArray.toList_eq]
  by_cases h1 : L.data.toList = maxageL
  · exact .inl ⟨beq_iff_eq.2 h1, h1⟩
  · refine .inr ?_
    by_cases h2 : L.data.toList = domainL
    · exact .inl ⟨beq_eq_false_iff_ne.2 h1, beq_iff_eq.2 h2, h2⟩
    · refine .inr ?_
      by_cases h3 : L.data.toList = pathwL
      · exact .inl ⟨beq_eq_false_iff_ne.2 h1, beq_eq_false_iff_ne.2 h2, beq_iff_eq.2 h3, h3⟩
      · refine .inr ?_
        by_cases h4 : L.data.toList = secureL
        · exact .inl ⟨beq_eq_false_iff_ne.2 h1, beq_eq_false_iff_ne.2 h2, beq_eq_false_iff_ne.2 h3, beq_iff_eq.2 h4, h4⟩
        · refine .inr ?_
          by_cases h5 : L.data.toList = hidL
          · exact .inl ⟨beq_eq_false_iff_ne.2 h1, beq_eq_false_iff_ne.2 h2, beq_eq_false_iff_ne.2 h3, beq_eq_false_iff_ne.2 h4, beq_iff_eq.2 h5, h5⟩
          · exact .inr ⟨beq_eq_false_iff_ne.2 h1, beq_eq_false_iff_ne.2 h2, beq_eq_false_iff_ne.2 h3, beq_eq_false_iff_ne.2 h4, beq_eq_false_iff_ne.2 h5, h1, h2, h3, h4, h5⟩
theorem attr_max (h p : ByteArray) (now : Int) (c : Ck) (v : List UInt8) (n : Int) (hn : ageL v = some n) : attrC h p now c maxageL v = { c with ex := clockI now + n * 1000 } := by unfold attrC; rw [if_pos rfl, hn]
theorem attr_max0 (h p : ByteArray) (now : Int) (c : Ck) (v : List UInt8) (hn : ageL v = none) : attrC h p now c maxageL v = c := by unfold attrC; rw [if_pos rfl, hn]
theorem attr_dom (h p : ByteArray) (now : Int) (c : Ck) (v : List UInt8) : attrC h p now c domainL v = if lowL (undot v) = [] then { c with d := h, ho := true } else { c with d := bs (lowL (undot v)), ho := false } := by unfold attrC; rw [if_neg (by decide), if_pos rfl]
theorem attr_path (h p : ByteArray) (now : Int) (c : Ck) (v : List UInt8) : attrC h p now c pathwL v = { c with p := if Lib.hasPrefix v [47] = true then bs v else p } := by unfold attrC; rw [if_neg (by decide), if_neg (by decide), if_pos rfl]
theorem attr_sec (h p : ByteArray) (now : Int) (c : Ck) (v : List UInt8) : attrC h p now c secureL v = { c with se := true } := by unfold attrC; rw [if_neg (by decide), if_neg (by decide), if_neg (by decide), if_pos rfl]
theorem attr_hid (h p : ByteArray) (now : Int) (c : Ck) (v : List UInt8) : attrC h p now c hidL v = { c with hi := true } := by unfold attrC; rw [if_neg (by decide), if_neg (by decide), if_neg (by decide), if_neg (by decide), if_pos rfl]
theorem attr_no (h p : ByteArray) (now : Int) (c : Ck) (l v : List UInt8) (h1 : l ≠ maxageL) (h2 : l ≠ domainL) (h3 : l ≠ pathwL) (h4 : l ≠ secureL) (h5 : l ≠ hidL) : attrC h p now c l v = c := by unfold attrC; rw [if_neg h1, if_neg h2, if_neg h3, if_neg h4, if_neg h5]

theorem low_len (l : List UInt8) : (lowL l).length = l.length := by simp [lowL]
theorem undot_len (l : List UInt8) : (undot l).length ≤ l.length := by
  unfold undot; split
  · simp
  · exact Nat.le_refl _
theorem pre_len' (c : UInt8) (l : List UInt8) : (pre c l).length ≤ l.length := (List.takeWhile_sublist _).length_le
theorem post_len' (c : UInt8) (l : List UInt8) : (post c l).length ≤ l.length := by
  unfold post; rw [List.length_drop]
  have := (List.dropWhile_sublist (p := (· != c)) (l := l)).length_le
  omega
end Go.Proofs.YtgjooigolgdocaaGreatDoor
