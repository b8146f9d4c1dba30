import Derived.Test.YtgjooigolgdocaaGreatDoorCD
import Derived.Test.YtgjooigolgdocaaGreatDoorLV2
import Derived.Outline
import Derived.Deep.DeepCutAuto
import Derived.Deep.RegionHeld3
/- Cookies: whether an address has cookies. -/
namespace Go.Proofs.YtgjooigolgdocaaGreatDoor
set_option linter.unusedVariables false
set_option linter.unusedSimpArgs false
open Go.RowKit

theorem brl {B : Nat} {w0 w1 : World} (hb : Below B w0 w1) : ∀ b o, b < B → w1.cell? ⟨b, o, none⟩ = w0.cell? ⟨b, o, none⟩ := fun b o h => hb.cell (p := ⟨b, o, none⟩) h
/-- an address has cookies -/
def takesB (u : U6) : Bool := validB u && !(u.1 == aboutL)
abbrev urlA (a b c d e f : ByteArray) : Value := .agg #[.string a, .string b, .string c, .string d, .string e, .string f]
abbrev urlL (a b c d e f : ByteArray) : List Value := [.string a, .string b, .string c, .string d, .string e, .string f]
abbrev u6 (a b c d e f : ByteArray) : U6 := (a.data.toList, b.data.toList, c.data.toList, d.data.toList, e.data.toList, f.data.toList)
structure USize (n : Nat) (a b c d e f : ByteArray) : Prop where
  a : a.size ≤ n
  b : b.size ≤ n
  c : c.size ≤ n
  d : d.size ≤ n
  e : e.size ≤ n
  f : f.size ≤ n
theorem neq_about (a : ByteArray) : (a.toList != aboutL) = !(a.data.toList == aboutL) := by rw [ByteArray.toList_eq]; rfl
set_option maxRecDepth 20000 in
theorem takes_is (a b c d e f : ByteArray) (T : Bool) (hT : takesB (u6 a b c d e f) = T) (w : World) (hz : USize 40000 a b c d e f) (hM : MaxAt w) :
    Calls Tryz.prog 34 #[urlA a b c d e f] w fun x w' => x = .returned (.bool T) ∧ Below w.heap.size w w' := by
  have cV := fun w hM => valid_any a b c d e f w hz.a hz.b hz.c hz.d hz.e hz.f hM
  obtain ⟨V, hV⟩ : ∃ V, validB (u6 a b c d e f) = V := ⟨_, rfl⟩
  have hn := neq_about a
  have hT2 : (V && !(a.data.toList == aboutL)) = T := by rw [← hT, ← hV]; rfl
  rw [hV] at cV
  rw [← hn] at hT2
  obtain ⟨N, hN⟩ : ∃ N, (a.toList != aboutL) = N := ⟨_, rfl⟩
  rw [hN] at hT2
  have CV := Lib.hid cV
  have HT := Lib.hid hT2
  have A0 := AtL.new w (urlL a b c d e f) 23
  have hB0 : Below w.heap.size w (w.alloc (.cells #[.string a, .string b, .string c, .string d, .string e, .string f] 23)) := (Below.refl _ w).alloc (Nat.le_refl _) _
  have hM0 := hM.below hB0 (Nat.le_refl _)
  clear cV hT hV hn hT2 hM hz
  cases V
  · cases N
    all_goals
      go_enter Tryz.func34, Tryz.ntmps34
      go_wp2_with (go_at_call 73; with_reducible refine (CV.out _ hM0).mono ?_; rintro x w1 ⟨rfl, hb1⟩; have hB1 := hB0.trans (hb1.mono hB0.size))
      go_ret
      exact ⟨ret_bool (by rw [← HT.out]; rfl), hB1⟩
  · cases N
    all_goals
      have hN1 := hN
      have hN2 : (a.toList == [97, 98, 111, 117, 116]) = !(a.toList != aboutL) := by simp [bne]
      rw [hN] at hN2
      clear hN
      go_enter Tryz.func34, Tryz.ntmps34
      go_wp2_with (go_at_call 73; with_reducible refine (CV.out _ hM0).mono ?_; rintro x w1 ⟨rfl, hb1⟩; have hB1 := hB0.trans (hb1.mono hB0.size); have A1 := A0.next hb1; have z0 := A1.c 0 rfl)
      go_ret
      exact ⟨ret_bool (by rw [← HT.out]; first | rfl | (rw [← hN1]; rfl)), hB1⟩
set_option maxRecDepth 20000 in
theorem has_is (a b c d e f : ByteArray) (T : Bool) (hT : takesB (u6 a b c d e f) = T) (w : World) (hz : USize 40000 a b c d e f) (hM : MaxAt w) :
    Calls Tryz.prog 44 #[urlA a b c d e f] w fun x w' => x = .returned (.bool T) ∧ Below w.heap.size w w' := by
  have cV := fun w hM => rvalid_any a b c d e f w hz.a hz.b hz.c hz.d hz.e hz.f hM
  obtain ⟨V, hV⟩ : ∃ V, validB (u6 a b c d e f) = V := ⟨_, rfl⟩
  have hn := neq_about a
  have hT2 : (V && !(a.data.toList == aboutL)) = T := by rw [← hT, ← hV]; rfl
  rw [hV] at cV
  rw [← hn] at hT2
  obtain ⟨N, hN⟩ : ∃ N, (a.toList != aboutL) = N := ⟨_, rfl⟩
  rw [hN] at hT2
  have CV := Lib.hid cV
  have HT := Lib.hid hT2
  have hB0 : Below w.heap.size w (w.alloc (.cells #[.string a, .string b, .string c, .string d, .string e, .string f] 23)) := (Below.refl _ w).alloc (Nat.le_refl _) _
  have hM0 := hM.below hB0 (Nat.le_refl _)
  have hN2 : (a.toList == [97, 98, 111, 117, 116]) = !(a.toList != aboutL) := by simp [bne]
  rw [hN] at hN2
  clear cV hT hV hn hT2 hM hz
  cases N
  · go_enter Tryz.func44, Tryz.ntmps44
    go_wp2_with fail
    go_ret
    exact ⟨ret_bool (by rw [← HT.out]; cases V <;> rfl), hB0⟩
  · go_enter Tryz.func44, Tryz.ntmps44
    go_wp2_with (go_at_call 81; with_reducible refine (CV.out _ hM0).mono ?_; rintro x w1 ⟨rfl, hb1⟩; have hB1 := hB0.trans (hb1.mono hB0.size))
    go_ret
    exact ⟨ret_bool (by rw [← HT.out]; cases V <;> rfl), hB1⟩
end Go.Proofs.YtgjooigolgdocaaGreatDoor

/- Cookies: the walk of cookie.Parse. -/
namespace Go.Proofs.YtgjooigolgdocaaGreatDoor
set_option linter.unusedVariables false
set_option linter.unusedSimpArgs false
open Go.RowKit

theorem trimC_nil_bs (l : List UInt8) : (bs (trimC l)).toList.isEmpty = decide (trimC l = []) := by
  rw [ByteArray.toList_eq, bs_list]
  cases trimC l with
  | nil => rfl
  | cons b r => simp
theorem split_is (c : UInt8) (s : ByteArray) (hs : s.size ≤ 1000000) : ∃ l : List ByteArray, lists l = segs c s.data.toList ∧ ∀ w, MaxAt w → Calls Tryz.prog 35 #[.string s, .string ⟨#[c]⟩] w fun e w' => e = .returned (.slice (some ⟨w.heap.size, 0, none⟩) l.length l.length) ∧ w' = w.alloc (.cells (l.map Value.string).toArray 9) := by
  refine ⟨Lib.splitB ⟨#[c]⟩ 0 (Lib.countB s ⟨#[c]⟩) s, split_segs c _ s rfl, fun w hM => ?_⟩
  obtain ⟨m, hm⟩ := hM
  have cS := Tryz.strings_Split s ⟨#[c]⟩ m w (by omega) hm (by show 1 ≤ 1; omega)
  have hsl := Lib.splitB_all ⟨#[c]⟩ (Nat.le_refl 1) 0 (Lib.countB s ⟨#[c]⟩) s rfl
  rw [← hsl] at cS
  exact cS
set_option maxRecDepth 20000 in
theorem lowerc_any (s : ByteArray) (w : World) (hs : s.size ≤ 1000000) :
    Calls Tryz.prog 38 #[.string s] w fun e w' => ∃ t : ByteArray, e = .returned (.string t) ∧ t.data.toList = lowL s.data.toList ∧ Below w.heap.size w w' := by
  obtain ⟨cap, w1, hcv, hby, hb1⟩ := conv_bytes w s
  go_enter Tryz.func38, Tryz.ntmps38
  go_wp2
  go_loopw [10] (fun iv wr => ∃ (k : Nat), k ≤ s.size ∧ iv = .int .i64 k ∧ BytesAt wr w.heap.size (lowL (s.data.toList.take k) ++ s.data.toList.drop k) ∧ Below w.heap.size w wr) (fun iv _ => s.size - (intOf iv).toNat)
  case atStart => exact ⟨0, Nat.zero_le _, rfl, hby, hb1⟩
  case round =>
    obtain ⟨k, hk, rfl, hbl, hbw⟩ := hrel
    clear hby hb1 hcv
    by_cases hlt : k < s.size
    · have hd := drop_at s k hlt
      have hll : (lowL (s.data.toList.take k)).length = k := by simp [lowL]; omega
      obtain ⟨P, hP⟩ : ∃ P, lowL (s.data.toList.take k) = P := ⟨_, rfl⟩
      rw [hd, hP] at hbl
      rw [hP] at hll
      have c0 := hbl.cell k (by simp; omega)
      have f0 := hbl.free k (by simp; omega)
      rw [List.getElem_append_right (by omega)] at c0
      simp only [hll, Nat.sub_self, List.getElem_cons_zero] at c0
      have hlt2 := hbl.lt
      have hts : s.data.toList.take (k + 1) = s.data.toList.take k ++ [s[k]] := by rw [List.take_succ_eq_append_getElem (by simpa using hlt)]; rfl
      have hn : lowL (s.data.toList.take (k + 1)) = P ++ [lowB s[k]] := by rw [hts, ← hP]; simp [lowL]
      have hset := hbl.set k (by simp; omega) (lowB s[k])
      rw [List.set_append_right _ _ (by omega), hll, Nat.sub_self, List.set_cons_zero] at hset
      have hb := lowB_int s[k]
      have HB := Lib.hid hb
      have HN := Lib.hid hn
      have HS := Lib.hid hset
      have HBL := Lib.hid hbl
      clear hb hn hset hbl hd hP hts
      have hkk : (k : Int) < (s.size : Int) := by omega
      go_wp2
      · go_roundw
        case rel =>
          refine ⟨k + 1, by omega, by go_num, ?_, hbw.setCell (Nat.le_refl _) _⟩
          rw [HN.out, List.append_assoc, List.singleton_append]
          have e := HB.out.1 (by omega) (by omega)
          have e2 : ((lowB s[k]).toNat : Int) = (s[k].toNat : Int) + 97 - 65 := by
            rw [← e, show ((s[k].toNat : Int) + 32).toNat = s[k].toNat + 32 by omega, UInt8.toNat_ofNat']
            omega
          have := HS.out
          rwa [e2] at this
        case measure => simp [intOf]; omega
      all_goals
        go_roundw
        case rel =>
          refine ⟨k + 1, by omega, by go_num, ?_, hbw⟩
          have e := HB.out.2 (by omega)
          rw [byte_ofNat] at e
          rw [HN.out, List.append_assoc, List.singleton_append, ← e]
          exact HBL.out
        case measure => simp [intOf]; omega
    · rw [drop_end s k (by omega), List.append_nil, List.take_of_length_le (by simp; omega)] at hbl
      have hcv2 := run_convert_bytes_back (P := Tryz.prog) wr 85 9 5 ⟨w.heap.size, 0, none⟩ cap (lowL s.data.toList) Tryz.underlying85 Tryz.underlying5 Tryz.underlying9 (fun j hj => by rw [show (⟨w.heap.size, 0, none⟩ : Addr).add j = ⟨w.heap.size, j, none⟩ by cases j <;> simp [Addr.add]]; exact hbl.cell j hj)
      have hll : (lowL s.data.toList).length = s.size := by simp [lowL]
      obtain ⟨t, ht⟩ : ∃ t : ByteArray, (⟨(lowL s.data.toList).toArray⟩ : ByteArray) = t := ⟨_, rfl⟩
      rw [hll, ht] at hcv2
      have ht2 : t.data.toList = lowL s.data.toList := by rw [← ht]
      have HT2 := Lib.hid ht2
      clear hbl hll ht ht2
      go_wp2
      go_ret
      exact ⟨t, rfl, HT2.out, hbw⟩
theorem lowc_is (s T : ByteArray) (hT : T.data.toList = lowL s.data.toList) (w : World) (hs : s.size ≤ 1000000) :
    Calls Tryz.prog 38 #[.string s] w fun e w' => e = .returned (.string T) ∧ Below w.heap.size w w' := by
  refine (lowerc_any s w hs).mono ?_
  rintro e w' ⟨t, rfl, ht, h⟩
  exact ⟨by rw [ba_ext' (ht.trans hT.symm)], h⟩
theorem smallc_is (s T : ByteArray) (hT : T.data.toList = lowL s.data.toList) (w : World) (hs : s.size ≤ 1000000) :
    Calls Tryz.prog 48 #[.string s] w fun e w' => e = .returned (.string T) ∧ Below w.heap.size w w' := by
  refine (small_any s w hs).mono ?_
  rintro e w' ⟨t, rfl, ht, h⟩
  exact ⟨by rw [ba_ext' (ht.trans hT.symm)], h⟩
theorem trimpre_is (s T : ByteArray) (hT : T.data.toList = undot s.data.toList) (w : World) :
    Calls Tryz.prog 41 #[.string s, .string ⟨#[46]⟩] w fun e w' => e = .returned (.string T) ∧ w = w' := by
  refine (Tryz.strings_TrimPrefix s ⟨#[46]⟩ w).mono ?_
  rintro e w' ⟨rfl, h⟩
  refine ⟨?_, h.symm⟩
  congr 2
  exact ba_ext' (by rw [hT]; rfl)
theorem defp_is (s : ByteArray) (w : World) (hs : s.size ≤ 1000000) :
    Calls Tryz.prog 18 #[.string s] w fun e w' => e = .returned (.string (bs (defpL s.data.toList))) ∧ w = w' := by
  refine (defp_any s w hs).mono ?_
  rintro e w' ⟨t, rfl, ht, h⟩
  exact ⟨by rw [bs_of ht], h⟩
theorem rdefp_is (s : ByteArray) (w : World) (hs : s.size ≤ 1000000) :
    Calls Tryz.prog 19 #[.string s] w fun e w' => e = .returned (.string (bs (defpL s.data.toList))) ∧ w = w' := by
  refine (rdefp_any s w hs).mono ?_
  rintro e w' ⟨t, rfl, ht, h⟩
  exact ⟨by rw [bs_of ht], h⟩
theorem hasp_is (s : ByteArray) (H : Bool) (hH : Lib.hasPrefix s.data.toList [47] = H) (w : World) :
    Calls Tryz.prog 42 #[.string s, .string ⟨#[47]⟩] w fun e w' => e = .returned (.bool H) ∧ w = w' := by
  refine (Tryz.strings_HasPrefix s ⟨#[47]⟩ w).mono ?_
  rintro e w' ⟨rfl, h⟩
  exact ⟨ret_bool hH, h.symm⟩
/-- which attribute a name is -/
theorem kind_cases (L : ByteArray) :
    ((L.toList == maxageL) = true ∧ L.data.toList = maxageL) ∨ ((L.toList == maxageL) = false ∧ (L.toList == domainL) = true ∧ L.data.toList = domainL) ∨
    ((L.toList == maxageL) = false ∧ (L.toList == domainL) = false ∧ (L.toList == pathwL) = true ∧ L.data.toList = pathwL) ∨
    ((L.toList == maxageL) = false ∧ (L.toList == domainL) = false ∧ (L.toList == pathwL) = false ∧ (L.toList == secureL) = true ∧ L.data.toList = secureL) ∨
    ((L.toList == maxageL) = false ∧ (L.toList == domainL) = false ∧ (L.toList == pathwL) = false ∧ (L.toList == secureL) = false ∧ (L.toList == hidL) = true ∧ L.data.toList = hidL) ∨
    ((L.toList == maxageL) = false ∧ (L.toList == domainL) = false ∧ (L.toList == pathwL) = false ∧ (L.toList == secureL) = false ∧ (L.toList == hidL) = false ∧ L.data.toList ≠ maxageL ∧ L.data.toList ≠ domainL ∧ L.data.toList ≠ pathwL ∧ L.data.toList ≠ secureL ∧ L.data.toList ≠ hidL) := by
  rw [ByteArray.toList_eq]
  by_cases h1 : L.data.toList = maxageL
  · exact .inl ⟨beq_iff_eq.2 h1, h1⟩
  · refine .inr ?_
    by_cases h2 : L.data.toList = domainL
    · exact .inl ⟨beq_eq_false_iff_ne.2 h1, beq_iff_eq.2 h2, h2⟩
    · refine .inr ?_
      by_cases h3 : L.data.toList = pathwL
      · exact .inl ⟨beq_eq_false_iff_ne.2 h1, beq_eq_false_iff_ne.2 h2, beq_iff_eq.2 h3, h3⟩
      · refine .inr ?_
        by_cases h4 : L.data.toList = secureL
        · exact .inl ⟨beq_eq_false_iff_ne.2 h1, beq_eq_false_iff_ne.2 h2, beq_eq_false_iff_ne.2 h3, beq_iff_eq.2 h4, h4⟩
        · refine .inr ?_
          by_cases h5 : L.data.toList = hidL
          · exact .inl ⟨beq_eq_false_iff_ne.2 h1, beq_eq_false_iff_ne.2 h2, beq_eq_false_iff_ne.2 h3, beq_eq_false_iff_ne.2 h4, beq_iff_eq.2 h5, h5⟩
          · exact .inr ⟨beq_eq_false_iff_ne.2 h1, beq_eq_false_iff_ne.2 h2, beq_eq_false_iff_ne.2 h3, beq_eq_false_iff_ne.2 h4, beq_eq_false_iff_ne.2 h5, h1, h2, h3, h4, h5⟩
theorem attr_max (h p : ByteArray) (now : Int) (c : Ck) (v : List UInt8) (n : Int) (hn : ageL v = some n) : attrC h p now c maxageL v = { c with ex := clockI now + n * 1000 } := by unfold attrC; rw [if_pos rfl, hn]
theorem attr_max0 (h p : ByteArray) (now : Int) (c : Ck) (v : List UInt8) (hn : ageL v = none) : attrC h p now c maxageL v = c := by unfold attrC; rw [if_pos rfl, hn]
theorem attr_dom (h p : ByteArray) (now : Int) (c : Ck) (v : List UInt8) : attrC h p now c domainL v = if lowL (undot v) = [] then { c with d := h, ho := true } else { c with d := bs (lowL (undot v)), ho := false } := by unfold attrC; rw [if_neg (by decide), if_pos rfl]
theorem attr_path (h p : ByteArray) (now : Int) (c : Ck) (v : List UInt8) : attrC h p now c pathwL v = { c with p := if Lib.hasPrefix v [47] = true then bs v else p } := by unfold attrC; rw [if_neg (by decide), if_neg (by decide), if_pos rfl]
theorem attr_sec (h p : ByteArray) (now : Int) (c : Ck) (v : List UInt8) : attrC h p now c secureL v = { c with se := true } := by unfold attrC; rw [if_neg (by decide), if_neg (by decide), if_neg (by decide), if_pos rfl]
theorem attr_hid (h p : ByteArray) (now : Int) (c : Ck) (v : List UInt8) : attrC h p now c hidL v = { c with hi := true } := by unfold attrC; rw [if_neg (by decide), if_neg (by decide), if_neg (by decide), if_neg (by decide), if_pos rfl]
theorem attr_no (h p : ByteArray) (now : Int) (c : Ck) (l v : List UInt8) (h1 : l ≠ maxageL) (h2 : l ≠ domainL) (h3 : l ≠ pathwL) (h4 : l ≠ secureL) (h5 : l ≠ hidL) : attrC h p now c l v = c := by unfold attrC; rw [if_neg h1, if_neg h2, if_neg h3, if_neg h4, if_neg h5]

theorem low_len (l : List UInt8) : (lowL l).length = l.length := by simp [lowL]
theorem undot_len (l : List UInt8) : (undot l).length ≤ l.length := by
  unfold undot; split
  · simp
  · exact Nat.le_refl _
theorem pre_len' (c : UInt8) (l : List UInt8) : (pre c l).length ≤ l.length := (List.takeWhile_sublist _).length_le
theorem post_len' (c : UInt8) (l : List UInt8) : (post c l).length ≤ l.length := by
  unfold post; rw [List.length_drop]
  have := (List.dropWhile_sublist (p := (· != c)) (l := l)).length_le
  omega
end Go.Proofs.YtgjooigolgdocaaGreatDoor

/- Cookies: the walk of cookie.Parse: the errors, and the loop. -/
namespace Go.Proofs.YtgjooigolgdocaaGreatDoor
set_option linter.unusedVariables false
set_option linter.unusedSimpArgs false
open Go.RowKit

abbrev ck0V : List Value := [.string ⟨#[]⟩, .string ⟨#[]⟩, .string ⟨#[]⟩, .string ⟨#[]⟩, .bool false, .bool false, .bool false, .int .i64 0, .int .i64 0]
theorem parseC_no (field : List UInt8) (s h p : ByteArray) (now : Int) : parseC field false s h p now = (ck0, 7) := by unfold parseC; rw [if_pos rfl]
theorem parseC_yes (field : List UInt8) (s h p : ByteArray) (now : Int) (p0 : List UInt8) (ps : List (List UInt8)) (hs : segs 59 field = p0 :: ps) :
    parseC field true s h p now = if p0.contains 61 = false ∨ trimC (pre 61 p0) = [] ∨ ctlL field = true then (ck0, 4)
      else lastC h.data.toList s.data.toList (ps.foldl (stepC h (bs (defpL p.data.toList)) now) (firstC h (bs (defpL p.data.toList)) p0)) := by
  unfold parseC; rw [if_neg (by decide), hs]
set_option maxRecDepth 20000 in
set_option maxHeartbeats 1000000 in
theorem cparse_no (s a b c d e f : ByteArray) (now : Int) (w : World) (hz : USize 40000 a b c d e f) (hM : MaxAt w) (hT : takesB (u6 a b c d e f) = false) :
    Calls Tryz.prog 12 #[.string s, urlA a b c d e f, .int .i64 now] w fun x w' => x = .returned (resC (ck0, 7)) ∧ Below w.heap.size w w' := by
  have CT := Lib.hid (fun w hM => takes_is a b c d e f false hT w hz hM)
  have A0 := AtL.new w (urlL a b c d e f) 23
  have A1 := A0.alloc (.cells #[.string ⟨#[]⟩, .string ⟨#[]⟩, .string ⟨#[]⟩, .string ⟨#[]⟩, .bool false, .bool false, .bool false, .int .i64 0, .int .i64 0] 29)
  have R1 := AtL.new (w.alloc (.cells #[.string a, .string b, .string c, .string d, .string e, .string f] 23)) ck0V 29
  have hB1 : Below w.heap.size w ((w.alloc (.cells #[.string a, .string b, .string c, .string d, .string e, .string f] 23)).alloc (.cells #[.string ⟨#[]⟩, .string ⟨#[]⟩, .string ⟨#[]⟩, .string ⟨#[]⟩, .bool false, .bool false, .bool false, .int .i64 0, .int .i64 0] 29)) := ((Below.refl _ w).alloc (Nat.le_refl _) _).alloc (by simp) _
  have hM1 := hM.below hB1 (Nat.le_refl _)
  have hk1 : w.heap.size < ((w.alloc (.cells #[.string a, .string b, .string c, .string d, .string e, .string f] 23)).alloc (.cells #[.string ⟨#[]⟩, .string ⟨#[]⟩, .string ⟨#[]⟩, .string ⟨#[]⟩, .bool false, .bool false, .bool false, .int .i64 0, .int .i64 0] 29)).heap.size := (by simp; omega)
  rw [show (w.alloc (.cells #[.string a, .string b, .string c, .string d, .string e, .string f] 23)).heap.size = w.heap.size + 1 by simp] at R1
  clear hT hz hM
  go_enter Tryz.func12, Tryz.ntmps12
  go_wp2_with (go_at_call 34; with_reducible refine (CT.out _ hM1).mono ?_; rintro x w1 ⟨rfl, hb1⟩; have hB2 := hB1.trans (hb1.mono hB1.size); have R2 := R1.next hb1; have z0 := R2.c 0 rfl; have z1 := R2.c 1 rfl; have z2 := R2.c 2 rfl; have z3 := R2.c 3 rfl; have z4 := R2.c 4 rfl; have z5 := R2.c 5 rfl; have z6 := R2.c 6 rfl; have z7 := R2.c 7 rfl; have z8 := R2.c 8 rfl; have f0 := R2.f 0 rfl; have f1 := R2.f 1 rfl; have f2 := R2.f 2 rfl; have f3 := R2.f 3 rfl; have f4 := R2.f 4 rfl; have f5 := R2.f 5 rfl; have f6 := R2.f 6 rfl; have f7 := R2.f 7 rfl; have f8 := R2.f 8 rfl; have hk2 := R2.lt)
  exact bodyPost_ret (ret9_run Tryz.results12 Tryz.sizeOf29 Tryz.isAgg29 _ _ _ _ _ _ _ _ _ _ _ _ _ rfl rfl (R2.set9 rfl _ _ _ _ _ _ _ _ _)) rfl ⟨rfl, below_set9 hB2 (Nat.le_succ _) _ _ _ _ _ _ _ _ _⟩
end Go.Proofs.YtgjooigolgdocaaGreatDoor

/- Cookies: the walk of cookie.Parse: a field that sets nothing. -/
namespace Go.Proofs.YtgjooigolgdocaaGreatDoor
set_option linter.unusedVariables false
set_option linter.unusedSimpArgs false
open Go.RowKit

theorem split_at (c : UInt8) (s : ByteArray) (hs : s.size ≤ 1000000) : ∃ (q0 : ByteArray) (qs : List ByteArray), lists (q0 :: qs) = segs c s.data.toList ∧ ∀ w, MaxAt w → Calls Tryz.prog 35 #[.string s, .string ⟨#[c]⟩] w fun e w' => e = .returned (.slice (some ⟨w.heap.size, 0, none⟩) (q0 :: qs).length (q0 :: qs).length) ∧ Below w.heap.size w w' ∧ w.heap.size < w'.heap.size ∧ w'.cell? ⟨w.heap.size, 0, none⟩ = some (.string q0) ∧ ∀ j (h : j < qs.length), w'.cell? ⟨w.heap.size, 1 + j, none⟩ = some (.string qs[j]) := by
  obtain ⟨l, hl, hc⟩ := split_is c s hs
  cases l with
  | nil => exact absurd hl.symm (segs_ne c _)
  | cons q0 qs =>
    refine ⟨q0, qs, hl, fun w hM => (hc w hM).mono ?_⟩
    rintro e w' ⟨rfl, rfl⟩
    have hA := AtL.new w ((q0 :: qs).map Value.string) 9
    refine ⟨rfl, (Below.refl _ w).alloc (Nat.le_refl _) _, by simp, hA.c 0 rfl, fun j hj => ?_⟩
    have := hA.c (1 + j) (v := .string qs[j]) (by rw [Nat.add_comm, List.map_cons, List.getElem?_cons_succ, List.getElem?_map, List.getElem?_eq_getElem hj]; rfl)
    exact this
theorem segs_sizes {c : UInt8} {s : ByteArray} {l : List ByteArray} (h : lists l = segs c s.data.toList) : l.length ≤ s.size + 1 ∧ ∀ p ∈ l, p.size ≤ s.size := by
  constructor
  · have h1 := segs_count c s.data.toList
    rw [← h, size_len] at h1
    simpa [lists] using h1
  · intro p hp
    have := segs_len c s.data.toList p.data.toList (by rw [← h]; exact List.mem_map_of_mem hp)
    rwa [size_len, size_len] at this
set_option maxRecDepth 20000 in
set_option maxHeartbeats 2000000 in
theorem cparse_syn (s a b c d e f : ByteArray) (now : Int) (w : World) (hs : s.size ≤ 100000) (hz : USize 40000 a b c d e f) (hM : MaxAt w) (hT : takesB (u6 a b c d e f) = true)
    (q0 : ByteArray) (qs : List ByteArray) (hq : lists (q0 :: qs) = segs 59 s.data.toList)
    (CSp : Hid (∀ w, MaxAt w → Calls Tryz.prog 35 #[.string s, .string ⟨#[59]⟩] w fun e w' => e = .returned (.slice (some ⟨w.heap.size, 0, none⟩) (q0 :: qs).length (q0 :: qs).length) ∧ Below w.heap.size w w' ∧ w.heap.size < w'.heap.size ∧ w'.cell? ⟨w.heap.size, 0, none⟩ = some (.string q0) ∧ ∀ j (h : j < qs.length), w'.cell? ⟨w.heap.size, 1 + j, none⟩ = some (.string qs[j])))
    (hbad : q0.data.toList.contains 61 = false ∨ trimC (pre 61 q0.data.toList) = [] ∨ ctlL s.data.toList = true) :
    Calls Tryz.prog 12 #[.string s, urlA a b c d e f, .int .i64 now] w fun x w' => x = .returned (resC (ck0, 4)) ∧ Below w.heap.size w w' := by
  have CT := Lib.hid (fun w hM => takes_is a b c d e f true hT w hz hM)
  have hq0 := (segs_sizes hq).2 q0 (by simp)
  obtain ⟨N, hN⟩ : ∃ N : ByteArray, N.data.toList = trimC (pre 61 q0.data.toList) := ⟨bs _, rfl⟩
  obtain ⟨V, hV⟩ : ∃ V : ByteArray, V.data.toList = trimC (post 61 q0.data.toList) := ⟨bs _, rfl⟩
  obtain ⟨F, hF⟩ : ∃ F, q0.data.toList.contains 61 = F := ⟨_, rfl⟩
  obtain ⟨K, hK⟩ : ∃ K, ctlL s.data.toList = K := ⟨_, rfl⟩
  have CP := Lib.hid (fun w hM => pair_is q0 N V F w (by omega) hM hN hV hF)
  have CK := Lib.hid (fun w => control_is s K hK w)
  have hNE : N.toList.isEmpty = decide (trimC (pre 61 q0.data.toList) = []) := by
    rw [ByteArray.toList_eq, hN]
    cases trimC (pre 61 q0.data.toList) with
    | nil => rfl
    | cons b r => simp
  obtain ⟨X, hX⟩ : ∃ X, decide (trimC (pre 61 q0.data.toList) = []) = X := ⟨_, rfl⟩
  rw [hX] at hNE
  have hbad2 : F = false ∨ X = true ∨ K = true := by
    rcases hbad with h | h | h
    · exact .inl (hF.symm.trans h)
    · exact .inr (.inl (by rw [← hX]; exact decide_eq_true h))
    · exact .inr (.inr (hK.symm.trans h))
  have A0 := AtL.new w (urlL a b c d e f) 23
  have A1 := A0.alloc (.cells #[.string ⟨#[]⟩, .string ⟨#[]⟩, .string ⟨#[]⟩, .string ⟨#[]⟩, .bool false, .bool false, .bool false, .int .i64 0, .int .i64 0] 29)
  have R1 := AtL.new (w.alloc (.cells #[.string a, .string b, .string c, .string d, .string e, .string f] 23)) ck0V 29
  have hB1 : Below w.heap.size w ((w.alloc (.cells #[.string a, .string b, .string c, .string d, .string e, .string f] 23)).alloc (.cells #[.string ⟨#[]⟩, .string ⟨#[]⟩, .string ⟨#[]⟩, .string ⟨#[]⟩, .bool false, .bool false, .bool false, .int .i64 0, .int .i64 0] 29)) := ((Below.refl _ w).alloc (Nat.le_refl _) _).alloc (by simp) _
  have hM1 := hM.below hB1 (Nat.le_refl _)
  have hk1 : w.heap.size < ((w.alloc (.cells #[.string a, .string b, .string c, .string d, .string e, .string f] 23)).alloc (.cells #[.string ⟨#[]⟩, .string ⟨#[]⟩, .string ⟨#[]⟩, .string ⟨#[]⟩, .bool false, .bool false, .bool false, .int .i64 0, .int .i64 0] 29)).heap.size := (by simp; omega)
  rw [show (w.alloc (.cells #[.string a, .string b, .string c, .string d, .string e, .string f] 23)).heap.size = w.heap.size + 1 by simp] at R1
  clear hT hz hM hbad hN hV hF hK hX hq hq0
  cases F
  · clear hbad2
    go_enter Tryz.func12, Tryz.ntmps12
    go_wp2_with (first
      | (go_at_call 34; with_reducible refine (CT.out _ hM1).mono ?_; rintro x w1 ⟨rfl, hb1⟩; have hB2 := hB1.trans (hb1.mono hB1.size); have R2 := R1.next hb1; have hM2 := hM1.below hb1 (Nat.le_refl _))
      | (go_at_call 35; with_reducible refine (CSp.out _ hM2).mono ?_; rintro x w2 ⟨rfl, hb2, hg2, hp0, -⟩; have hB3 := hB2.trans (hb2.mono hB2.size); have R3 := R2.next hb2; have hM3 := hM2.below hb2 (Nat.le_refl _))
      | (go_at_call 36; with_reducible refine (CP.out _ hM3).mono ?_; rintro x w3 ⟨rfl, hb3⟩; have hB4 := hB3.trans (hb3.mono hB3.size); have R4 := R3.next hb3; have z0 := R4.c 0 rfl; have z1 := R4.c 1 rfl; have z2 := R4.c 2 rfl; have z3 := R4.c 3 rfl; have z4 := R4.c 4 rfl; have z5 := R4.c 5 rfl; have z6 := R4.c 6 rfl; have z7 := R4.c 7 rfl; have z8 := R4.c 8 rfl; have f0 := R4.f 0 rfl; have f1 := R4.f 1 rfl; have f2 := R4.f 2 rfl; have f3 := R4.f 3 rfl; have f4 := R4.f 4 rfl; have f5 := R4.f 5 rfl; have f6 := R4.f 6 rfl; have f7 := R4.f 7 rfl; have f8 := R4.f 8 rfl; have hk4 := R4.lt))
    exact bodyPost_ret (ret9_run Tryz.results12 Tryz.sizeOf29 Tryz.isAgg29 _ _ _ _ _ _ _ _ _ _ _ _ _ rfl rfl (R4.set9 rfl _ _ _ _ _ _ _ _ _)) rfl ⟨rfl, below_set9 hB4 (Nat.le_succ _) _ _ _ _ _ _ _ _ _⟩
  · cases X
    · obtain rfl : K = true := by simpa using hbad2
      clear hbad2
      go_enter Tryz.func12, Tryz.ntmps12
      go_wp2_with (first
        | (go_at_call 34; with_reducible refine (CT.out _ hM1).mono ?_; rintro x w1 ⟨rfl, hb1⟩; have hB2 := hB1.trans (hb1.mono hB1.size); have R2 := R1.next hb1; have hM2 := hM1.below hb1 (Nat.le_refl _))
        | (go_at_call 35; with_reducible refine (CSp.out _ hM2).mono ?_; rintro x w2 ⟨rfl, hb2, hg2, hp0, -⟩; have hB3 := hB2.trans (hb2.mono hB2.size); have R3 := R2.next hb2; have hM3 := hM2.below hb2 (Nat.le_refl _))
        | (go_at_call 36; with_reducible refine (CP.out _ hM3).mono ?_; rintro x w3 ⟨rfl, hb3⟩; have hB4 := hB3.trans (hb3.mono hB3.size); have R4 := R3.next hb3)
        | (go_at_call 37; with_reducible refine (CK.out _).mono ?_; rintro x w4 ⟨rfl, hb4⟩; have hB5 := hB4.trans (hb4.mono hB4.size); have R5 := R4.next hb4; have z0 := R5.c 0 rfl; have z1 := R5.c 1 rfl; have z2 := R5.c 2 rfl; have z3 := R5.c 3 rfl; have z4 := R5.c 4 rfl; have z5 := R5.c 5 rfl; have z6 := R5.c 6 rfl; have z7 := R5.c 7 rfl; have z8 := R5.c 8 rfl; have f0 := R5.f 0 rfl; have f1 := R5.f 1 rfl; have f2 := R5.f 2 rfl; have f3 := R5.f 3 rfl; have f4 := R5.f 4 rfl; have f5 := R5.f 5 rfl; have f6 := R5.f 6 rfl; have f7 := R5.f 7 rfl; have f8 := R5.f 8 rfl; have hk5 := R5.lt))
      exact bodyPost_ret (ret9_run Tryz.results12 Tryz.sizeOf29 Tryz.isAgg29 _ _ _ _ _ _ _ _ _ _ _ _ _ rfl rfl (R5.set9 rfl _ _ _ _ _ _ _ _ _)) rfl ⟨rfl, below_set9 hB5 (Nat.le_succ _) _ _ _ _ _ _ _ _ _⟩
    · clear hbad2
      go_enter Tryz.func12, Tryz.ntmps12
      go_wp2_with (first
        | (go_at_call 34; with_reducible refine (CT.out _ hM1).mono ?_; rintro x w1 ⟨rfl, hb1⟩; have hB2 := hB1.trans (hb1.mono hB1.size); have R2 := R1.next hb1; have hM2 := hM1.below hb1 (Nat.le_refl _))
        | (go_at_call 35; with_reducible refine (CSp.out _ hM2).mono ?_; rintro x w2 ⟨rfl, hb2, hg2, hp0, -⟩; have hB3 := hB2.trans (hb2.mono hB2.size); have R3 := R2.next hb2; have hM3 := hM2.below hb2 (Nat.le_refl _))
        | (go_at_call 36; with_reducible refine (CP.out _ hM3).mono ?_; rintro x w3 ⟨rfl, hb3⟩; have hB4 := hB3.trans (hb3.mono hB3.size); have R4 := R3.next hb3; have z0 := R4.c 0 rfl; have z1 := R4.c 1 rfl; have z2 := R4.c 2 rfl; have z3 := R4.c 3 rfl; have z4 := R4.c 4 rfl; have z5 := R4.c 5 rfl; have z6 := R4.c 6 rfl; have z7 := R4.c 7 rfl; have z8 := R4.c 8 rfl; have f0 := R4.f 0 rfl; have f1 := R4.f 1 rfl; have f2 := R4.f 2 rfl; have f3 := R4.f 3 rfl; have f4 := R4.f 4 rfl; have f5 := R4.f 5 rfl; have f6 := R4.f 6 rfl; have f7 := R4.f 7 rfl; have f8 := R4.f 8 rfl; have hk4 := R4.lt))
      exact bodyPost_ret (ret9_run Tryz.results12 Tryz.sizeOf29 Tryz.isAgg29 _ _ _ _ _ _ _ _ _ _ _ _ _ rfl rfl (R4.set9 rfl _ _ _ _ _ _ _ _ _)) rfl ⟨rfl, below_set9 hB4 (Nat.le_succ _) _ _ _ _ _ _ _ _ _⟩
end Go.Proofs.YtgjooigolgdocaaGreatDoor

/- Cookies: the walk of cookie.Parse: a field that sets a cookie. -/
namespace Go.Proofs.YtgjooigolgdocaaGreatDoor
set_option linter.unusedVariables false
set_option linter.unusedSimpArgs false
open Go.RowKit

theorem MaxAt.keep {w w' : World} {B : Nat} (h : MaxAt w) (hb : Below B w w') (hB : 0 < B) : MaxAt w' := by
  obtain ⟨m, hm⟩ := h
  exact ⟨m, (hb.cell (p := ⟨0, 0, none⟩) hB).trans hm⟩
theorem MaxAt.lt {w : World} (h : MaxAt w) : 0 < w.heap.size := by
  obtain ⟨m, hm⟩ := h
  exact cell_lt hm
theorem bs_data (V : ByteArray) : bs V.data.toList = V := ba_ext' rfl
theorem step_is (h p : ByteArray) (now : Int) (c : Ck) (l : List UInt8) (L V : ByteArray) (hL : L.data.toList = lowL (trimC (pre 61 l))) (hV : V.data.toList = trimC (post 61 l)) : stepC h p now c l = attrC h p now c L.data.toList V.data.toList := by unfold stepC; rw [hL, hV]
theorem contains_is (s : ByteArray) (c : UInt8) (K : Bool) (hK : s.data.toList.contains c = K) (w : World) :
    Calls Tryz.prog 43 #[.string s, .string ⟨#[c]⟩] w fun e w' => e = .returned (.bool K) ∧ w = w' := by
  refine (Tryz.strings_Contains_one s c w).mono ?_
  rintro e w' ⟨rfl, h⟩
  refine ⟨ret_bool ?_, h.symm⟩
  rw [← hK, Lib.contains_iff_indexByte]
theorem domi_is (h d : ByteArray) (D : Bool) (hD : domL h.data.toList d.data.toList = D) (w : World) (hh : h.size ≤ 1000000) (hd : d.size ≤ 1000000) :
    Calls Tryz.prog 14 #[.string h, .string d] w fun e w' => e = .returned (.bool D) ∧ Below w.heap.size w w' := by
  have := dom_any h d w hh hd
  rwa [hD] at this
theorem bne_data (a b : ByteArray) : (a.toList != b.toList) = !decide (a.data.toList = b.data.toList) := by
  rw [ByteArray.toList_eq, ByteArray.toList_eq, Bool.eq_iff_iff]
  simp
theorem bne_list (a : ByteArray) (l : List UInt8) : (a.toList != l) = !decide (a.data.toList = l) := by
  rw [ByteArray.toList_eq, Bool.eq_iff_iff]
  simp
set_option maxRecDepth 20000 in
set_option maxHeartbeats 4000000 in
theorem cparse_main (s a b c d e f : ByteArray) (now : Int) (w : World) (hs : s.size ≤ 100000) (hz : USize 40000 a b c d e f) (hM : MaxAt w) (hT : takesB (u6 a b c d e f) = true)
    (q0 : ByteArray) (qs : List ByteArray) (hq : lists (q0 :: qs) = segs 59 s.data.toList) (hne : qs ≠ [])
    (CSp : Hid (∀ w, MaxAt w → Calls Tryz.prog 35 #[.string s, .string ⟨#[59]⟩] w fun e w' => e = .returned (.slice (some ⟨w.heap.size, 0, none⟩) (q0 :: qs).length (q0 :: qs).length) ∧ Below w.heap.size w w' ∧ w.heap.size < w'.heap.size ∧ w'.cell? ⟨w.heap.size, 0, none⟩ = some (.string q0) ∧ ∀ j (h : j < qs.length), w'.cell? ⟨w.heap.size, 1 + j, none⟩ = some (.string qs[j])))
    (hg1 : q0.data.toList.contains 61 = true) (hg2 : trimC (pre 61 q0.data.toList) ≠ []) (hg3 : ctlL s.data.toList = false)
    (R : Ck × Int) (hR : lastC b.data.toList a.data.toList ((lists qs).foldl (stepC b (bs (defpL d.data.toList)) now) (firstC b (bs (defpL d.data.toList)) q0.data.toList)) = R) :
    Calls Tryz.prog 12 #[.string s, urlA a b c d e f, .int .i64 now] w fun x w' => x = .returned (resC R) ∧ Below w.heap.size w w' := by
  have CT := Lib.hid (fun w hM => takes_is a b c d e f true hT w hz hM)
  have hsz := segs_sizes hq
  have hq0 := hsz.2 q0 (by simp)
  obtain ⟨N, hN⟩ : ∃ N : ByteArray, N = bs (trimC (pre 61 q0.data.toList)) := ⟨bs _, rfl⟩
  obtain ⟨V, hV⟩ : ∃ V : ByteArray, V = bs (trimC (post 61 q0.data.toList)) := ⟨bs _, rfl⟩
  have CP := Lib.hid (fun w hM => pair_is q0 N V true w (by omega) hM (by rw [hN]; rfl) (by rw [hV]; rfl) hg1)
  have CK := Lib.hid (fun w => control_is s false hg3 w)
  have hNE : N.toList.isEmpty = false := by
    rw [hN, trimC_nil_bs]; exact decide_eq_false hg2
  obtain ⟨dp, hdp⟩ : ∃ dp, bs (defpL d.data.toList) = dp := ⟨_, rfl⟩
  have cD := fun w => defp_is d w (by have := hz.d; omega)
  rw [hdp] at cD hR
  have CD := Lib.hid cD
  have hF : firstC b dp q0.data.toList = ⟨N, V, b, dp, true, false, false, -1, 0⟩ := by rw [hN, hV]; rfl
  rw [hF] at hR
  have HR := Lib.hid hR
  have hlen : qs.length ≤ 100000 := by have := hsz.1; simp at this; omega
  have hqz : ∀ p ∈ qs, p.size ≤ 100000 := fun p hp => by have := hsz.2 p (List.mem_cons_of_mem _ hp); omega
  have HQ := Lib.hid hqz
  have hnep : 0 < qs.length := List.length_pos_iff.2 hne
  have A0 := AtL.new w (urlL a b c d e f) 23
  have A1 := A0.alloc (.cells #[.string ⟨#[]⟩, .string ⟨#[]⟩, .string ⟨#[]⟩, .string ⟨#[]⟩, .bool false, .bool false, .bool false, .int .i64 0, .int .i64 0] 29)
  have R1 := AtL.new (w.alloc (.cells #[.string a, .string b, .string c, .string d, .string e, .string f] 23)) ck0V 29
  have hB1 : Below w.heap.size w ((w.alloc (.cells #[.string a, .string b, .string c, .string d, .string e, .string f] 23)).alloc (.cells #[.string ⟨#[]⟩, .string ⟨#[]⟩, .string ⟨#[]⟩, .string ⟨#[]⟩, .bool false, .bool false, .bool false, .int .i64 0, .int .i64 0] 29)) := ((Below.refl _ w).alloc (Nat.le_refl _) _).alloc (by simp) _
  have hM1 := hM.below hB1 (Nat.le_refl _)
  have hk1 : w.heap.size < ((w.alloc (.cells #[.string a, .string b, .string c, .string d, .string e, .string f] 23)).alloc (.cells #[.string ⟨#[]⟩, .string ⟨#[]⟩, .string ⟨#[]⟩, .string ⟨#[]⟩, .bool false, .bool false, .bool false, .int .i64 0, .int .i64 0] 29)).heap.size := (by simp; omega)
  rw [show (w.alloc (.cells #[.string a, .string b, .string c, .string d, .string e, .string f] 23)).heap.size = w.heap.size + 1 by simp] at R1
  clear hT hM hN hV hg1 hg2 hg3 hq hq0 hdp hF hR hsz cD hqz
  go_enter Tryz.func12, Tryz.ntmps12
  go_upto_region 7 with (first
    | (go_at_call 34; with_reducible refine (CT.out _ hM1).mono ?_; rintro x w1 ⟨rfl, hb1⟩; have hB2 := hB1.trans (hb1.mono hB1.size); have R2 := R1.next hb1; have A2 := A1.next hb1; have hM2 := hM1.below hb1 (Nat.le_refl _))
    | (go_at_call 35; with_reducible refine (CSp.out _ hM2).mono ?_; rintro x w2 ⟨rfl, hb2, hg2, hp0, hps⟩; have hB3 := hB2.trans (hb2.mono hB2.size); have R3 := R2.next hb2; have A3 := A2.next hb2; have hM3 := hM2.below hb2 (Nat.le_refl _); have HPS := Lib.hid hps; clear hps)
    | (go_at_call 36; with_reducible refine (CP.out _ hM3).mono ?_; rintro x w3 ⟨rfl, hb3⟩; have hB4 := hB3.trans (hb3.mono hB3.size); have R4 := R3.next hb3; have A4 := A3.next hb3; have hM4 := hM3.below hb3 (Nat.le_refl _))
    | (go_at_call 37; with_reducible refine (CK.out _).mono ?_; rintro x w4 ⟨rfl, hb4⟩; have hB5 := hB4.trans (hb4.mono hB4.size); have R5 := R4.next hb4; have A5 := A4.next hb4; have hM5 := hM4.below hb4 (Nat.le_refl _); have u1 := A5.c 1 rfl; have u3 := A5.c 3 rfl))
  have hz4 : w4.heap.size = w4.heap.size := rfl
  go_cut [12] (fun p12 wx => ∃ K, p12 = .pointer (some ⟨K, 0, none⟩) ∧ w4.heap.size ≤ K ∧ AtL wx K (ckL ⟨N, V, b, dp, true, false, false, -1, 0⟩) ∧ Below w4.heap.size w4 wx)
  case first =>
    clear HPS A0 A1 A2 A3 A4 R1 R2 R3 R4
    go_region_held3 (fun w' => w'.cell? ⟨w.heap.size, 1, none⟩ = some (.string b) ∧ w'.cell? ⟨w.heap.size, 3, none⟩ = some (.string d)) (go_keep) (first | (go_at_call 18; with_reducible refine (CD.out _).mono ?_; rintro x w5 ⟨rfl, rfl⟩))
    all_goals
      go_wp2_with fail
      go_meet
      exact ⟨w4.heap.size, rfl, Nat.le_refl _, (AtL.new w4 (ckL ⟨N, V, b, dp, true, false, false, -1, 0⟩) 29).drew, ((Below.refl _ w4).alloc (Nat.le_refl _) _).drew⟩
  case rest =>
    obtain ⟨K, rfl, hK, AK, hBK⟩ := hcut
    have A6 := A5.below hBK A5.lt
    have R6 := R5.below hBK R5.lt
    have hM6 := hM5.below hBK (Nat.le_refl _)
    have hB6 := hB5.trans (hBK.mono hB5.size)
    have hUK : w.heap.size < K := Nat.lt_of_lt_of_le A5.lt hK
    have hRK : w.heap.size + 1 < K := Nat.lt_of_lt_of_le R5.lt hK
    have hPK : w1.heap.size < K := (by have := hb3.size; have := hb4.size; omega)
    have hGK : 0 < K := Nat.lt_of_lt_of_le hM5.lt hK
    have hBp : Below w2.heap.size w2 wc := (hb3.trans (hb4.mono hb3.size)).trans (hBK.mono (by have := hb3.size; have := hb4.size; omega))
    have HC := Lib.hid (fun j (h : j < qs.length) => (hBp.cell (p := ⟨w1.heap.size, 1 + j, none⟩) hg2).trans (HPS.out j h))
    have hM5' := Lib.hid hM5
    have hnel : 1 < qs.length + 1 := by omega
    clear A0 A1 A2 A3 A4 A5 R1 R2 R3 R4 R5 hM1 hM2 hM3 hM4 hb1 hb2 hb3 hb4 hBp HPS CT CSp CP CK u1 u3 hp0 hB1 hB2 hB3 hB4 hz4
    go_wp2_with fail
    go_loopw [56] (fun iv wr => ∃ (k : Nat) (c : Ck), k ≤ qs.length ∧ iv = .int .i64 k ∧ AtL wr K (ckL c) ∧ Below K wc wr ∧ c.d.size ≤ 200000 ∧ lastC b.data.toList a.data.toList ((lists (qs.drop k)).foldl (stepC b dp now) c) = R) (fun iv _ => qs.length - (intOf iv).toNat)
    case atStart => exact ⟨0, _, Nat.zero_le _, rfl, AK, Below.refl _ _, by have := hz.b; show b.size ≤ _; omega, HR.out⟩
    case round =>
      obtain ⟨k, c, hk, rfl, AK7, hbw, hcd, hf⟩ := hrel
      have A7 := A6.below hbw hUK
      have R7 := R6.below hbw hRK
      by_cases hlt : k < qs.length
      · clear R6 HR AK
        have c0 := (hbw.cell (p := ⟨w1.heap.size, 1 + k, none⟩) hPK).trans (HC.out k hlt)
        have hqk := HQ.out qs[k] (List.getElem_mem hlt)
        rw [List.drop_eq_getElem_cons hlt, show lists (qs[k] :: qs.drop (k + 1)) = qs[k].data.toList :: lists (qs.drop (k + 1)) from rfl, List.foldl_cons] at hf
        obtain ⟨p, hp⟩ : ∃ p, qs[k] = p := ⟨_, rfl⟩
        rw [hp] at c0 hqk hf
        obtain ⟨NN, hNN⟩ : ∃ N : ByteArray, N.data.toList = trimC (pre 61 p.data.toList) := ⟨bs _, rfl⟩
        obtain ⟨VV, hVV⟩ : ∃ V : ByteArray, V.data.toList = trimC (post 61 p.data.toList) := ⟨bs _, rfl⟩
        obtain ⟨FF, hFF⟩ : ∃ F, p.data.toList.contains 61 = F := ⟨_, rfl⟩
        obtain ⟨LL, hLL⟩ : ∃ L : ByteArray, L.data.toList = lowL NN.data.toList := ⟨bs _, rfl⟩
        have hNs : NN.size ≤ 100000 := by rw [← size_len, hNN]; have h1 := trimC_len (pre 61 p.data.toList); have h2 := pre_len' 61 p.data.toList; rw [size_len] at h2; omega
        have hVs : VV.size ≤ 100000 := by rw [← size_len, hVV]; have h1 := trimC_len (post 61 p.data.toList); have h2 := post_len' 61 p.data.toList; rw [size_len] at h2; omega
        have CPr := Lib.hid (fun w hM => pair_is p NN VV FF w (by omega) hM hNN hVV hFF)
        have CL1 := Lib.hid (fun w => lowc_is NN LL hLL w (by omega))
        rw [step_is b dp now c p.data.toList LL VV (hLL.trans (by rw [hNN])) hVV] at hf
        have hM7 := hM6.keep hbw hGK
        have hKw : K ≤ wr.heap.size := Nat.le_of_lt AK7.lt
        have hki : (k : Int) < (qs.length : Int) := by omega
        clear hp hNN hVV hFF hLL R7 A7
        rcases kind_cases LL with ⟨g1, e⟩ | ⟨g1, g2, e⟩ | ⟨g1, g2, g3, e⟩ | ⟨g1, g2, g3, g4, e⟩ | ⟨g1, g2, g3, g4, g5, e⟩ | ⟨g1, g2, g3, g4, g5, n1, n2, n3, n4, n5⟩
        · rw [e] at hf
          cases hag : ageL VV.data.toList with
          | none =>
            rw [attr_max0 _ _ _ _ _ hag] at hf
            have CA := Lib.hid (fun w => cage_is VV none hag w (by omega))
            have HF := Lib.hid hf
            clear hf e hag
            go_wp2_with (first
              | (go_at_call 36; with_reducible refine (CPr.out _ hM7).mono ?_; rintro x v5 ⟨rfl, hv5⟩; have B5 := hbw.trans (hv5.mono hKw); have K5 := AK7.next hv5; have z0 := K5.c 0 rfl; have z1 := K5.c 1 rfl; have z2 := K5.c 2 rfl; have z3 := K5.c 3 rfl; have z4 := K5.c 4 rfl; have z5 := K5.c 5 rfl; have z6 := K5.c 6 rfl; have z7 := K5.c 7 rfl; have z8 := K5.c 8 rfl; have y0 := K5.f 0 rfl; have y1 := K5.f 1 rfl; have y2 := K5.f 2 rfl; have y3 := K5.f 3 rfl; have y4 := K5.f 4 rfl; have y5 := K5.f 5 rfl; have y6 := K5.f 6 rfl; have y7 := K5.f 7 rfl; have y8 := K5.f 8 rfl; have k5 := K5.lt)
              | (go_at_call 38; with_reducible refine (CL1.out _).mono ?_; rintro x v6 ⟨rfl, hv6⟩; have B6 := B5.trans (hv6.mono (Nat.le_of_lt k5)); have K6 := K5.next hv6; have z0 := K6.c 0 rfl; have z1 := K6.c 1 rfl; have z2 := K6.c 2 rfl; have z3 := K6.c 3 rfl; have z4 := K6.c 4 rfl; have z5 := K6.c 5 rfl; have z6 := K6.c 6 rfl; have z7 := K6.c 7 rfl; have z8 := K6.c 8 rfl; have y0 := K6.f 0 rfl; have y1 := K6.f 1 rfl; have y2 := K6.f 2 rfl; have y3 := K6.f 3 rfl; have y4 := K6.f 4 rfl; have y5 := K6.f 5 rfl; have y6 := K6.f 6 rfl; have y7 := K6.f 7 rfl; have y8 := K6.f 8 rfl; have k6 := K6.lt; have U6 := A6.below B6 hUK; have u1 := U6.c 1 rfl; have u3 := U6.c 3 rfl)
              | (go_at_call 39; with_reducible refine (CA.out _).mono ?_; rintro x v7 ⟨rfl, hv7⟩; have B7 := B6.trans (hv7.mono (Nat.le_of_lt k6)); have K7 := K6.next hv7; have z0 := K7.c 0 rfl; have z1 := K7.c 1 rfl; have z2 := K7.c 2 rfl; have z3 := K7.c 3 rfl; have z4 := K7.c 4 rfl; have z5 := K7.c 5 rfl; have z6 := K7.c 6 rfl; have z7 := K7.c 7 rfl; have z8 := K7.c 8 rfl; have y0 := K7.f 0 rfl; have y1 := K7.f 1 rfl; have y2 := K7.f 2 rfl; have y3 := K7.f 3 rfl; have y4 := K7.f 4 rfl; have y5 := K7.f 5 rfl; have y6 := K7.f 6 rfl; have y7 := K7.f 7 rfl; have y8 := K7.f 8 rfl; have k7 := K7.lt))
            go_roundw
            case rel => exact ⟨k + 1, c, by omega, by go_num, K7, B7, hcd, HF.out⟩
            case measure => simp [intOf]; omega
          | some n =>
            rw [attr_max _ _ _ _ _ n hag] at hf
            have hnb := ageL_bd _ _ hag
            have CA := Lib.hid (fun w => cage_is VV (some n) hag w (by omega))
            have hcb := clock_bd now
            have cK := fun w => clock_any now w
            obtain ⟨Cn, hCn⟩ : ∃ Cn, clockI now = Cn := ⟨_, rfl⟩
            rw [hCn] at cK hcb hf
            have CKl := Lib.hid cK
            have HF := Lib.hid hf
            clear hf e hag hCn cK
            obtain ⟨hn1, hn2⟩ := hnb
            obtain ⟨hc1, hc2⟩ := hcb
            go_wp2_with (first
              | (go_at_call 36; with_reducible refine (CPr.out _ hM7).mono ?_; rintro x v5 ⟨rfl, hv5⟩; have B5 := hbw.trans (hv5.mono hKw); have K5 := AK7.next hv5; have z0 := K5.c 0 rfl; have z1 := K5.c 1 rfl; have z2 := K5.c 2 rfl; have z3 := K5.c 3 rfl; have z4 := K5.c 4 rfl; have z5 := K5.c 5 rfl; have z6 := K5.c 6 rfl; have z7 := K5.c 7 rfl; have z8 := K5.c 8 rfl; have y0 := K5.f 0 rfl; have y1 := K5.f 1 rfl; have y2 := K5.f 2 rfl; have y3 := K5.f 3 rfl; have y4 := K5.f 4 rfl; have y5 := K5.f 5 rfl; have y6 := K5.f 6 rfl; have y7 := K5.f 7 rfl; have y8 := K5.f 8 rfl; have k5 := K5.lt)
              | (go_at_call 38; with_reducible refine (CL1.out _).mono ?_; rintro x v6 ⟨rfl, hv6⟩; have B6 := B5.trans (hv6.mono (Nat.le_of_lt k5)); have K6 := K5.next hv6; have z0 := K6.c 0 rfl; have z1 := K6.c 1 rfl; have z2 := K6.c 2 rfl; have z3 := K6.c 3 rfl; have z4 := K6.c 4 rfl; have z5 := K6.c 5 rfl; have z6 := K6.c 6 rfl; have z7 := K6.c 7 rfl; have z8 := K6.c 8 rfl; have y0 := K6.f 0 rfl; have y1 := K6.f 1 rfl; have y2 := K6.f 2 rfl; have y3 := K6.f 3 rfl; have y4 := K6.f 4 rfl; have y5 := K6.f 5 rfl; have y6 := K6.f 6 rfl; have y7 := K6.f 7 rfl; have y8 := K6.f 8 rfl; have k6 := K6.lt; have U6 := A6.below B6 hUK; have u1 := U6.c 1 rfl; have u3 := U6.c 3 rfl)
              | (go_at_call 39; with_reducible refine (CA.out _).mono ?_; rintro x v7 ⟨rfl, hv7⟩; have B7 := B6.trans (hv7.mono (Nat.le_of_lt k6)); have K7 := K6.next hv7; have z0 := K7.c 0 rfl; have z1 := K7.c 1 rfl; have z2 := K7.c 2 rfl; have z3 := K7.c 3 rfl; have z4 := K7.c 4 rfl; have z5 := K7.c 5 rfl; have z6 := K7.c 6 rfl; have z7 := K7.c 7 rfl; have z8 := K7.c 8 rfl; have y0 := K7.f 0 rfl; have y1 := K7.f 1 rfl; have y2 := K7.f 2 rfl; have y3 := K7.f 3 rfl; have y4 := K7.f 4 rfl; have y5 := K7.f 5 rfl; have y6 := K7.f 6 rfl; have y7 := K7.f 7 rfl; have y8 := K7.f 8 rfl; have k7 := K7.lt)
              | (go_at_call 40; with_reducible refine (CKl.out _).mono ?_; rintro x v8 ⟨rfl, rfl⟩))
            go_roundw
            case rel => exact ⟨k + 1, { c with ex := Cn + n * 1000 }, by omega, by go_num, K7.set 7 _, B7.setCell (Nat.le_refl K) _, hcd, HF.out⟩
            case measure => simp [intOf]; omega
        · rw [e, attr_dom] at hf
          obtain ⟨TT, hTT⟩ : ∃ T : ByteArray, T.data.toList = undot VV.data.toList := ⟨bs _, rfl⟩
          obtain ⟨L2, hL2⟩ : ∃ L : ByteArray, L = bs (lowL (undot VV.data.toList)) := ⟨_, rfl⟩
          have hTs : TT.size ≤ 100000 := by rw [← size_len, hTT]; have h1 := undot_len VV.data.toList; rw [size_len] at h1; omega
          have hLs : L2.size ≤ 200000 := by rw [hL2, bs_size, low_len, ← hTT, size_len]; omega
          have CTp := Lib.hid (fun w => trimpre_is VV TT hTT w)
          have CL2 := Lib.hid (fun w => lowc_is TT L2 (by rw [hL2, hTT]; rfl) w (by omega))
          have hE2 : L2.toList.isEmpty = decide (lowL (undot VV.data.toList) = []) := by
            rw [ByteArray.toList_eq, hL2, bs_list]
            cases lowL (undot VV.data.toList) with
            | nil => rfl
            | cons b r => simp
          rw [← hL2] at hf
          by_cases hd0 : lowL (undot VV.data.toList) = []
          · rw [if_pos hd0] at hf
            rw [decide_eq_true hd0] at hE2
            have HF := Lib.hid hf
            clear hf e hd0 hL2 hTT
            go_wp2_with (first
              | (go_at_call 36; with_reducible refine (CPr.out _ hM7).mono ?_; rintro x v5 ⟨rfl, hv5⟩; have B5 := hbw.trans (hv5.mono hKw); have K5 := AK7.next hv5; have z0 := K5.c 0 rfl; have z1 := K5.c 1 rfl; have z2 := K5.c 2 rfl; have z3 := K5.c 3 rfl; have z4 := K5.c 4 rfl; have z5 := K5.c 5 rfl; have z6 := K5.c 6 rfl; have z7 := K5.c 7 rfl; have z8 := K5.c 8 rfl; have y0 := K5.f 0 rfl; have y1 := K5.f 1 rfl; have y2 := K5.f 2 rfl; have y3 := K5.f 3 rfl; have y4 := K5.f 4 rfl; have y5 := K5.f 5 rfl; have y6 := K5.f 6 rfl; have y7 := K5.f 7 rfl; have y8 := K5.f 8 rfl; have k5 := K5.lt)
              | (go_at_call 38; with_reducible refine (CL1.out _).mono ?_; rintro x v6 ⟨rfl, hv6⟩; have B6 := B5.trans (hv6.mono (Nat.le_of_lt k5)); have K6 := K5.next hv6; have z0 := K6.c 0 rfl; have z1 := K6.c 1 rfl; have z2 := K6.c 2 rfl; have z3 := K6.c 3 rfl; have z4 := K6.c 4 rfl; have z5 := K6.c 5 rfl; have z6 := K6.c 6 rfl; have z7 := K6.c 7 rfl; have z8 := K6.c 8 rfl; have y0 := K6.f 0 rfl; have y1 := K6.f 1 rfl; have y2 := K6.f 2 rfl; have y3 := K6.f 3 rfl; have y4 := K6.f 4 rfl; have y5 := K6.f 5 rfl; have y6 := K6.f 6 rfl; have y7 := K6.f 7 rfl; have y8 := K6.f 8 rfl; have k6 := K6.lt; have U6 := A6.below B6 hUK; have u1 := U6.c 1 rfl; have u3 := U6.c 3 rfl)
              | (go_at_call 41; with_reducible refine (CTp.out _).mono ?_; rintro x v7 ⟨rfl, rfl⟩)
              | (go_at_call 38; with_reducible refine (CL2.out _).mono ?_; rintro x v7 ⟨rfl, hv7⟩; have B7 := B6.trans (hv7.mono (Nat.le_of_lt k6)); have K7 := K6.next hv7; have z0 := K7.c 0 rfl; have z1 := K7.c 1 rfl; have z2 := K7.c 2 rfl; have z3 := K7.c 3 rfl; have z4 := K7.c 4 rfl; have z5 := K7.c 5 rfl; have z6 := K7.c 6 rfl; have z7 := K7.c 7 rfl; have z8 := K7.c 8 rfl; have y0 := K7.f 0 rfl; have y1 := K7.f 1 rfl; have y2 := K7.f 2 rfl; have y3 := K7.f 3 rfl; have y4 := K7.f 4 rfl; have y5 := K7.f 5 rfl; have y6 := K7.f 6 rfl; have y7 := K7.f 7 rfl; have y8 := K7.f 8 rfl; have k7 := K7.lt; have U7 := A6.below B7 hUK; have u1 := U7.c 1 rfl; have u3 := U7.c 3 rfl))
            go_roundw
            case rel => exact ⟨k + 1, { c with d := b, ho := true }, by omega, by go_num, ((K7.set 2 _).set 4 _).set 2 _, ((B7.setCell (Nat.le_refl K) _).setCell (Nat.le_refl K) _).setCell (Nat.le_refl K) _, by have := hz.b; show b.size ≤ _; omega, HF.out⟩
            case measure => simp [intOf]; omega
          · rw [if_neg hd0] at hf
            rw [decide_eq_false hd0] at hE2
            have HF := Lib.hid hf
            clear hf e hd0 hL2 hTT
            go_wp2_with (first
              | (go_at_call 36; with_reducible refine (CPr.out _ hM7).mono ?_; rintro x v5 ⟨rfl, hv5⟩; have B5 := hbw.trans (hv5.mono hKw); have K5 := AK7.next hv5; have z0 := K5.c 0 rfl; have z1 := K5.c 1 rfl; have z2 := K5.c 2 rfl; have z3 := K5.c 3 rfl; have z4 := K5.c 4 rfl; have z5 := K5.c 5 rfl; have z6 := K5.c 6 rfl; have z7 := K5.c 7 rfl; have z8 := K5.c 8 rfl; have y0 := K5.f 0 rfl; have y1 := K5.f 1 rfl; have y2 := K5.f 2 rfl; have y3 := K5.f 3 rfl; have y4 := K5.f 4 rfl; have y5 := K5.f 5 rfl; have y6 := K5.f 6 rfl; have y7 := K5.f 7 rfl; have y8 := K5.f 8 rfl; have k5 := K5.lt)
              | (go_at_call 38; with_reducible refine (CL1.out _).mono ?_; rintro x v6 ⟨rfl, hv6⟩; have B6 := B5.trans (hv6.mono (Nat.le_of_lt k5)); have K6 := K5.next hv6; have z0 := K6.c 0 rfl; have z1 := K6.c 1 rfl; have z2 := K6.c 2 rfl; have z3 := K6.c 3 rfl; have z4 := K6.c 4 rfl; have z5 := K6.c 5 rfl; have z6 := K6.c 6 rfl; have z7 := K6.c 7 rfl; have z8 := K6.c 8 rfl; have y0 := K6.f 0 rfl; have y1 := K6.f 1 rfl; have y2 := K6.f 2 rfl; have y3 := K6.f 3 rfl; have y4 := K6.f 4 rfl; have y5 := K6.f 5 rfl; have y6 := K6.f 6 rfl; have y7 := K6.f 7 rfl; have y8 := K6.f 8 rfl; have k6 := K6.lt; have U6 := A6.below B6 hUK; have u1 := U6.c 1 rfl; have u3 := U6.c 3 rfl)
              | (go_at_call 41; with_reducible refine (CTp.out _).mono ?_; rintro x v7 ⟨rfl, rfl⟩)
              | (go_at_call 38; with_reducible refine (CL2.out _).mono ?_; rintro x v7 ⟨rfl, hv7⟩; have B7 := B6.trans (hv7.mono (Nat.le_of_lt k6)); have K7 := K6.next hv7; have z0 := K7.c 0 rfl; have z1 := K7.c 1 rfl; have z2 := K7.c 2 rfl; have z3 := K7.c 3 rfl; have z4 := K7.c 4 rfl; have z5 := K7.c 5 rfl; have z6 := K7.c 6 rfl; have z7 := K7.c 7 rfl; have z8 := K7.c 8 rfl; have y0 := K7.f 0 rfl; have y1 := K7.f 1 rfl; have y2 := K7.f 2 rfl; have y3 := K7.f 3 rfl; have y4 := K7.f 4 rfl; have y5 := K7.f 5 rfl; have y6 := K7.f 6 rfl; have y7 := K7.f 7 rfl; have y8 := K7.f 8 rfl; have k7 := K7.lt; have U7 := A6.below B7 hUK; have u1 := U7.c 1 rfl; have u3 := U7.c 3 rfl))
            go_roundw
            case rel => exact ⟨k + 1, { c with d := L2, ho := false }, by omega, by go_num, (K7.set 2 _).set 4 _, (B7.setCell (Nat.le_refl K) _).setCell (Nat.le_refl K) _, hLs, HF.out⟩
            case measure => simp [intOf]; omega
        · rw [e, attr_path, bs_data] at hf
          obtain ⟨H, hH⟩ : ∃ H, Lib.hasPrefix VV.data.toList [47] = H := ⟨_, rfl⟩
          have CHp := Lib.hid (fun w => hasp_is VV H hH w)
          rw [hH] at hf
          cases H
          · rw [if_neg Bool.false_ne_true] at hf
            have HF := Lib.hid hf
            clear hf e hH
            go_wp2_with (first
              | (go_at_call 36; with_reducible refine (CPr.out _ hM7).mono ?_; rintro x v5 ⟨rfl, hv5⟩; have B5 := hbw.trans (hv5.mono hKw); have K5 := AK7.next hv5; have z0 := K5.c 0 rfl; have z1 := K5.c 1 rfl; have z2 := K5.c 2 rfl; have z3 := K5.c 3 rfl; have z4 := K5.c 4 rfl; have z5 := K5.c 5 rfl; have z6 := K5.c 6 rfl; have z7 := K5.c 7 rfl; have z8 := K5.c 8 rfl; have y0 := K5.f 0 rfl; have y1 := K5.f 1 rfl; have y2 := K5.f 2 rfl; have y3 := K5.f 3 rfl; have y4 := K5.f 4 rfl; have y5 := K5.f 5 rfl; have y6 := K5.f 6 rfl; have y7 := K5.f 7 rfl; have y8 := K5.f 8 rfl; have k5 := K5.lt)
              | (go_at_call 38; with_reducible refine (CL1.out _).mono ?_; rintro x v6 ⟨rfl, hv6⟩; have B6 := B5.trans (hv6.mono (Nat.le_of_lt k5)); have K6 := K5.next hv6; have z0 := K6.c 0 rfl; have z1 := K6.c 1 rfl; have z2 := K6.c 2 rfl; have z3 := K6.c 3 rfl; have z4 := K6.c 4 rfl; have z5 := K6.c 5 rfl; have z6 := K6.c 6 rfl; have z7 := K6.c 7 rfl; have z8 := K6.c 8 rfl; have y0 := K6.f 0 rfl; have y1 := K6.f 1 rfl; have y2 := K6.f 2 rfl; have y3 := K6.f 3 rfl; have y4 := K6.f 4 rfl; have y5 := K6.f 5 rfl; have y6 := K6.f 6 rfl; have y7 := K6.f 7 rfl; have y8 := K6.f 8 rfl; have k6 := K6.lt; have U6 := A6.below B6 hUK; have u1 := U6.c 1 rfl; have u3 := U6.c 3 rfl)
              | (go_at_call 18; with_reducible refine (CD.out _).mono ?_; rintro x v7 ⟨rfl, rfl⟩)
              | (go_at_call 42; with_reducible refine (CHp.out _).mono ?_; rintro x v8 ⟨rfl, rfl⟩))
            go_roundw
            case rel => exact ⟨k + 1, { c with p := dp }, by omega, by go_num, K6.set 3 _, B6.setCell (Nat.le_refl K) _, hcd, HF.out⟩
            case measure => simp [intOf]; omega
          · rw [if_pos rfl] at hf
            have HF := Lib.hid hf
            clear hf e hH
            go_wp2_with (first
              | (go_at_call 36; with_reducible refine (CPr.out _ hM7).mono ?_; rintro x v5 ⟨rfl, hv5⟩; have B5 := hbw.trans (hv5.mono hKw); have K5 := AK7.next hv5; have z0 := K5.c 0 rfl; have z1 := K5.c 1 rfl; have z2 := K5.c 2 rfl; have z3 := K5.c 3 rfl; have z4 := K5.c 4 rfl; have z5 := K5.c 5 rfl; have z6 := K5.c 6 rfl; have z7 := K5.c 7 rfl; have z8 := K5.c 8 rfl; have y0 := K5.f 0 rfl; have y1 := K5.f 1 rfl; have y2 := K5.f 2 rfl; have y3 := K5.f 3 rfl; have y4 := K5.f 4 rfl; have y5 := K5.f 5 rfl; have y6 := K5.f 6 rfl; have y7 := K5.f 7 rfl; have y8 := K5.f 8 rfl; have k5 := K5.lt)
              | (go_at_call 38; with_reducible refine (CL1.out _).mono ?_; rintro x v6 ⟨rfl, hv6⟩; have B6 := B5.trans (hv6.mono (Nat.le_of_lt k5)); have K6 := K5.next hv6; have z0 := K6.c 0 rfl; have z1 := K6.c 1 rfl; have z2 := K6.c 2 rfl; have z3 := K6.c 3 rfl; have z4 := K6.c 4 rfl; have z5 := K6.c 5 rfl; have z6 := K6.c 6 rfl; have z7 := K6.c 7 rfl; have z8 := K6.c 8 rfl; have y0 := K6.f 0 rfl; have y1 := K6.f 1 rfl; have y2 := K6.f 2 rfl; have y3 := K6.f 3 rfl; have y4 := K6.f 4 rfl; have y5 := K6.f 5 rfl; have y6 := K6.f 6 rfl; have y7 := K6.f 7 rfl; have y8 := K6.f 8 rfl; have k6 := K6.lt; have U6 := A6.below B6 hUK; have u1 := U6.c 1 rfl; have u3 := U6.c 3 rfl)
              | (go_at_call 18; with_reducible refine (CD.out _).mono ?_; rintro x v7 ⟨rfl, rfl⟩)
              | (go_at_call 42; with_reducible refine (CHp.out _).mono ?_; rintro x v8 ⟨rfl, rfl⟩))
            go_roundw
            case rel => exact ⟨k + 1, { c with p := VV }, by omega, by go_num, (K6.set 3 _).set 3 _, (B6.setCell (Nat.le_refl K) _).setCell (Nat.le_refl K) _, hcd, HF.out⟩
            case measure => simp [intOf]; omega
        · rw [e, attr_sec] at hf
          have HF := Lib.hid hf
          clear hf e
          go_wp2_with (first
            | (go_at_call 36; with_reducible refine (CPr.out _ hM7).mono ?_; rintro x v5 ⟨rfl, hv5⟩; have B5 := hbw.trans (hv5.mono hKw); have K5 := AK7.next hv5; have z0 := K5.c 0 rfl; have z1 := K5.c 1 rfl; have z2 := K5.c 2 rfl; have z3 := K5.c 3 rfl; have z4 := K5.c 4 rfl; have z5 := K5.c 5 rfl; have z6 := K5.c 6 rfl; have z7 := K5.c 7 rfl; have z8 := K5.c 8 rfl; have y0 := K5.f 0 rfl; have y1 := K5.f 1 rfl; have y2 := K5.f 2 rfl; have y3 := K5.f 3 rfl; have y4 := K5.f 4 rfl; have y5 := K5.f 5 rfl; have y6 := K5.f 6 rfl; have y7 := K5.f 7 rfl; have y8 := K5.f 8 rfl; have k5 := K5.lt)
            | (go_at_call 38; with_reducible refine (CL1.out _).mono ?_; rintro x v6 ⟨rfl, hv6⟩; have B6 := B5.trans (hv6.mono (Nat.le_of_lt k5)); have K6 := K5.next hv6; have z0 := K6.c 0 rfl; have z1 := K6.c 1 rfl; have z2 := K6.c 2 rfl; have z3 := K6.c 3 rfl; have z4 := K6.c 4 rfl; have z5 := K6.c 5 rfl; have z6 := K6.c 6 rfl; have z7 := K6.c 7 rfl; have z8 := K6.c 8 rfl; have y0 := K6.f 0 rfl; have y1 := K6.f 1 rfl; have y2 := K6.f 2 rfl; have y3 := K6.f 3 rfl; have y4 := K6.f 4 rfl; have y5 := K6.f 5 rfl; have y6 := K6.f 6 rfl; have y7 := K6.f 7 rfl; have y8 := K6.f 8 rfl; have k6 := K6.lt; have U6 := A6.below B6 hUK; have u1 := U6.c 1 rfl; have u3 := U6.c 3 rfl))
          go_roundw
          case rel => exact ⟨k + 1, { c with se := true }, by omega, by go_num, K6.set 5 _, B6.setCell (Nat.le_refl K) _, hcd, HF.out⟩
          case measure => simp [intOf]; omega
        · rw [e, attr_hid] at hf
          have HF := Lib.hid hf
          clear hf e
          go_wp2_with (first
            | (go_at_call 36; with_reducible refine (CPr.out _ hM7).mono ?_; rintro x v5 ⟨rfl, hv5⟩; have B5 := hbw.trans (hv5.mono hKw); have K5 := AK7.next hv5; have z0 := K5.c 0 rfl; have z1 := K5.c 1 rfl; have z2 := K5.c 2 rfl; have z3 := K5.c 3 rfl; have z4 := K5.c 4 rfl; have z5 := K5.c 5 rfl; have z6 := K5.c 6 rfl; have z7 := K5.c 7 rfl; have z8 := K5.c 8 rfl; have y0 := K5.f 0 rfl; have y1 := K5.f 1 rfl; have y2 := K5.f 2 rfl; have y3 := K5.f 3 rfl; have y4 := K5.f 4 rfl; have y5 := K5.f 5 rfl; have y6 := K5.f 6 rfl; have y7 := K5.f 7 rfl; have y8 := K5.f 8 rfl; have k5 := K5.lt)
            | (go_at_call 38; with_reducible refine (CL1.out _).mono ?_; rintro x v6 ⟨rfl, hv6⟩; have B6 := B5.trans (hv6.mono (Nat.le_of_lt k5)); have K6 := K5.next hv6; have z0 := K6.c 0 rfl; have z1 := K6.c 1 rfl; have z2 := K6.c 2 rfl; have z3 := K6.c 3 rfl; have z4 := K6.c 4 rfl; have z5 := K6.c 5 rfl; have z6 := K6.c 6 rfl; have z7 := K6.c 7 rfl; have z8 := K6.c 8 rfl; have y0 := K6.f 0 rfl; have y1 := K6.f 1 rfl; have y2 := K6.f 2 rfl; have y3 := K6.f 3 rfl; have y4 := K6.f 4 rfl; have y5 := K6.f 5 rfl; have y6 := K6.f 6 rfl; have y7 := K6.f 7 rfl; have y8 := K6.f 8 rfl; have k6 := K6.lt; have U6 := A6.below B6 hUK; have u1 := U6.c 1 rfl; have u3 := U6.c 3 rfl))
          go_roundw
          case rel => exact ⟨k + 1, { c with hi := true }, by omega, by go_num, K6.set 6 _, B6.setCell (Nat.le_refl K) _, hcd, HF.out⟩
          case measure => simp [intOf]; omega
        · rw [attr_no _ _ _ _ _ _ n1 n2 n3 n4 n5] at hf
          have HF := Lib.hid hf
          clear hf n1 n2 n3 n4 n5
          go_wp2_with (first
            | (go_at_call 36; with_reducible refine (CPr.out _ hM7).mono ?_; rintro x v5 ⟨rfl, hv5⟩; have B5 := hbw.trans (hv5.mono hKw); have K5 := AK7.next hv5; have z0 := K5.c 0 rfl; have z1 := K5.c 1 rfl; have z2 := K5.c 2 rfl; have z3 := K5.c 3 rfl; have z4 := K5.c 4 rfl; have z5 := K5.c 5 rfl; have z6 := K5.c 6 rfl; have z7 := K5.c 7 rfl; have z8 := K5.c 8 rfl; have y0 := K5.f 0 rfl; have y1 := K5.f 1 rfl; have y2 := K5.f 2 rfl; have y3 := K5.f 3 rfl; have y4 := K5.f 4 rfl; have y5 := K5.f 5 rfl; have y6 := K5.f 6 rfl; have y7 := K5.f 7 rfl; have y8 := K5.f 8 rfl; have k5 := K5.lt)
            | (go_at_call 38; with_reducible refine (CL1.out _).mono ?_; rintro x v6 ⟨rfl, hv6⟩; have B6 := B5.trans (hv6.mono (Nat.le_of_lt k5)); have K6 := K5.next hv6; have z0 := K6.c 0 rfl; have z1 := K6.c 1 rfl; have z2 := K6.c 2 rfl; have z3 := K6.c 3 rfl; have z4 := K6.c 4 rfl; have z5 := K6.c 5 rfl; have z6 := K6.c 6 rfl; have z7 := K6.c 7 rfl; have z8 := K6.c 8 rfl; have y0 := K6.f 0 rfl; have y1 := K6.f 1 rfl; have y2 := K6.f 2 rfl; have y3 := K6.f 3 rfl; have y4 := K6.f 4 rfl; have y5 := K6.f 5 rfl; have y6 := K6.f 6 rfl; have y7 := K6.f 7 rfl; have y8 := K6.f 8 rfl; have k6 := K6.lt; have U6 := A6.below B6 hUK; have u1 := U6.c 1 rfl; have u3 := U6.c 3 rfl))
          go_roundw
          case rel => exact ⟨k + 1, c, by omega, by go_num, K6, B6, hcd, HF.out⟩
          case measure => simp [intOf]; omega
      · obtain rfl : k = qs.length := by omega
        rw [List.drop_length] at hf
        have hf : lastC b.data.toList a.data.toList c = R := hf
        have hB7 : Below w.heap.size w wr := hB6.trans (hbw.mono (Nat.le_of_lt hUK))
        clear AK A6 R6 HC HR HQ CD
        obtain ⟨cn, cv, cd, cp, cho, cse, chi, cex, ccr⟩ := c
        have hcd : cd.size ≤ 200000 := hcd
        obtain ⟨D, hD⟩ : ∃ D, domL b.data.toList cd.data.toList = D := ⟨_, rfl⟩
        have CDm := Lib.hid (fun w => domi_is b cd D hD w (by have := hz.b; omega) (by omega))
        obtain ⟨Kn, hKn⟩ : ∃ Kn, cd.data.toList.contains 46 = Kn := ⟨_, rfl⟩
        have CKn := Lib.hid (fun w => contains_is cd 46 Kn hKn w)
        unfold lastC at hf
        rw [hD, hKn] at hf
        have z0 := AK7.c 0 rfl; have z1 := AK7.c 1 rfl; have z2 := AK7.c 2 rfl; have z3 := AK7.c 3 rfl; have z4 := AK7.c 4 rfl; have z5 := AK7.c 5 rfl; have z6 := AK7.c 6 rfl; have z7 := AK7.c 7 rfl; have z8 := AK7.c 8 rfl
        have u0 := A7.c 0 rfl
        have u1 := A7.c 1 rfl
        cases D
        · have HV : Hid (R = (ck0, 15)) := by rw [← hf, if_pos (Or.inl rfl)]; exact rfl
          clear hf hD hKn
          go_wp2_with (first
            | (go_at_call 14; with_reducible refine (CDm.out _).mono ?_; rintro x w8 ⟨rfl, hb8⟩; have hB8 := hB7.trans (hb8.mono hB7.size); have R8 := R7.next hb8; have r0 := R8.c 0 rfl; have r1 := R8.c 1 rfl; have r2 := R8.c 2 rfl; have r3 := R8.c 3 rfl; have r4 := R8.c 4 rfl; have r5 := R8.c 5 rfl; have r6 := R8.c 6 rfl; have r7 := R8.c 7 rfl; have r8 := R8.c 8 rfl; have q0 := R8.f 0 rfl; have q1 := R8.f 1 rfl; have q2 := R8.f 2 rfl; have q3 := R8.f 3 rfl; have q4 := R8.f 4 rfl; have q5 := R8.f 5 rfl; have q6 := R8.f 6 rfl; have q7 := R8.f 7 rfl; have q8 := R8.f 8 rfl; have hk8 := R8.lt; have K8 := AK7.next hb8; have z0 := K8.c 0 rfl; have z1 := K8.c 1 rfl; have z2 := K8.c 2 rfl; have z3 := K8.c 3 rfl; have z4 := K8.c 4 rfl; have z5 := K8.c 5 rfl; have z6 := K8.c 6 rfl; have z7 := K8.c 7 rfl; have z8 := K8.c 8 rfl; have hk9 := K8.lt; have A8 := A7.next hb8; have v0 := A8.c 0 rfl; have v1 := A8.c 1 rfl)
            | (go_at_call 43; with_reducible refine (CKn.out _).mono ?_; rintro x w9 ⟨rfl, rfl⟩))
          exact bodyPost_ret (ret9_run Tryz.results12 Tryz.sizeOf29 Tryz.isAgg29 _ _ _ _ _ _ _ _ _ _ _ _ _ rfl rfl (R8.set9 rfl _ _ _ _ _ _ _ _ _)) rfl ⟨by rw [HV.out]; exact rfl, below_set9 hB8 (Nat.le_succ _) _ _ _ _ _ _ _ _ _⟩
        · by_cases hm : cd.data.toList = b.data.toList
          · obtain rfl : cd = b := ba_ext' hm
            rw [if_neg (by rintro (h | h); cases h; exact h.1 hm)] at hf
            have HL := Lib.hid hf
            clear hf hm hD hKn
            cases cse
            · have HV : Hid (R = (⟨cn, cv, cd, cp, cho, false, chi, cex, ccr⟩, 0)) := by rw [← HL.out, if_neg (by simp)]; exact rfl
              clear HL
              go_wp2_with (first
                | (go_at_call 14; with_reducible refine (CDm.out _).mono ?_; rintro x w8 ⟨rfl, hb8⟩; have hB8 := hB7.trans (hb8.mono hB7.size); have R8 := R7.next hb8; have r0 := R8.c 0 rfl; have r1 := R8.c 1 rfl; have r2 := R8.c 2 rfl; have r3 := R8.c 3 rfl; have r4 := R8.c 4 rfl; have r5 := R8.c 5 rfl; have r6 := R8.c 6 rfl; have r7 := R8.c 7 rfl; have r8 := R8.c 8 rfl; have q0 := R8.f 0 rfl; have q1 := R8.f 1 rfl; have q2 := R8.f 2 rfl; have q3 := R8.f 3 rfl; have q4 := R8.f 4 rfl; have q5 := R8.f 5 rfl; have q6 := R8.f 6 rfl; have q7 := R8.f 7 rfl; have q8 := R8.f 8 rfl; have hk8 := R8.lt; have K8 := AK7.next hb8; have z0 := K8.c 0 rfl; have z1 := K8.c 1 rfl; have z2 := K8.c 2 rfl; have z3 := K8.c 3 rfl; have z4 := K8.c 4 rfl; have z5 := K8.c 5 rfl; have z6 := K8.c 6 rfl; have z7 := K8.c 7 rfl; have z8 := K8.c 8 rfl; have hk9 := K8.lt; have A8 := A7.next hb8; have v0 := A8.c 0 rfl; have v1 := A8.c 1 rfl)
                | (go_at_call 43; with_reducible refine (CKn.out _).mono ?_; rintro x w9 ⟨rfl, rfl⟩))
              exact bodyPost_ret (ret9_run Tryz.results12 Tryz.sizeOf29 Tryz.isAgg29 _ _ _ _ _ _ _ _ _ _ _ _ _ rfl rfl (R8.set9 rfl _ _ _ _ _ _ _ _ _)) rfl ⟨by rw [HV.out]; exact rfl, below_set9 hB8 (Nat.le_succ _) _ _ _ _ _ _ _ _ _⟩
            · by_cases hsc : a.data.toList = httpsL
              · have HV : Hid (R = (⟨cn, cv, cd, cp, cho, true, chi, cex, ccr⟩, 0)) := by rw [← HL.out, if_neg (by simp [hsc])]; exact rfl
                have hs2 : a.toList = [104, 116, 116, 112, 115] := by rw [ByteArray.toList_eq]; exact hsc
                clear HL hsc
                go_wp2_with (first
                  | (go_at_call 14; with_reducible refine (CDm.out _).mono ?_; rintro x w8 ⟨rfl, hb8⟩; have hB8 := hB7.trans (hb8.mono hB7.size); have R8 := R7.next hb8; have r0 := R8.c 0 rfl; have r1 := R8.c 1 rfl; have r2 := R8.c 2 rfl; have r3 := R8.c 3 rfl; have r4 := R8.c 4 rfl; have r5 := R8.c 5 rfl; have r6 := R8.c 6 rfl; have r7 := R8.c 7 rfl; have r8 := R8.c 8 rfl; have q0 := R8.f 0 rfl; have q1 := R8.f 1 rfl; have q2 := R8.f 2 rfl; have q3 := R8.f 3 rfl; have q4 := R8.f 4 rfl; have q5 := R8.f 5 rfl; have q6 := R8.f 6 rfl; have q7 := R8.f 7 rfl; have q8 := R8.f 8 rfl; have hk8 := R8.lt; have K8 := AK7.next hb8; have z0 := K8.c 0 rfl; have z1 := K8.c 1 rfl; have z2 := K8.c 2 rfl; have z3 := K8.c 3 rfl; have z4 := K8.c 4 rfl; have z5 := K8.c 5 rfl; have z6 := K8.c 6 rfl; have z7 := K8.c 7 rfl; have z8 := K8.c 8 rfl; have hk9 := K8.lt; have A8 := A7.next hb8; have v0 := A8.c 0 rfl; have v1 := A8.c 1 rfl)
                  | (go_at_call 43; with_reducible refine (CKn.out _).mono ?_; rintro x w9 ⟨rfl, rfl⟩))
                exact bodyPost_ret (ret9_run Tryz.results12 Tryz.sizeOf29 Tryz.isAgg29 _ _ _ _ _ _ _ _ _ _ _ _ _ rfl rfl (R8.set9 rfl _ _ _ _ _ _ _ _ _)) rfl ⟨by rw [HV.out]; exact rfl, below_set9 hB8 (Nat.le_succ _) _ _ _ _ _ _ _ _ _⟩
              · have HV : Hid (R = (ck0, 7)) := by rw [← HL.out, if_pos ⟨rfl, hsc⟩]; exact rfl
                have hs2 : ¬ a.toList = [104, 116, 116, 112, 115] := by rw [ByteArray.toList_eq]; exact hsc
                have hs3 : (a.toList == [104, 116, 116, 112, 115]) = false := beq_eq_false_iff_ne.2 hs2
                clear HL hsc
                go_wp2_with (first
                  | (go_at_call 14; with_reducible refine (CDm.out _).mono ?_; rintro x w8 ⟨rfl, hb8⟩; have hB8 := hB7.trans (hb8.mono hB7.size); have R8 := R7.next hb8; have r0 := R8.c 0 rfl; have r1 := R8.c 1 rfl; have r2 := R8.c 2 rfl; have r3 := R8.c 3 rfl; have r4 := R8.c 4 rfl; have r5 := R8.c 5 rfl; have r6 := R8.c 6 rfl; have r7 := R8.c 7 rfl; have r8 := R8.c 8 rfl; have q0 := R8.f 0 rfl; have q1 := R8.f 1 rfl; have q2 := R8.f 2 rfl; have q3 := R8.f 3 rfl; have q4 := R8.f 4 rfl; have q5 := R8.f 5 rfl; have q6 := R8.f 6 rfl; have q7 := R8.f 7 rfl; have q8 := R8.f 8 rfl; have hk8 := R8.lt; have K8 := AK7.next hb8; have z0 := K8.c 0 rfl; have z1 := K8.c 1 rfl; have z2 := K8.c 2 rfl; have z3 := K8.c 3 rfl; have z4 := K8.c 4 rfl; have z5 := K8.c 5 rfl; have z6 := K8.c 6 rfl; have z7 := K8.c 7 rfl; have z8 := K8.c 8 rfl; have hk9 := K8.lt; have A8 := A7.next hb8; have v0 := A8.c 0 rfl; have v1 := A8.c 1 rfl)
                  | (go_at_call 43; with_reducible refine (CKn.out _).mono ?_; rintro x w9 ⟨rfl, rfl⟩))
                exact bodyPost_ret (ret9_run Tryz.results12 Tryz.sizeOf29 Tryz.isAgg29 _ _ _ _ _ _ _ _ _ _ _ _ _ rfl rfl (R8.set9 rfl _ _ _ _ _ _ _ _ _)) rfl ⟨by rw [HV.out]; exact rfl, below_set9 hB8 (Nat.le_succ _) _ _ _ _ _ _ _ _ _⟩
          · have hm1 : ¬ cd.toList = b.toList := by rw [ByteArray.toList_eq, ByteArray.toList_eq]; exact hm
            have hm2 : (cd.toList == b.toList) = false := beq_eq_false_iff_ne.2 hm1
            cases Kn
            · have HV : Hid (R = (ck0, 15)) := by rw [← hf, if_pos (Or.inr ⟨hm, rfl⟩)]; exact rfl
              clear hf hm hD hKn
              go_wp2_with (first
                | (go_at_call 14; with_reducible refine (CDm.out _).mono ?_; rintro x w8 ⟨rfl, hb8⟩; have hB8 := hB7.trans (hb8.mono hB7.size); have R8 := R7.next hb8; have r0 := R8.c 0 rfl; have r1 := R8.c 1 rfl; have r2 := R8.c 2 rfl; have r3 := R8.c 3 rfl; have r4 := R8.c 4 rfl; have r5 := R8.c 5 rfl; have r6 := R8.c 6 rfl; have r7 := R8.c 7 rfl; have r8 := R8.c 8 rfl; have q0 := R8.f 0 rfl; have q1 := R8.f 1 rfl; have q2 := R8.f 2 rfl; have q3 := R8.f 3 rfl; have q4 := R8.f 4 rfl; have q5 := R8.f 5 rfl; have q6 := R8.f 6 rfl; have q7 := R8.f 7 rfl; have q8 := R8.f 8 rfl; have hk8 := R8.lt; have K8 := AK7.next hb8; have z0 := K8.c 0 rfl; have z1 := K8.c 1 rfl; have z2 := K8.c 2 rfl; have z3 := K8.c 3 rfl; have z4 := K8.c 4 rfl; have z5 := K8.c 5 rfl; have z6 := K8.c 6 rfl; have z7 := K8.c 7 rfl; have z8 := K8.c 8 rfl; have hk9 := K8.lt; have A8 := A7.next hb8; have v0 := A8.c 0 rfl; have v1 := A8.c 1 rfl)
                | (go_at_call 43; with_reducible refine (CKn.out _).mono ?_; rintro x w9 ⟨rfl, rfl⟩))
              exact bodyPost_ret (ret9_run Tryz.results12 Tryz.sizeOf29 Tryz.isAgg29 _ _ _ _ _ _ _ _ _ _ _ _ _ rfl rfl (R8.set9 rfl _ _ _ _ _ _ _ _ _)) rfl ⟨by rw [HV.out]; exact rfl, below_set9 hB8 (Nat.le_succ _) _ _ _ _ _ _ _ _ _⟩
            · rw [if_neg (by rintro (h | h); cases h; cases h.2)] at hf
              have HL := Lib.hid hf
              clear hf hm hD hKn
              cases cse
              · have HV : Hid (R = (⟨cn, cv, cd, cp, cho, false, chi, cex, ccr⟩, 0)) := by rw [← HL.out, if_neg (by simp)]; exact rfl
                clear HL
                go_wp2_with (first
                  | (go_at_call 14; with_reducible refine (CDm.out _).mono ?_; rintro x w8 ⟨rfl, hb8⟩; have hB8 := hB7.trans (hb8.mono hB7.size); have R8 := R7.next hb8; have r0 := R8.c 0 rfl; have r1 := R8.c 1 rfl; have r2 := R8.c 2 rfl; have r3 := R8.c 3 rfl; have r4 := R8.c 4 rfl; have r5 := R8.c 5 rfl; have r6 := R8.c 6 rfl; have r7 := R8.c 7 rfl; have r8 := R8.c 8 rfl; have q0 := R8.f 0 rfl; have q1 := R8.f 1 rfl; have q2 := R8.f 2 rfl; have q3 := R8.f 3 rfl; have q4 := R8.f 4 rfl; have q5 := R8.f 5 rfl; have q6 := R8.f 6 rfl; have q7 := R8.f 7 rfl; have q8 := R8.f 8 rfl; have hk8 := R8.lt; have K8 := AK7.next hb8; have z0 := K8.c 0 rfl; have z1 := K8.c 1 rfl; have z2 := K8.c 2 rfl; have z3 := K8.c 3 rfl; have z4 := K8.c 4 rfl; have z5 := K8.c 5 rfl; have z6 := K8.c 6 rfl; have z7 := K8.c 7 rfl; have z8 := K8.c 8 rfl; have hk9 := K8.lt; have A8 := A7.next hb8; have v0 := A8.c 0 rfl; have v1 := A8.c 1 rfl)
                  | (go_at_call 43; with_reducible refine (CKn.out _).mono ?_; rintro x w9 ⟨rfl, rfl⟩))
                exact bodyPost_ret (ret9_run Tryz.results12 Tryz.sizeOf29 Tryz.isAgg29 _ _ _ _ _ _ _ _ _ _ _ _ _ rfl rfl (R8.set9 rfl _ _ _ _ _ _ _ _ _)) rfl ⟨by rw [HV.out]; exact rfl, below_set9 hB8 (Nat.le_succ _) _ _ _ _ _ _ _ _ _⟩
              · by_cases hsc : a.data.toList = httpsL
                · have HV : Hid (R = (⟨cn, cv, cd, cp, cho, true, chi, cex, ccr⟩, 0)) := by rw [← HL.out, if_neg (by simp [hsc])]; exact rfl
                  have hs2 : a.toList = [104, 116, 116, 112, 115] := by rw [ByteArray.toList_eq]; exact hsc
                  clear HL hsc
                  go_wp2_with (first
                    | (go_at_call 14; with_reducible refine (CDm.out _).mono ?_; rintro x w8 ⟨rfl, hb8⟩; have hB8 := hB7.trans (hb8.mono hB7.size); have R8 := R7.next hb8; have r0 := R8.c 0 rfl; have r1 := R8.c 1 rfl; have r2 := R8.c 2 rfl; have r3 := R8.c 3 rfl; have r4 := R8.c 4 rfl; have r5 := R8.c 5 rfl; have r6 := R8.c 6 rfl; have r7 := R8.c 7 rfl; have r8 := R8.c 8 rfl; have q0 := R8.f 0 rfl; have q1 := R8.f 1 rfl; have q2 := R8.f 2 rfl; have q3 := R8.f 3 rfl; have q4 := R8.f 4 rfl; have q5 := R8.f 5 rfl; have q6 := R8.f 6 rfl; have q7 := R8.f 7 rfl; have q8 := R8.f 8 rfl; have hk8 := R8.lt; have K8 := AK7.next hb8; have z0 := K8.c 0 rfl; have z1 := K8.c 1 rfl; have z2 := K8.c 2 rfl; have z3 := K8.c 3 rfl; have z4 := K8.c 4 rfl; have z5 := K8.c 5 rfl; have z6 := K8.c 6 rfl; have z7 := K8.c 7 rfl; have z8 := K8.c 8 rfl; have hk9 := K8.lt; have A8 := A7.next hb8; have v0 := A8.c 0 rfl; have v1 := A8.c 1 rfl)
                    | (go_at_call 43; with_reducible refine (CKn.out _).mono ?_; rintro x w9 ⟨rfl, rfl⟩))
                  exact bodyPost_ret (ret9_run Tryz.results12 Tryz.sizeOf29 Tryz.isAgg29 _ _ _ _ _ _ _ _ _ _ _ _ _ rfl rfl (R8.set9 rfl _ _ _ _ _ _ _ _ _)) rfl ⟨by rw [HV.out]; exact rfl, below_set9 hB8 (Nat.le_succ _) _ _ _ _ _ _ _ _ _⟩
                · have HV : Hid (R = (ck0, 7)) := by rw [← HL.out, if_pos ⟨rfl, hsc⟩]; exact rfl
                  have hs2 : ¬ a.toList = [104, 116, 116, 112, 115] := by rw [ByteArray.toList_eq]; exact hsc
                  have hs3 : (a.toList == [104, 116, 116, 112, 115]) = false := beq_eq_false_iff_ne.2 hs2
                  clear HL hsc
                  go_wp2_with (first
                    | (go_at_call 14; with_reducible refine (CDm.out _).mono ?_; rintro x w8 ⟨rfl, hb8⟩; have hB8 := hB7.trans (hb8.mono hB7.size); have R8 := R7.next hb8; have r0 := R8.c 0 rfl; have r1 := R8.c 1 rfl; have r2 := R8.c 2 rfl; have r3 := R8.c 3 rfl; have r4 := R8.c 4 rfl; have r5 := R8.c 5 rfl; have r6 := R8.c 6 rfl; have r7 := R8.c 7 rfl; have r8 := R8.c 8 rfl; have q0 := R8.f 0 rfl; have q1 := R8.f 1 rfl; have q2 := R8.f 2 rfl; have q3 := R8.f 3 rfl; have q4 := R8.f 4 rfl; have q5 := R8.f 5 rfl; have q6 := R8.f 6 rfl; have q7 := R8.f 7 rfl; have q8 := R8.f 8 rfl; have hk8 := R8.lt; have K8 := AK7.next hb8; have z0 := K8.c 0 rfl; have z1 := K8.c 1 rfl; have z2 := K8.c 2 rfl; have z3 := K8.c 3 rfl; have z4 := K8.c 4 rfl; have z5 := K8.c 5 rfl; have z6 := K8.c 6 rfl; have z7 := K8.c 7 rfl; have z8 := K8.c 8 rfl; have hk9 := K8.lt; have A8 := A7.next hb8; have v0 := A8.c 0 rfl; have v1 := A8.c 1 rfl)
                    | (go_at_call 43; with_reducible refine (CKn.out _).mono ?_; rintro x w9 ⟨rfl, rfl⟩))
                  exact bodyPost_ret (ret9_run Tryz.results12 Tryz.sizeOf29 Tryz.isAgg29 _ _ _ _ _ _ _ _ _ _ _ _ _ rfl rfl (R8.set9 rfl _ _ _ _ _ _ _ _ _)) rfl ⟨by rw [HV.out]; exact rfl, below_set9 hB8 (Nat.le_succ _) _ _ _ _ _ _ _ _ _⟩
end Go.Proofs.YtgjooigolgdocaaGreatDoor

/- Cookies: the walk of cookie.Parse, whole. -/
namespace Go.Proofs.YtgjooigolgdocaaGreatDoor
set_option linter.unusedVariables false
set_option linter.unusedSimpArgs false
open Go.RowKit

set_option maxRecDepth 20000 in
set_option maxHeartbeats 4000000 in
theorem cparse_one (s a b c d e f : ByteArray) (now : Int) (w : World) (hs : s.size ≤ 100000) (hz : USize 40000 a b c d e f) (hM : MaxAt w) (hT : takesB (u6 a b c d e f) = true)
    (q0 : ByteArray) (qs : List ByteArray) (hq : lists (q0 :: qs) = segs 59 s.data.toList) (hne : qs = [])
    (CSp : Hid (∀ w, MaxAt w → Calls Tryz.prog 35 #[.string s, .string ⟨#[59]⟩] w fun e w' => e = .returned (.slice (some ⟨w.heap.size, 0, none⟩) (q0 :: qs).length (q0 :: qs).length) ∧ Below w.heap.size w w' ∧ w.heap.size < w'.heap.size ∧ w'.cell? ⟨w.heap.size, 0, none⟩ = some (.string q0) ∧ ∀ j (h : j < qs.length), w'.cell? ⟨w.heap.size, 1 + j, none⟩ = some (.string qs[j])))
    (hg1 : q0.data.toList.contains 61 = true) (hg2 : trimC (pre 61 q0.data.toList) ≠ []) (hg3 : ctlL s.data.toList = false)
    (R : Ck × Int) (hR : lastC b.data.toList a.data.toList ((lists qs).foldl (stepC b (bs (defpL d.data.toList)) now) (firstC b (bs (defpL d.data.toList)) q0.data.toList)) = R) :
    Calls Tryz.prog 12 #[.string s, urlA a b c d e f, .int .i64 now] w fun x w' => x = .returned (resC R) ∧ Below w.heap.size w w' := by
  subst hne
  have CT := Lib.hid (fun w hM => takes_is a b c d e f true hT w hz hM)
  have hsz := segs_sizes hq
  have hq0 := hsz.2 q0 (by simp)
  obtain ⟨N, hN⟩ : ∃ N : ByteArray, N = bs (trimC (pre 61 q0.data.toList)) := ⟨bs _, rfl⟩
  obtain ⟨V, hV⟩ : ∃ V : ByteArray, V = bs (trimC (post 61 q0.data.toList)) := ⟨bs _, rfl⟩
  have CP := Lib.hid (fun w hM => pair_is q0 N V true w (by omega) hM (by rw [hN]; rfl) (by rw [hV]; rfl) hg1)
  have CK := Lib.hid (fun w => control_is s false hg3 w)
  have hNE : N.toList.isEmpty = false := by
    rw [hN, trimC_nil_bs]; exact decide_eq_false hg2
  obtain ⟨dp, hdp⟩ : ∃ dp, bs (defpL d.data.toList) = dp := ⟨_, rfl⟩
  have cD := fun w => defp_is d w (by have := hz.d; omega)
  rw [hdp] at cD hR
  have CD := Lib.hid cD
  have hF : firstC b dp q0.data.toList = ⟨N, V, b, dp, true, false, false, -1, 0⟩ := by rw [hN, hV]; rfl
  rw [hF] at hR
  have HR := Lib.hid hR
  have A0 := AtL.new w (urlL a b c d e f) 23
  have A1 := A0.alloc (.cells #[.string ⟨#[]⟩, .string ⟨#[]⟩, .string ⟨#[]⟩, .string ⟨#[]⟩, .bool false, .bool false, .bool false, .int .i64 0, .int .i64 0] 29)
  have R1 := AtL.new (w.alloc (.cells #[.string a, .string b, .string c, .string d, .string e, .string f] 23)) ck0V 29
  have hB1 : Below w.heap.size w ((w.alloc (.cells #[.string a, .string b, .string c, .string d, .string e, .string f] 23)).alloc (.cells #[.string ⟨#[]⟩, .string ⟨#[]⟩, .string ⟨#[]⟩, .string ⟨#[]⟩, .bool false, .bool false, .bool false, .int .i64 0, .int .i64 0] 29)) := ((Below.refl _ w).alloc (Nat.le_refl _) _).alloc (by simp) _
  have hM1 := hM.below hB1 (Nat.le_refl _)
  have hk1 : w.heap.size < ((w.alloc (.cells #[.string a, .string b, .string c, .string d, .string e, .string f] 23)).alloc (.cells #[.string ⟨#[]⟩, .string ⟨#[]⟩, .string ⟨#[]⟩, .string ⟨#[]⟩, .bool false, .bool false, .bool false, .int .i64 0, .int .i64 0] 29)).heap.size := (by simp; omega)
  rw [show (w.alloc (.cells #[.string a, .string b, .string c, .string d, .string e, .string f] 23)).heap.size = w.heap.size + 1 by simp] at R1
  clear hT hM hN hV hg1 hg2 hg3 hq hq0 hdp hF hR hsz cD
  go_enter Tryz.func12, Tryz.ntmps12
  go_upto_region 7 with (first
    | (go_at_call 34; with_reducible refine (CT.out _ hM1).mono ?_; rintro x w1 ⟨rfl, hb1⟩; have hB2 := hB1.trans (hb1.mono hB1.size); have R2 := R1.next hb1; have A2 := A1.next hb1; have hM2 := hM1.below hb1 (Nat.le_refl _))
    | (go_at_call 35; with_reducible refine (CSp.out _ hM2).mono ?_; rintro x w2 ⟨rfl, hb2, hg2, hp0, hps⟩; have hB3 := hB2.trans (hb2.mono hB2.size); have R3 := R2.next hb2; have A3 := A2.next hb2; have hM3 := hM2.below hb2 (Nat.le_refl _); have HPS := Lib.hid hps; clear hps)
    | (go_at_call 36; with_reducible refine (CP.out _ hM3).mono ?_; rintro x w3 ⟨rfl, hb3⟩; have hB4 := hB3.trans (hb3.mono hB3.size); have R4 := R3.next hb3; have A4 := A3.next hb3; have hM4 := hM3.below hb3 (Nat.le_refl _))
    | (go_at_call 37; with_reducible refine (CK.out _).mono ?_; rintro x w4 ⟨rfl, hb4⟩; have hB5 := hB4.trans (hb4.mono hB4.size); have R5 := R4.next hb4; have A5 := A4.next hb4; have hM5 := hM4.below hb4 (Nat.le_refl _); have u1 := A5.c 1 rfl; have u3 := A5.c 3 rfl))
  have hz4 : w4.heap.size = w4.heap.size := rfl
  go_cut [12] (fun p12 wx => ∃ K, p12 = .pointer (some ⟨K, 0, none⟩) ∧ w4.heap.size ≤ K ∧ AtL wx K (ckL ⟨N, V, b, dp, true, false, false, -1, 0⟩) ∧ Below w4.heap.size w4 wx)
  case first =>
    clear HPS A0 A1 A2 A3 A4 R1 R2 R3 R4
    go_region_held3 (fun w' => w'.cell? ⟨w.heap.size, 1, none⟩ = some (.string b) ∧ w'.cell? ⟨w.heap.size, 3, none⟩ = some (.string d)) (go_keep) (first | (go_at_call 18; with_reducible refine (CD.out _).mono ?_; rintro x w5 ⟨rfl, rfl⟩))
    all_goals
      go_wp2_with fail
      go_meet
      exact ⟨w4.heap.size, rfl, Nat.le_refl _, (AtL.new w4 (ckL ⟨N, V, b, dp, true, false, false, -1, 0⟩) 29).drew, ((Below.refl _ w4).alloc (Nat.le_refl _) _).drew⟩
  case rest =>
    obtain ⟨K, rfl, hK, AK, hBK⟩ := hcut
    have A6 := A5.below hBK A5.lt
    have R6 := R5.below hBK R5.lt
    have hM6 := hM5.below hBK (Nat.le_refl _)
    have hB6 := hB5.trans (hBK.mono hB5.size)
    have hUK : w.heap.size < K := Nat.lt_of_lt_of_le A5.lt hK
    have hRK : w.heap.size + 1 < K := Nat.lt_of_lt_of_le R5.lt hK
    clear A0 A1 A2 A3 A4 A5 R1 R2 R3 R4 R5 hM1 hM2 hM3 hM4 hb1 hb2 hb3 hb4 HPS CT CSp CP CK u1 u3 hp0 hB1 hB2 hB3 hB4 hz4
    have hf : lastC b.data.toList a.data.toList ⟨N, V, b, dp, true, false, false, -1, 0⟩ = R := HR.out
    obtain ⟨c, hc⟩ : ∃ c : Ck, c = ⟨N, V, b, dp, true, false, false, -1, 0⟩ := ⟨_, rfl⟩
    rw [← hc] at AK hf
    have hcd : c.d.size ≤ 200000 := by rw [hc]; have := hz.b; show b.size ≤ _; omega
    have AK7 := AK
    have A7 := A6
    have R7 := R6
    have hB7 := hB6
    clear hc HR AK A6 R6 hB6 CD
    go_wp2_with fail
    refine wp_loop_rounds 1 ?_
    rw [rounds_succ]
    obtain ⟨cn, cv, cd, cp, cho, cse, chi, cex, ccr⟩ := c
    have hcd : cd.size ≤ 200000 := hcd
    obtain ⟨D, hD⟩ : ∃ D, domL b.data.toList cd.data.toList = D := ⟨_, rfl⟩
    have CDm := Lib.hid (fun w => domi_is b cd D hD w (by have := hz.b; omega) (by omega))
    obtain ⟨Kn, hKn⟩ : ∃ Kn, cd.data.toList.contains 46 = Kn := ⟨_, rfl⟩
    have CKn := Lib.hid (fun w => contains_is cd 46 Kn hKn w)
    unfold lastC at hf
    rw [hD, hKn] at hf
    have z0 := AK7.c 0 rfl; have z1 := AK7.c 1 rfl; have z2 := AK7.c 2 rfl; have z3 := AK7.c 3 rfl; have z4 := AK7.c 4 rfl; have z5 := AK7.c 5 rfl; have z6 := AK7.c 6 rfl; have z7 := AK7.c 7 rfl; have z8 := AK7.c 8 rfl
    have u0 := A7.c 0 rfl
    have u1 := A7.c 1 rfl
    cases D
    · have HV : Hid (R = (ck0, 15)) := by rw [← hf, if_pos (Or.inl rfl)]; exact rfl
      clear hf hD hKn
      go_wp2_with (first
        | (go_at_call 14; with_reducible refine (CDm.out _).mono ?_; rintro x w8 ⟨rfl, hb8⟩; have hB8 := hB7.trans (hb8.mono hB7.size); have R8 := R7.next hb8; have r0 := R8.c 0 rfl; have r1 := R8.c 1 rfl; have r2 := R8.c 2 rfl; have r3 := R8.c 3 rfl; have r4 := R8.c 4 rfl; have r5 := R8.c 5 rfl; have r6 := R8.c 6 rfl; have r7 := R8.c 7 rfl; have r8 := R8.c 8 rfl; have q0 := R8.f 0 rfl; have q1 := R8.f 1 rfl; have q2 := R8.f 2 rfl; have q3 := R8.f 3 rfl; have q4 := R8.f 4 rfl; have q5 := R8.f 5 rfl; have q6 := R8.f 6 rfl; have q7 := R8.f 7 rfl; have q8 := R8.f 8 rfl; have hk8 := R8.lt; have K8 := AK7.next hb8; have z0 := K8.c 0 rfl; have z1 := K8.c 1 rfl; have z2 := K8.c 2 rfl; have z3 := K8.c 3 rfl; have z4 := K8.c 4 rfl; have z5 := K8.c 5 rfl; have z6 := K8.c 6 rfl; have z7 := K8.c 7 rfl; have z8 := K8.c 8 rfl; have hk9 := K8.lt; have A8 := A7.next hb8; have v0 := A8.c 0 rfl; have v1 := A8.c 1 rfl)
        | (go_at_call 43; with_reducible refine (CKn.out _).mono ?_; rintro x w9 ⟨rfl, rfl⟩))
      exact bodyPost_ret (ret9_run Tryz.results12 Tryz.sizeOf29 Tryz.isAgg29 _ _ _ _ _ _ _ _ _ _ _ _ _ rfl rfl (R8.set9 rfl _ _ _ _ _ _ _ _ _)) rfl ⟨by rw [HV.out]; exact rfl, below_set9 hB8 (Nat.le_succ _) _ _ _ _ _ _ _ _ _⟩
    · by_cases hm : cd.data.toList = b.data.toList
      · obtain rfl : cd = b := ba_ext' hm
        rw [if_neg (by rintro (h | h); cases h; exact h.1 hm)] at hf
        have HL := Lib.hid hf
        clear hf hm hD hKn
        cases cse
        · have HV : Hid (R = (⟨cn, cv, cd, cp, cho, false, chi, cex, ccr⟩, 0)) := by rw [← HL.out, if_neg (by simp)]; exact rfl
          clear HL
          go_wp2_with (first
            | (go_at_call 14; with_reducible refine (CDm.out _).mono ?_; rintro x w8 ⟨rfl, hb8⟩; have hB8 := hB7.trans (hb8.mono hB7.size); have R8 := R7.next hb8; have r0 := R8.c 0 rfl; have r1 := R8.c 1 rfl; have r2 := R8.c 2 rfl; have r3 := R8.c 3 rfl; have r4 := R8.c 4 rfl; have r5 := R8.c 5 rfl; have r6 := R8.c 6 rfl; have r7 := R8.c 7 rfl; have r8 := R8.c 8 rfl; have q0 := R8.f 0 rfl; have q1 := R8.f 1 rfl; have q2 := R8.f 2 rfl; have q3 := R8.f 3 rfl; have q4 := R8.f 4 rfl; have q5 := R8.f 5 rfl; have q6 := R8.f 6 rfl; have q7 := R8.f 7 rfl; have q8 := R8.f 8 rfl; have hk8 := R8.lt; have K8 := AK7.next hb8; have z0 := K8.c 0 rfl; have z1 := K8.c 1 rfl; have z2 := K8.c 2 rfl; have z3 := K8.c 3 rfl; have z4 := K8.c 4 rfl; have z5 := K8.c 5 rfl; have z6 := K8.c 6 rfl; have z7 := K8.c 7 rfl; have z8 := K8.c 8 rfl; have hk9 := K8.lt; have A8 := A7.next hb8; have v0 := A8.c 0 rfl; have v1 := A8.c 1 rfl)
            | (go_at_call 43; with_reducible refine (CKn.out _).mono ?_; rintro x w9 ⟨rfl, rfl⟩))
          exact bodyPost_ret (ret9_run Tryz.results12 Tryz.sizeOf29 Tryz.isAgg29 _ _ _ _ _ _ _ _ _ _ _ _ _ rfl rfl (R8.set9 rfl _ _ _ _ _ _ _ _ _)) rfl ⟨by rw [HV.out]; exact rfl, below_set9 hB8 (Nat.le_succ _) _ _ _ _ _ _ _ _ _⟩
        · by_cases hsc : a.data.toList = httpsL
          · have HV : Hid (R = (⟨cn, cv, cd, cp, cho, true, chi, cex, ccr⟩, 0)) := by rw [← HL.out, if_neg (by simp [hsc])]; exact rfl
            have hs2 : a.toList = [104, 116, 116, 112, 115] := by rw [ByteArray.toList_eq]; exact hsc
            clear HL hsc
            go_wp2_with (first
              | (go_at_call 14; with_reducible refine (CDm.out _).mono ?_; rintro x w8 ⟨rfl, hb8⟩; have hB8 := hB7.trans (hb8.mono hB7.size); have R8 := R7.next hb8; have r0 := R8.c 0 rfl; have r1 := R8.c 1 rfl; have r2 := R8.c 2 rfl; have r3 := R8.c 3 rfl; have r4 := R8.c 4 rfl; have r5 := R8.c 5 rfl; have r6 := R8.c 6 rfl; have r7 := R8.c 7 rfl; have r8 := R8.c 8 rfl; have q0 := R8.f 0 rfl; have q1 := R8.f 1 rfl; have q2 := R8.f 2 rfl; have q3 := R8.f 3 rfl; have q4 := R8.f 4 rfl; have q5 := R8.f 5 rfl; have q6 := R8.f 6 rfl; have q7 := R8.f 7 rfl; have q8 := R8.f 8 rfl; have hk8 := R8.lt; have K8 := AK7.next hb8; have z0 := K8.c 0 rfl; have z1 := K8.c 1 rfl; have z2 := K8.c 2 rfl; have z3 := K8.c 3 rfl; have z4 := K8.c 4 rfl; have z5 := K8.c 5 rfl; have z6 := K8.c 6 rfl; have z7 := K8.c 7 rfl; have z8 := K8.c 8 rfl; have hk9 := K8.lt; have A8 := A7.next hb8; have v0 := A8.c 0 rfl; have v1 := A8.c 1 rfl)
              | (go_at_call 43; with_reducible refine (CKn.out _).mono ?_; rintro x w9 ⟨rfl, rfl⟩))
            exact bodyPost_ret (ret9_run Tryz.results12 Tryz.sizeOf29 Tryz.isAgg29 _ _ _ _ _ _ _ _ _ _ _ _ _ rfl rfl (R8.set9 rfl _ _ _ _ _ _ _ _ _)) rfl ⟨by rw [HV.out]; exact rfl, below_set9 hB8 (Nat.le_succ _) _ _ _ _ _ _ _ _ _⟩
          · have HV : Hid (R = (ck0, 7)) := by rw [← HL.out, if_pos ⟨rfl, hsc⟩]; exact rfl
            have hs2 : ¬ a.toList = [104, 116, 116, 112, 115] := by rw [ByteArray.toList_eq]; exact hsc
            have hs3 : (a.toList == [104, 116, 116, 112, 115]) = false := beq_eq_false_iff_ne.2 hs2
            clear HL hsc
            go_wp2_with (first
              | (go_at_call 14; with_reducible refine (CDm.out _).mono ?_; rintro x w8 ⟨rfl, hb8⟩; have hB8 := hB7.trans (hb8.mono hB7.size); have R8 := R7.next hb8; have r0 := R8.c 0 rfl; have r1 := R8.c 1 rfl; have r2 := R8.c 2 rfl; have r3 := R8.c 3 rfl; have r4 := R8.c 4 rfl; have r5 := R8.c 5 rfl; have r6 := R8.c 6 rfl; have r7 := R8.c 7 rfl; have r8 := R8.c 8 rfl; have q0 := R8.f 0 rfl; have q1 := R8.f 1 rfl; have q2 := R8.f 2 rfl; have q3 := R8.f 3 rfl; have q4 := R8.f 4 rfl; have q5 := R8.f 5 rfl; have q6 := R8.f 6 rfl; have q7 := R8.f 7 rfl; have q8 := R8.f 8 rfl; have hk8 := R8.lt; have K8 := AK7.next hb8; have z0 := K8.c 0 rfl; have z1 := K8.c 1 rfl; have z2 := K8.c 2 rfl; have z3 := K8.c 3 rfl; have z4 := K8.c 4 rfl; have z5 := K8.c 5 rfl; have z6 := K8.c 6 rfl; have z7 := K8.c 7 rfl; have z8 := K8.c 8 rfl; have hk9 := K8.lt; have A8 := A7.next hb8; have v0 := A8.c 0 rfl; have v1 := A8.c 1 rfl)
              | (go_at_call 43; with_reducible refine (CKn.out _).mono ?_; rintro x w9 ⟨rfl, rfl⟩))
            exact bodyPost_ret (ret9_run Tryz.results12 Tryz.sizeOf29 Tryz.isAgg29 _ _ _ _ _ _ _ _ _ _ _ _ _ rfl rfl (R8.set9 rfl _ _ _ _ _ _ _ _ _)) rfl ⟨by rw [HV.out]; exact rfl, below_set9 hB8 (Nat.le_succ _) _ _ _ _ _ _ _ _ _⟩
      · have hm1 : ¬ cd.toList = b.toList := by rw [ByteArray.toList_eq, ByteArray.toList_eq]; exact hm
        have hm2 : (cd.toList == b.toList) = false := beq_eq_false_iff_ne.2 hm1
        cases Kn
        · have HV : Hid (R = (ck0, 15)) := by rw [← hf, if_pos (Or.inr ⟨hm, rfl⟩)]; exact rfl
          clear hf hm hD hKn
          go_wp2_with (first
            | (go_at_call 14; with_reducible refine (CDm.out _).mono ?_; rintro x w8 ⟨rfl, hb8⟩; have hB8 := hB7.trans (hb8.mono hB7.size); have R8 := R7.next hb8; have r0 := R8.c 0 rfl; have r1 := R8.c 1 rfl; have r2 := R8.c 2 rfl; have r3 := R8.c 3 rfl; have r4 := R8.c 4 rfl; have r5 := R8.c 5 rfl; have r6 := R8.c 6 rfl; have r7 := R8.c 7 rfl; have r8 := R8.c 8 rfl; have q0 := R8.f 0 rfl; have q1 := R8.f 1 rfl; have q2 := R8.f 2 rfl; have q3 := R8.f 3 rfl; have q4 := R8.f 4 rfl; have q5 := R8.f 5 rfl; have q6 := R8.f 6 rfl; have q7 := R8.f 7 rfl; have q8 := R8.f 8 rfl; have hk8 := R8.lt; have K8 := AK7.next hb8; have z0 := K8.c 0 rfl; have z1 := K8.c 1 rfl; have z2 := K8.c 2 rfl; have z3 := K8.c 3 rfl; have z4 := K8.c 4 rfl; have z5 := K8.c 5 rfl; have z6 := K8.c 6 rfl; have z7 := K8.c 7 rfl; have z8 := K8.c 8 rfl; have hk9 := K8.lt; have A8 := A7.next hb8; have v0 := A8.c 0 rfl; have v1 := A8.c 1 rfl)
            | (go_at_call 43; with_reducible refine (CKn.out _).mono ?_; rintro x w9 ⟨rfl, rfl⟩))
          exact bodyPost_ret (ret9_run Tryz.results12 Tryz.sizeOf29 Tryz.isAgg29 _ _ _ _ _ _ _ _ _ _ _ _ _ rfl rfl (R8.set9 rfl _ _ _ _ _ _ _ _ _)) rfl ⟨by rw [HV.out]; exact rfl, below_set9 hB8 (Nat.le_succ _) _ _ _ _ _ _ _ _ _⟩
        · rw [if_neg (by rintro (h | h); cases h; cases h.2)] at hf
          have HL := Lib.hid hf
          clear hf hm hD hKn
          cases cse
          · have HV : Hid (R = (⟨cn, cv, cd, cp, cho, false, chi, cex, ccr⟩, 0)) := by rw [← HL.out, if_neg (by simp)]; exact rfl
            clear HL
            go_wp2_with (first
              | (go_at_call 14; with_reducible refine (CDm.out _).mono ?_; rintro x w8 ⟨rfl, hb8⟩; have hB8 := hB7.trans (hb8.mono hB7.size); have R8 := R7.next hb8; have r0 := R8.c 0 rfl; have r1 := R8.c 1 rfl; have r2 := R8.c 2 rfl; have r3 := R8.c 3 rfl; have r4 := R8.c 4 rfl; have r5 := R8.c 5 rfl; have r6 := R8.c 6 rfl; have r7 := R8.c 7 rfl; have r8 := R8.c 8 rfl; have q0 := R8.f 0 rfl; have q1 := R8.f 1 rfl; have q2 := R8.f 2 rfl; have q3 := R8.f 3 rfl; have q4 := R8.f 4 rfl; have q5 := R8.f 5 rfl; have q6 := R8.f 6 rfl; have q7 := R8.f 7 rfl; have q8 := R8.f 8 rfl; have hk8 := R8.lt; have K8 := AK7.next hb8; have z0 := K8.c 0 rfl; have z1 := K8.c 1 rfl; have z2 := K8.c 2 rfl; have z3 := K8.c 3 rfl; have z4 := K8.c 4 rfl; have z5 := K8.c 5 rfl; have z6 := K8.c 6 rfl; have z7 := K8.c 7 rfl; have z8 := K8.c 8 rfl; have hk9 := K8.lt; have A8 := A7.next hb8; have v0 := A8.c 0 rfl; have v1 := A8.c 1 rfl)
              | (go_at_call 43; with_reducible refine (CKn.out _).mono ?_; rintro x w9 ⟨rfl, rfl⟩))
            exact bodyPost_ret (ret9_run Tryz.results12 Tryz.sizeOf29 Tryz.isAgg29 _ _ _ _ _ _ _ _ _ _ _ _ _ rfl rfl (R8.set9 rfl _ _ _ _ _ _ _ _ _)) rfl ⟨by rw [HV.out]; exact rfl, below_set9 hB8 (Nat.le_succ _) _ _ _ _ _ _ _ _ _⟩
          · by_cases hsc : a.data.toList = httpsL
            · have HV : Hid (R = (⟨cn, cv, cd, cp, cho, true, chi, cex, ccr⟩, 0)) := by rw [← HL.out, if_neg (by simp [hsc])]; exact rfl
              have hs2 : a.toList = [104, 116, 116, 112, 115] := by rw [ByteArray.toList_eq]; exact hsc
              clear HL hsc
              go_wp2_with (first
                | (go_at_call 14; with_reducible refine (CDm.out _).mono ?_; rintro x w8 ⟨rfl, hb8⟩; have hB8 := hB7.trans (hb8.mono hB7.size); have R8 := R7.next hb8; have r0 := R8.c 0 rfl; have r1 := R8.c 1 rfl; have r2 := R8.c 2 rfl; have r3 := R8.c 3 rfl; have r4 := R8.c 4 rfl; have r5 := R8.c 5 rfl; have r6 := R8.c 6 rfl; have r7 := R8.c 7 rfl; have r8 := R8.c 8 rfl; have q0 := R8.f 0 rfl; have q1 := R8.f 1 rfl; have q2 := R8.f 2 rfl; have q3 := R8.f 3 rfl; have q4 := R8.f 4 rfl; have q5 := R8.f 5 rfl; have q6 := R8.f 6 rfl; have q7 := R8.f 7 rfl; have q8 := R8.f 8 rfl; have hk8 := R8.lt; have K8 := AK7.next hb8; have z0 := K8.c 0 rfl; have z1 := K8.c 1 rfl; have z2 := K8.c 2 rfl; have z3 := K8.c 3 rfl; have z4 := K8.c 4 rfl; have z5 := K8.c 5 rfl; have z6 := K8.c 6 rfl; have z7 := K8.c 7 rfl; have z8 := K8.c 8 rfl; have hk9 := K8.lt; have A8 := A7.next hb8; have v0 := A8.c 0 rfl; have v1 := A8.c 1 rfl)
                | (go_at_call 43; with_reducible refine (CKn.out _).mono ?_; rintro x w9 ⟨rfl, rfl⟩))
              exact bodyPost_ret (ret9_run Tryz.results12 Tryz.sizeOf29 Tryz.isAgg29 _ _ _ _ _ _ _ _ _ _ _ _ _ rfl rfl (R8.set9 rfl _ _ _ _ _ _ _ _ _)) rfl ⟨by rw [HV.out]; exact rfl, below_set9 hB8 (Nat.le_succ _) _ _ _ _ _ _ _ _ _⟩
            · have HV : Hid (R = (ck0, 7)) := by rw [← HL.out, if_pos ⟨rfl, hsc⟩]; exact rfl
              have hs2 : ¬ a.toList = [104, 116, 116, 112, 115] := by rw [ByteArray.toList_eq]; exact hsc
              have hs3 : (a.toList == [104, 116, 116, 112, 115]) = false := beq_eq_false_iff_ne.2 hs2
              clear HL hsc
              go_wp2_with (first
                | (go_at_call 14; with_reducible refine (CDm.out _).mono ?_; rintro x w8 ⟨rfl, hb8⟩; have hB8 := hB7.trans (hb8.mono hB7.size); have R8 := R7.next hb8; have r0 := R8.c 0 rfl; have r1 := R8.c 1 rfl; have r2 := R8.c 2 rfl; have r3 := R8.c 3 rfl; have r4 := R8.c 4 rfl; have r5 := R8.c 5 rfl; have r6 := R8.c 6 rfl; have r7 := R8.c 7 rfl; have r8 := R8.c 8 rfl; have q0 := R8.f 0 rfl; have q1 := R8.f 1 rfl; have q2 := R8.f 2 rfl; have q3 := R8.f 3 rfl; have q4 := R8.f 4 rfl; have q5 := R8.f 5 rfl; have q6 := R8.f 6 rfl; have q7 := R8.f 7 rfl; have q8 := R8.f 8 rfl; have hk8 := R8.lt; have K8 := AK7.next hb8; have z0 := K8.c 0 rfl; have z1 := K8.c 1 rfl; have z2 := K8.c 2 rfl; have z3 := K8.c 3 rfl; have z4 := K8.c 4 rfl; have z5 := K8.c 5 rfl; have z6 := K8.c 6 rfl; have z7 := K8.c 7 rfl; have z8 := K8.c 8 rfl; have hk9 := K8.lt; have A8 := A7.next hb8; have v0 := A8.c 0 rfl; have v1 := A8.c 1 rfl)
                | (go_at_call 43; with_reducible refine (CKn.out _).mono ?_; rintro x w9 ⟨rfl, rfl⟩))
              exact bodyPost_ret (ret9_run Tryz.results12 Tryz.sizeOf29 Tryz.isAgg29 _ _ _ _ _ _ _ _ _ _ _ _ _ rfl rfl (R8.set9 rfl _ _ _ _ _ _ _ _ _)) rfl ⟨by rw [HV.out]; exact rfl, below_set9 hB8 (Nat.le_succ _) _ _ _ _ _ _ _ _ _⟩

/-- cookie.Parse -/
theorem cparse_is (s a b c d e f : ByteArray) (now : Int) (T : Bool) (hT : takesB (u6 a b c d e f) = T) (R : Ck × Int) (hR : parseC s.data.toList T a b d now = R) (w : World) (hs : s.size ≤ 100000) (hz : USize 40000 a b c d e f) (hM : MaxAt w) :
    Calls Tryz.prog 12 #[.string s, urlA a b c d e f, .int .i64 now] w fun x w' => x = .returned (resC R) ∧ Below w.heap.size w w' := by
  subst hR
  cases T with
  | false => rw [parseC_no]; exact cparse_no s a b c d e f now w hz hM hT
  | true =>
    obtain ⟨q0, qs, hq, hc⟩ := split_at 59 s (by omega)
    rw [parseC_yes _ _ _ _ _ q0.data.toList (lists qs) hq.symm]
    by_cases hbad : q0.data.toList.contains 61 = false ∨ trimC (pre 61 q0.data.toList) = [] ∨ ctlL s.data.toList = true
    · rw [if_pos hbad]
      exact cparse_syn s a b c d e f now w hs hz hM hT q0 qs hq (Lib.hid hc) hbad
    · rw [if_neg hbad]
      have h1 : q0.data.toList.contains 61 = true := by
        cases e : q0.data.toList.contains 61 with
        | true => rfl
        | false => exact absurd (.inl e) hbad
      have h2 : trimC (pre 61 q0.data.toList) ≠ [] := fun e => hbad (.inr (.inl e))
      have h3 : ctlL s.data.toList = false := by
        cases e : ctlL s.data.toList with
        | false => rfl
        | true => exact absurd (.inr (.inr e)) hbad
      by_cases hne : qs = []
      · exact cparse_one s a b c d e f now w hs hz hM hT q0 qs hq hne (Lib.hid hc) h1 h2 h3 _ rfl
      · exact cparse_main s a b c d e f now w hs hz hM hT q0 qs hq hne (Lib.hid hc) h1 h2 h3 _ rfl
end Go.Proofs.YtgjooigolgdocaaGreatDoor
