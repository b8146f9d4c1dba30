/- The walk of Clean. -/
import Derived.Test.YtgjooigolgdocaaGreatDoorUL
namespace Go.Proofs.YtgjooigolgdocaaGreatDoor
set_option linter.unusedVariables false
set_option linter.unusedSimpArgs false
open Go.RowKit

/-- internal/bytealg.MaxLen holds a number -/
def MaxAt (w : World) : Prop := ∃ m, w.cell? ⟨0, 0, none⟩ = some (.int .i64 m)
theorem cell_lt {w : World} {b o : Nat} {v : Value} (h : w.cell? ⟨b, o, none⟩ = some v) : b < w.heap.size := by
  unfold World.cell? at h
  rcases Nat.lt_or_ge b w.heap.size with h1 | h1
  · exact h1
  · simp [Array.getElem?_eq_none h1] at h
theorem MaxAt.below {w w' : World} {B : Nat} (h : MaxAt w) (hb : Below B w w') (hB : w.heap.size ≤ B) : MaxAt w' := by
  obtain ⟨m, hm⟩ := h
  exact ⟨m, (hb.cell (p := ⟨0, 0, none⟩) (Nat.lt_of_lt_of_le (cell_lt hm) hB)).trans hm⟩
theorem toList_ne {p : ByteArray} {a : Array UInt8} (h : ¬ p = ⟨a⟩) : p.data.toList ≠ a.toList := fun e => h (by cases p; congr 1; exact Array.toList_inj.1 e)
theorem kstep_other (acc : List (List UInt8)) (p : ByteArray) (h1 : ¬ p = ⟨#[46, 46]⟩) (h2 : ¬ p = ⟨#[46]⟩) : kstep acc p.data.toList = acc ++ [p.data.toList] := by
  rw [kstep, if_neg (toList_ne h1), if_neg (toList_ne h2)]
theorem notDot (p : ByteArray) (h1 : ¬ p = ⟨#[46, 46]⟩) (h2 : ¬ p = ⟨#[46]⟩) : isDot p.data.toList = false := by
  have a := toList_ne h1
  have b := toList_ne h2
  unfold isDot
  rw [Bool.or_eq_false_iff]
  exact ⟨by rw [beq_eq_false_iff_ne]; exact b, by rw [beq_eq_false_iff_ne]; exact a⟩
theorem segs_count (c : UInt8) (l : List UInt8) : (segs c l).length ≤ l.length + 1 := by
  induction l with
  | nil => simp [segs]
  | cons b l ih =>
    unfold segs
    split
    · simp; omega
    · split
      · simp
      · next q r e => rw [e] at ih; simp at ih ⊢; omega
set_option maxRecDepth 20000 in
set_option maxHeartbeats 2000000 in
theorem cleanA (s : ByteArray) (w : World) (p0 : ByteArray) (ps : List ByteArray) (hlen : ps.length ≤ 1000000) (hq : ∀ p ∈ lists ps, p.length ≤ 1000000) (hE : p0.toList.isEmpty = true) (hne : ps≠[])
    (cS : Calls Tryz.prog 35 #[.string s, .string ⟨#[47]⟩] w fun e w' => e = .returned (.slice (some ⟨w.heap.size, 0, none⟩) (p0 :: ps).length (p0 :: ps).length) ∧ w' = w.alloc (.cells ((p0 :: ps).map Value.string).toArray 9)) :
    Calls Tryz.prog 123 #[.string s] w fun e w' => ∃ t : ByteArray, e = .returned (.string t) ∧ t.data.toList = (if keptL (lists ps) = [] then [47] else outL (keptL (lists ps))) ∧ Below w.heap.size w w' := by
  have S := Lib.hid cS
  have HQ := Lib.hid hq
  obtain ⟨R, hR⟩ : ∃ R, (if keptL (lists ps) = [] then [47] else outL (keptL (lists ps))) = R := ⟨_, rfl⟩
  rw [hR]
  have HR := Lib.hid hR
  clear cS hq hR
  go_enter Tryz.func123, Tryz.ntmps123
  go_wp2_with (go_at_call 35; with_reducible refine S.out.mono ?_; rintro e w1 ⟨rfl, rfl⟩)
  obtain ⟨wA, hwA⟩ : ∃ wA, w.alloc (.cells ((p0 :: ps).map Value.string).toArray 9) = wA := ⟨_, rfl⟩
  have hA : wA.heap.size = w.heap.size + 1 := by rw [← hwA]; simp
  have hAB : Below w.heap.size w wA := by rw [← hwA]; exact (Below.refl _ w).alloc (Nat.le_refl _) _
  have hcell : ∀ j (h : j < (ps).length), wA.cell? ⟨w.heap.size, 1 + j, none⟩ = some (.string (ps)[j]) := fun j h => by
    rw [← hwA]
    have := cells_new w ((p0 :: ps).map Value.string) 9 (1 + j) (.string (ps)[j]) (by first | (rw [Nat.zero_add, List.getElem?_map, List.getElem?_eq_getElem h]; rfl) | (rw [Nat.add_comm, List.map_cons, List.getElem?_cons_succ, List.getElem?_map, List.getElem?_eq_getElem h]; rfl))
    rwa [show (⟨w.heap.size, 0, none⟩ : Addr).add (1 + j) = ⟨w.heap.size, 1 + j, none⟩ by unfold Addr.add; split <;> simp_all] at this
  simp only [List.map_cons] at hwA
  rw [hwA]
  clear hwA
  have hB1 : w.heap.size + 1 ≤ wA.heap.size := by omega
  go_loopw [4, 17] (fun v iv wr => ∃ (k : Nat) (ks : List ByteArray), k ≤ (ps).length ∧ iv = .int .i64 k ∧ wr.ownsRow (w.heap.size + 1) 9 1 v ks.length (strsV ks) ∧ lists ks = kpt (lists ps) k ∧ ks.length ≤ k + 1 ∧ Below (w.heap.size + 1) wA wr) (fun _ iv _ => (ps).length - (intOf iv).toNat)
  case atStart => exact ⟨0, [], Nat.zero_le _, rfl, World.ownsRow_nil _ _ _ _, by rw [kpt_zero]; rfl, Nat.zero_le _, Below.refl _ _⟩
  case round =>
    obtain ⟨k, ks, hk, rfl, hown, hks, hkl, hbw⟩ := hrel
    have hwz := hbw.size
    by_cases hlt : k < (ps).length
    · have c0 := (hbw.cell (p := ⟨w.heap.size, 1 + k, none⟩) (Nat.lt_succ_self _)).trans (hcell k hlt)
      obtain ⟨p, hp⟩ : ∃ p, (ps)[k] = p := ⟨_, rfl⟩
      have hsu := kpt_succ (lists ps) k (by simpa [lists] using hlt)
      have hpe : (lists ps)[k]'(by simpa [lists] using hlt) = p.data.toList := by simp only [lists, List.getElem_map, hp]
      have hll : (lists ps).length = (ps).length := by simp [lists]
      rw [hpe, ← hks, hll] at hsu
      rw [hp] at c0
      have HS := Lib.hid hsu
      have HK := Lib.hid hks
      clear hsu hpe hp hll hks
      by_cases hl : k + 1 = (ps).length
      · have hlb : ((k : Int) == ((ps.length:Int)-1)) = true := by (try simp only [List.length_cons] at hl ⊢); rw [beq_iff_eq]; omega
        try simp only [List.length_cons, Nat.zero_add] at hlt c0 hk hl
        by_cases h1 : p = ⟨#[46, 46]⟩
        · subst h1
          have KN : kpt (lists ps) (k + 1) = (lists ks).dropLast ++ [[]] := by rw [HS.out, if_pos ⟨hl, rfl⟩]; rfl
          have HN := Lib.hid KN
          clear KN HS
          rcases own_shape hown with ⟨rfl, hk0, hx0⟩ | ⟨g, cap, rfl, hcap, hcm⟩
          · obtain rfl : ks = [] := List.eq_nil_of_length_eq_zero hk0
            have hm0 : (max (-1 : Int) 0).toNat = 0 := by decide
            have hown2 : wr.ownsRow (w.heap.size + 1) 9 1 (.slice none 0 0) 0 [] := World.ownsRow_nil _ _ _ _
            go_wp2_with (refine app2 slS _ rfl (.tmp 42) (.tmp 43) rfl (w.heap.size + 1) _ _ _ rfl hown2 [_] 1 _ rfl rfl rfl (by intro u hu; simp at hu; subst hu; rfl) (by decide) (by omega) (by omega) (by omega) ?_; intro v2 w2 hA2 gA fA; have hB2 := below_own hbw hown2 gA (by omega) (by omega))
            go_roundw
            case rel => exact ⟨k + 1, [⟨#[]⟩], by (try simp only [List.length_cons]); omega, by go_num, hA2, by rw [HN.out]; rfl, by simp, hB2⟩
            case measure => simp [intOf]; omega
          · have hm0 : (max ((ks.length : Int) - 1) 0).toNat = ks.length - 1 := by omega
            have hown2 := own_shrink hown (ks.length - 1) (by omega)
            go_wp2_with (refine app2 slS _ rfl (.tmp 42) (.tmp 43) rfl (w.heap.size + 1) _ _ _ rfl hown2 [_] 1 _ rfl rfl rfl (by intro u hu; simp at hu; subst hu; rfl) (by decide) (by omega) (by omega) (by omega) ?_; intro v2 w2 hA2 gA fA; have hB2 := below_own hbw hown2 gA (by omega) (by omega))
            go_roundw
            case rel => exact ⟨k + 1, ks.dropLast ++ [⟨#[]⟩], by (try simp only [List.length_cons]); omega, by go_num, by rw [List.dropLast_eq_take]; simpa [strsV] using hA2, by rw [HN.out]; simp [lists], by simp; omega, hB2⟩
            case measure => simp [intOf]; omega
        · have h1b : (p.toList == [46, 46]) = false := by rw [beq_eq_false_iff_ne, ByteArray.toList_eq]; exact toList_ne h1
          by_cases h2 : p = ⟨#[46]⟩
          · subst h2
            have KN : kpt (lists ps) (k + 1) = lists ks ++ [[]] := by rw [HS.out, if_pos ⟨hl, rfl⟩]; rfl
            have HN := Lib.hid KN
            clear KN HS
            go_wp2_with (refine app2 slS _ rfl (.tmp 42) (.tmp 43) rfl (w.heap.size + 1) _ _ _ rfl hown [_] 1 _ rfl rfl rfl (by intro u hu; simp at hu; subst hu; rfl) (by decide) (by omega) (by omega) (by omega) ?_; intro v2 w2 hA2 gA fA; have hB2 := below_own hbw hown gA (by omega) (by omega))
            go_roundw
            case rel => exact ⟨k + 1, ks ++ [⟨#[]⟩], by (try simp only [List.length_cons]); omega, by go_num, by simpa [strsV] using hA2, by rw [HN.out]; simp [lists], by simp; omega, hB2⟩
            case measure => simp [intOf]; omega
          · have h2b : (p.toList == [46]) = false := by rw [beq_eq_false_iff_ne, ByteArray.toList_eq]; exact toList_ne h2
            have KN : kpt (lists ps) (k + 1) = lists ks ++ [p.data.toList] := by rw [HS.out, kstep_other _ _ h1 h2, notDot _ h1 h2]; simp
            have HN := Lib.hid KN
            clear KN HS
            go_wp2_with (refine app2 slS _ rfl (.tmp 23) (.tmp 25) rfl (w.heap.size + 1) _ _ _ rfl hown [_] 1 _ rfl rfl rfl (by intro u hu; simp at hu; subst hu; rfl) (by decide) (by omega) (by omega) (by omega) ?_; intro v2 w2 hA2 gA fA; have hB2 := below_own hbw hown gA (by omega) (by omega))
            go_roundw
            case rel => exact ⟨k + 1, ks ++ [p], by (try simp only [List.length_cons]); omega, by go_num, by simpa [strsV] using hA2, by rw [HN.out]; simp [lists], by simp; omega, hB2⟩
            case measure => simp [intOf]; omega
      · have hlb : ((k : Int) == ((ps.length:Int)-1)) = false := by (try simp only [List.length_cons] at hl hlt ⊢); rw [beq_eq_false_iff_ne]; omega
        try simp only [List.length_cons, Nat.zero_add] at hlt c0 hk hl
        by_cases h1 : p = ⟨#[46, 46]⟩
        · subst h1
          have KN : kpt (lists ps) (k + 1) = (lists ks).dropLast := by rw [HS.out, if_neg fun h => hl h.1, List.append_nil]; rfl
          have HN := Lib.hid KN
          clear KN HS
          rcases own_shape hown with ⟨rfl, hk0, hx0⟩ | ⟨g, cap, rfl, hcap, hcm⟩
          · obtain rfl : ks = [] := List.eq_nil_of_length_eq_zero hk0
            have hm0 : (max (-1 : Int) 0).toNat = 0 := by decide
            go_wp2_with fail
            go_roundw
            case rel => exact ⟨k + 1, [], by (try simp only [List.length_cons]); omega, by go_num, World.ownsRow_nil _ _ _ _, by rw [HN.out]; rfl, by simp, hbw⟩
            case measure => simp [intOf]; omega
          · have hm0 : (max ((ks.length : Int) - 1) 0).toNat = ks.length - 1 := by omega
            have hown2 := own_shrink hown (ks.length - 1) (by omega)
            go_wp2_with fail
            go_roundw
            case rel => exact ⟨k + 1, ks.dropLast, by (try simp only [List.length_cons]); omega, by go_num, by rw [List.dropLast_eq_take]; simpa [strsV] using hown2, by rw [HN.out]; simp [lists], by simp; omega, hbw⟩
            case measure => simp [intOf]; omega
        · have h1b : (p.toList == [46, 46]) = false := by rw [beq_eq_false_iff_ne, ByteArray.toList_eq]; exact toList_ne h1
          by_cases h2 : p = ⟨#[46]⟩
          · subst h2
            have KN : kpt (lists ps) (k + 1) = lists ks := by rw [HS.out, if_neg fun h => hl h.1, List.append_nil]; rfl
            have HN := Lib.hid KN
            clear KN HS
            go_wp2_with fail
            go_roundw
            case rel => exact ⟨k + 1, ks, by (try simp only [List.length_cons]); omega, by go_num, hown, by rw [HN.out], by omega, hbw⟩
            case measure => simp [intOf]; omega
          · have h2b : (p.toList == [46]) = false := by rw [beq_eq_false_iff_ne, ByteArray.toList_eq]; exact toList_ne h2
            have KN : kpt (lists ps) (k + 1) = lists ks ++ [p.data.toList] := by rw [HS.out, kstep_other _ _ h1 h2, notDot _ h1 h2]; simp
            have HN := Lib.hid KN
            clear KN HS
            go_wp2_with (refine app2 slS _ rfl (.tmp 23) (.tmp 25) rfl (w.heap.size + 1) _ _ _ rfl hown [_] 1 _ rfl rfl rfl (by intro u hu; simp at hu; subst hu; rfl) (by decide) (by omega) (by omega) (by omega) ?_; intro v2 w2 hA2 gA fA; have hB2 := below_own hbw hown gA (by omega) (by omega))
            go_roundw
            case rel => exact ⟨k + 1, ks ++ [p], by (try simp only [List.length_cons]); omega, by go_num, by simpa [strsV] using hA2, by rw [HN.out]; simp [lists], by simp; omega, hB2⟩
            case measure => simp [intOf]; omega
    · have hkk : k = (ps).length := by omega
      subst hkk
      have hK2 : lists ks = keptL (lists ps) := by rw [hks, keptL]; simp [lists]
      have hmem : ∀ x ∈ lists ks, x.length ≤ 1000000 := fun x hx => by
        rw [hK2] at hx
        rcases kpt_mem _ _ _ hx with rfl | h
        · simp
        · exact HQ.out x h
      have hR2 := HR.out
      rw [← hK2] at hR2
      have HM := Lib.hid hmem
      have HR2 := Lib.hid hR2
      obtain ⟨a, cap, rfl, hnc, hcm, hc⟩ := own_reads hown
      clear hks hK2 hmem hR2 hown
      have hbA : Below w.heap.size w wr := hAB.trans (hbw.mono (by omega))
      try simp only [List.length_cons] at hk hkl hlt
      by_cases h0 : ks.length = 0
      · obtain rfl : ks = [] := List.eq_nil_of_length_eq_zero h0
        go_wp2_with fail
        go_ret
        exact ⟨_, rfl, by rw [← HR2.out]; rfl, hbA⟩
      · rcases hc with ⟨rfl, h⟩ | ⟨g, rfl, hbg, hgs, hcl⟩
        · exact absurd h h0
        · have h0b : ((ks.length : Int) == 0) = false := by rw [beq_eq_false_iff_ne]; omega
          have hj : (Lib.join (ks.map (·.data.toList)) [47]).length ≤ 140737488355328 := by
            have := join_len 1000000 (lists ks) HM.out
            have h2 : (lists ks).length * (1000000 + 1) ≤ 1000002 * (1000000 + 1) := Nat.mul_le_mul_right _ (by simp [lists]; omega)
            exact Nat.le_trans this (by omega)
          have cJ := Tryz.strings_Join g 0 cap ks ⟨#[47]⟩ wr (fun j x hx => by have := hcl j (.string x) (by simp [strsV, hx]); simpa using this) hgs (by omega) hnc hj
          obtain ⟨J, hJ⟩ : ∃ J : ByteArray, ⟨(Lib.join (ks.map (·.data.toList)) [47]).toArray⟩ = J := ⟨_, rfl⟩
          have hJl : J.data.toList = Lib.join (lists ks) [47] := by rw [← hJ]; rfl
          have hJs : J.size ≤ 140737488355328 := by rw [← size_len, hJl]; exact hj
          have HJ := Lib.hid hJl
          replace cJ := Lib.hid (show Calls Tryz.prog 94 _ wr (fun e w' => e = .returned (.string J) ∧ Below wr.heap.size wr w') from hJ ▸ cJ)
          clear hJ hJl
          clear hcl hj
          go_wp2_with (go_at_call 94; with_reducible refine cJ.out.mono ?_; rintro e w2 ⟨rfl, hb2⟩)
          go_ret
          refine ⟨_, rfl, ?_, hbA.trans (hb2.mono hbA.size)⟩
          rw [← HR2.out, if_neg (fun h => h0 (by simpa [lists] using congrArg List.length h)), ← out_join _ (fun h => h0 (by simpa [lists] using congrArg List.length h)), app_list, HJ.out]
          rfl
set_option maxRecDepth 20000 in
set_option maxHeartbeats 2000000 in
theorem cleanB (s : ByteArray) (w : World) (p0 : ByteArray) (ps : List ByteArray) (hlen : ps.length ≤ 1000000) (hq : ∀ p ∈ lists (p0::ps), p.length ≤ 1000000) (hE : p0.toList.isEmpty = false) (hne : True)
    (cS : Calls Tryz.prog 35 #[.string s, .string ⟨#[47]⟩] w fun e w' => e = .returned (.slice (some ⟨w.heap.size, 0, none⟩) (p0 :: ps).length (p0 :: ps).length) ∧ w' = w.alloc (.cells ((p0 :: ps).map Value.string).toArray 9)) :
    Calls Tryz.prog 123 #[.string s] w fun e w' => ∃ t : ByteArray, e = .returned (.string t) ∧ t.data.toList = (if keptL (lists (p0::ps)) = [] then [47] else outL (keptL (lists (p0::ps)))) ∧ Below w.heap.size w w' := by
  have S := Lib.hid cS
  have HQ := Lib.hid hq
  obtain ⟨R, hR⟩ : ∃ R, (if keptL (lists (p0::ps)) = [] then [47] else outL (keptL (lists (p0::ps)))) = R := ⟨_, rfl⟩
  rw [hR]
  have HR := Lib.hid hR
  clear cS hq hR
  go_enter Tryz.func123, Tryz.ntmps123
  go_wp2_with (go_at_call 35; with_reducible refine S.out.mono ?_; rintro e w1 ⟨rfl, rfl⟩)
  obtain ⟨wA, hwA⟩ : ∃ wA, w.alloc (.cells ((p0 :: ps).map Value.string).toArray 9) = wA := ⟨_, rfl⟩
  have hA : wA.heap.size = w.heap.size + 1 := by rw [← hwA]; simp
  have hAB : Below w.heap.size w wA := by rw [← hwA]; exact (Below.refl _ w).alloc (Nat.le_refl _) _
  have hcell : ∀ j (h : j < ((p0::ps)).length), wA.cell? ⟨w.heap.size, 0 + j, none⟩ = some (.string ((p0::ps))[j]) := fun j h => by
    rw [← hwA]
    have := cells_new w ((p0 :: ps).map Value.string) 9 (0 + j) (.string ((p0::ps))[j]) (by first | (rw [Nat.zero_add, List.getElem?_map, List.getElem?_eq_getElem h]; rfl) | (rw [Nat.add_comm, List.map_cons, List.getElem?_cons_succ, List.getElem?_map, List.getElem?_eq_getElem h]; rfl))
    rwa [show (⟨w.heap.size, 0, none⟩ : Addr).add (0 + j) = ⟨w.heap.size, 0 + j, none⟩ by unfold Addr.add; split <;> simp_all] at this
  simp only [List.map_cons] at hwA
  rw [hwA]
  clear hwA
  have hB1 : w.heap.size + 1 ≤ wA.heap.size := by omega
  go_loopw [4, 17] (fun v iv wr => ∃ (k : Nat) (ks : List ByteArray), k ≤ ((p0::ps)).length ∧ iv = .int .i64 k ∧ wr.ownsRow (w.heap.size + 1) 9 1 v ks.length (strsV ks) ∧ lists ks = kpt (lists (p0::ps)) k ∧ ks.length ≤ k + 1 ∧ Below (w.heap.size + 1) wA wr) (fun _ iv _ => ((p0::ps)).length - (intOf iv).toNat)
  case atStart => exact ⟨0, [], Nat.zero_le _, rfl, World.ownsRow_nil _ _ _ _, by rw [kpt_zero]; rfl, Nat.zero_le _, Below.refl _ _⟩
  case round =>
    obtain ⟨k, ks, hk, rfl, hown, hks, hkl, hbw⟩ := hrel
    have hwz := hbw.size
    by_cases hlt : k < ((p0::ps)).length
    · have c0 := (hbw.cell (p := ⟨w.heap.size, 0 + k, none⟩) (Nat.lt_succ_self _)).trans (hcell k hlt)
      obtain ⟨p, hp⟩ : ∃ p, ((p0::ps))[k] = p := ⟨_, rfl⟩
      have hsu := kpt_succ (lists (p0::ps)) k (by simpa [lists] using hlt)
      have hpe : (lists (p0::ps))[k]'(by simpa [lists] using hlt) = p.data.toList := by simp only [lists, List.getElem_map, hp]
      have hll : (lists (p0::ps)).length = ((p0::ps)).length := by simp [lists]
      rw [hpe, ← hks, hll] at hsu
      rw [hp] at c0
      have HS := Lib.hid hsu
      have HK := Lib.hid hks
      clear hsu hpe hp hll hks
      by_cases hl : k + 1 = ((p0::ps)).length
      · have hlb : ((k : Int) == (ps.length:Int)) = true := by (try simp only [List.length_cons] at hl ⊢); rw [beq_iff_eq]; omega
        try simp only [List.length_cons, Nat.zero_add] at hlt c0 hk hl
        by_cases h1 : p = ⟨#[46, 46]⟩
        · subst h1
          have KN : kpt (lists (p0::ps)) (k + 1) = (lists ks).dropLast ++ [[]] := by rw [HS.out, if_pos ⟨hl, rfl⟩]; rfl
          have HN := Lib.hid KN
          clear KN HS
          rcases own_shape hown with ⟨rfl, hk0, hx0⟩ | ⟨g, cap, rfl, hcap, hcm⟩
          · obtain rfl : ks = [] := List.eq_nil_of_length_eq_zero hk0
            have hm0 : (max (-1 : Int) 0).toNat = 0 := by decide
            have hown2 : wr.ownsRow (w.heap.size + 1) 9 1 (.slice none 0 0) 0 [] := World.ownsRow_nil _ _ _ _
            go_wp2_with (refine app2 slS _ rfl (.tmp 42) (.tmp 43) rfl (w.heap.size + 1) _ _ _ rfl hown2 [_] 1 _ rfl rfl rfl (by intro u hu; simp at hu; subst hu; rfl) (by decide) (by omega) (by omega) (by omega) ?_; intro v2 w2 hA2 gA fA; have hB2 := below_own hbw hown2 gA (by omega) (by omega))
            go_roundw
            case rel => exact ⟨k + 1, [⟨#[]⟩], by (try simp only [List.length_cons]); omega, by go_num, hA2, by rw [HN.out]; rfl, by simp, hB2⟩
            case measure => simp [intOf]; omega
          · have hm0 : (max ((ks.length : Int) - 1) 0).toNat = ks.length - 1 := by omega
            have hown2 := own_shrink hown (ks.length - 1) (by omega)
            go_wp2_with (refine app2 slS _ rfl (.tmp 42) (.tmp 43) rfl (w.heap.size + 1) _ _ _ rfl hown2 [_] 1 _ rfl rfl rfl (by intro u hu; simp at hu; subst hu; rfl) (by decide) (by omega) (by omega) (by omega) ?_; intro v2 w2 hA2 gA fA; have hB2 := below_own hbw hown2 gA (by omega) (by omega))
            go_roundw
            case rel => exact ⟨k + 1, ks.dropLast ++ [⟨#[]⟩], by (try simp only [List.length_cons]); omega, by go_num, by rw [List.dropLast_eq_take]; simpa [strsV] using hA2, by rw [HN.out]; simp [lists], by simp; omega, hB2⟩
            case measure => simp [intOf]; omega
        · have h1b : (p.toList == [46, 46]) = false := by rw [beq_eq_false_iff_ne, ByteArray.toList_eq]; exact toList_ne h1
          by_cases h2 : p = ⟨#[46]⟩
          · subst h2
            have KN : kpt (lists (p0::ps)) (k + 1) = lists ks ++ [[]] := by rw [HS.out, if_pos ⟨hl, rfl⟩]; rfl
            have HN := Lib.hid KN
            clear KN HS
            go_wp2_with (refine app2 slS _ rfl (.tmp 42) (.tmp 43) rfl (w.heap.size + 1) _ _ _ rfl hown [_] 1 _ rfl rfl rfl (by intro u hu; simp at hu; subst hu; rfl) (by decide) (by omega) (by omega) (by omega) ?_; intro v2 w2 hA2 gA fA; have hB2 := below_own hbw hown gA (by omega) (by omega))
            go_roundw
            case rel => exact ⟨k + 1, ks ++ [⟨#[]⟩], by (try simp only [List.length_cons]); omega, by go_num, by simpa [strsV] using hA2, by rw [HN.out]; simp [lists], by simp; omega, hB2⟩
            case measure => simp [intOf]; omega
          · have h2b : (p.toList == [46]) = false := by rw [beq_eq_false_iff_ne, ByteArray.toList_eq]; exact toList_ne h2
            have KN : kpt (lists (p0::ps)) (k + 1) = lists ks ++ [p.data.toList] := by rw [HS.out, kstep_other _ _ h1 h2, notDot _ h1 h2]; simp
            have HN := Lib.hid KN
            clear KN HS
            go_wp2_with (refine app2 slS _ rfl (.tmp 23) (.tmp 25) rfl (w.heap.size + 1) _ _ _ rfl hown [_] 1 _ rfl rfl rfl (by intro u hu; simp at hu; subst hu; rfl) (by decide) (by omega) (by omega) (by omega) ?_; intro v2 w2 hA2 gA fA; have hB2 := below_own hbw hown gA (by omega) (by omega))
            go_roundw
            case rel => exact ⟨k + 1, ks ++ [p], by (try simp only [List.length_cons]); omega, by go_num, by simpa [strsV] using hA2, by rw [HN.out]; simp [lists], by simp; omega, hB2⟩
            case measure => simp [intOf]; omega
      · have hlb : ((k : Int) == (ps.length:Int)) = false := by (try simp only [List.length_cons] at hl hlt ⊢); rw [beq_eq_false_iff_ne]; omega
        try simp only [List.length_cons, Nat.zero_add] at hlt c0 hk hl
        by_cases h1 : p = ⟨#[46, 46]⟩
        · subst h1
          have KN : kpt (lists (p0::ps)) (k + 1) = (lists ks).dropLast := by rw [HS.out, if_neg fun h => hl h.1, List.append_nil]; rfl
          have HN := Lib.hid KN
          clear KN HS
          rcases own_shape hown with ⟨rfl, hk0, hx0⟩ | ⟨g, cap, rfl, hcap, hcm⟩
          · obtain rfl : ks = [] := List.eq_nil_of_length_eq_zero hk0
            have hm0 : (max (-1 : Int) 0).toNat = 0 := by decide
            go_wp2_with fail
            go_roundw
            case rel => exact ⟨k + 1, [], by (try simp only [List.length_cons]); omega, by go_num, World.ownsRow_nil _ _ _ _, by rw [HN.out]; rfl, by simp, hbw⟩
            case measure => simp [intOf]; omega
          · have hm0 : (max ((ks.length : Int) - 1) 0).toNat = ks.length - 1 := by omega
            have hown2 := own_shrink hown (ks.length - 1) (by omega)
            go_wp2_with fail
            go_roundw
            case rel => exact ⟨k + 1, ks.dropLast, by (try simp only [List.length_cons]); omega, by go_num, by rw [List.dropLast_eq_take]; simpa [strsV] using hown2, by rw [HN.out]; simp [lists], by simp; omega, hbw⟩
            case measure => simp [intOf]; omega
        · have h1b : (p.toList == [46, 46]) = false := by rw [beq_eq_false_iff_ne, ByteArray.toList_eq]; exact toList_ne h1
          by_cases h2 : p = ⟨#[46]⟩
          · subst h2
            have KN : kpt (lists (p0::ps)) (k + 1) = lists ks := by rw [HS.out, if_neg fun h => hl h.1, List.append_nil]; rfl
            have HN := Lib.hid KN
            clear KN HS
            go_wp2_with fail
            go_roundw
            case rel => exact ⟨k + 1, ks, by (try simp only [List.length_cons]); omega, by go_num, hown, by rw [HN.out], by omega, hbw⟩
            case measure => simp [intOf]; omega
          · have h2b : (p.toList == [46]) = false := by rw [beq_eq_false_iff_ne, ByteArray.toList_eq]; exact toList_ne h2
            have KN : kpt (lists (p0::ps)) (k + 1) = lists ks ++ [p.data.toList] := by rw [HS.out, kstep_other _ _ h1 h2, notDot _ h1 h2]; simp
            have HN := Lib.hid KN
            clear KN HS
            go_wp2_with (refine app2 slS _ rfl (.tmp 23) (.tmp 25) rfl (w.heap.size + 1) _ _ _ rfl hown [_] 1 _ rfl rfl rfl (by intro u hu; simp at hu; subst hu; rfl) (by decide) (by omega) (by omega) (by omega) ?_; intro v2 w2 hA2 gA fA; have hB2 := below_own hbw hown gA (by omega) (by omega))
            go_roundw
            case rel => exact ⟨k + 1, ks ++ [p], by (try simp only [List.length_cons]); omega, by go_num, by simpa [strsV] using hA2, by rw [HN.out]; simp [lists], by simp; omega, hB2⟩
            case measure => simp [intOf]; omega
    · have hkk : k = ((p0::ps)).length := by omega
      subst hkk
      have hK2 : lists ks = keptL (lists (p0::ps)) := by rw [hks, keptL]; simp [lists]
      have hmem : ∀ x ∈ lists ks, x.length ≤ 1000000 := fun x hx => by
        rw [hK2] at hx
        rcases kpt_mem _ _ _ hx with rfl | h
        · simp
        · exact HQ.out x h
      have hR2 := HR.out
      rw [← hK2] at hR2
      have HM := Lib.hid hmem
      have HR2 := Lib.hid hR2
      obtain ⟨a, cap, rfl, hnc, hcm, hc⟩ := own_reads hown
      clear hks hK2 hmem hR2 hown
      have hbA : Below w.heap.size w wr := hAB.trans (hbw.mono (by omega))
      try simp only [List.length_cons] at hk hkl hlt
      by_cases h0 : ks.length = 0
      · obtain rfl : ks = [] := List.eq_nil_of_length_eq_zero h0
        go_wp2_with fail
        go_ret
        exact ⟨_, rfl, by rw [← HR2.out]; rfl, hbA⟩
      · rcases hc with ⟨rfl, h⟩ | ⟨g, rfl, hbg, hgs, hcl⟩
        · exact absurd h h0
        · have h0b : ((ks.length : Int) == 0) = false := by rw [beq_eq_false_iff_ne]; omega
          have hj : (Lib.join (ks.map (·.data.toList)) [47]).length ≤ 140737488355328 := by
            have := join_len 1000000 (lists ks) HM.out
            have h2 : (lists ks).length * (1000000 + 1) ≤ 1000002 * (1000000 + 1) := Nat.mul_le_mul_right _ (by simp [lists]; omega)
            exact Nat.le_trans this (by omega)
          have cJ := Tryz.strings_Join g 0 cap ks ⟨#[47]⟩ wr (fun j x hx => by have := hcl j (.string x) (by simp [strsV, hx]); simpa using this) hgs (by omega) hnc hj
          obtain ⟨J, hJ⟩ : ∃ J : ByteArray, ⟨(Lib.join (ks.map (·.data.toList)) [47]).toArray⟩ = J := ⟨_, rfl⟩
          have hJl : J.data.toList = Lib.join (lists ks) [47] := by rw [← hJ]; rfl
          have hJs : J.size ≤ 140737488355328 := by rw [← size_len, hJl]; exact hj
          have HJ := Lib.hid hJl
          replace cJ := Lib.hid (show Calls Tryz.prog 94 _ wr (fun e w' => e = .returned (.string J) ∧ Below wr.heap.size wr w') from hJ ▸ cJ)
          clear hJ hJl
          clear hcl hj
          go_wp2_with (go_at_call 94; with_reducible refine cJ.out.mono ?_; rintro e w2 ⟨rfl, hb2⟩)
          go_ret
          refine ⟨_, rfl, ?_, hbA.trans (hb2.mono hbA.size)⟩
          rw [← HR2.out, if_neg (fun h => h0 (by simpa [lists] using congrArg List.length h)), ← out_join _ (fun h => h0 (by simpa [lists] using congrArg List.length h)), app_list, HJ.out]
          rfl
set_option maxRecDepth 20000 in
set_option maxHeartbeats 2000000 in
theorem cleanZ (s : ByteArray) (w : World) (p0 : ByteArray) (hE : p0.toList.isEmpty = true)
    (cS : Calls Tryz.prog 35 #[.string s, .string ⟨#[47]⟩] w fun e w' => e = .returned (.slice (some ⟨w.heap.size, 0, none⟩) [p0].length [p0].length) ∧ w' = w.alloc (.cells ([p0].map Value.string).toArray 9)) :
    Calls Tryz.prog 123 #[.string s] w fun e w' => ∃ t : ByteArray, e = .returned (.string t) ∧ t.data.toList = [47] ∧ Below w.heap.size w w' := by
  have S := Lib.hid cS
  clear cS
  go_enter Tryz.func123, Tryz.ntmps123
  go_wp2_with (go_at_call 35; with_reducible refine S.out.mono ?_; rintro e w1 ⟨rfl, rfl⟩)
  obtain ⟨wA, hwA⟩ : ∃ wA, w.alloc (.cells ([p0].map Value.string).toArray 9) = wA := ⟨_, rfl⟩
  have hAB : Below w.heap.size w wA := by rw [← hwA]; exact (Below.refl _ w).alloc (Nat.le_refl _) _
  simp only [List.map_cons, List.map_nil] at hwA
  rw [hwA]
  clear hwA
  go_loopw [4, 17] (fun v iv wr => v = .slice none 0 0 ∧ iv = .int .i64 0 ∧ Below w.heap.size w wr) (fun _ iv _ => 0)
  case atStart => exact ⟨rfl, rfl, hAB⟩
  case round =>
    obtain ⟨rfl, rfl, hbw⟩ := hrel
    go_wp2_with fail
    go_ret
    exact ⟨_, rfl, rfl, hbw⟩
theorem clean_any (s : ByteArray) (w : World) (hs : s.size ≤ 1000000) (hM : MaxAt w) :
    Calls Tryz.prog 123 #[.string s] w fun e w' => ∃ t : ByteArray, e = .returned (.string t) ∧ t.data.toList = cleanL s.data.toList ∧ Below w.heap.size w w' := by
  obtain ⟨m, hm⟩ := hM
  have cS := Tryz.strings_Split s ⟨#[47]⟩ m w (by omega) hm (by decide)
  have hsg := split_segs 47 _ s rfl
  obtain ⟨l, hl⟩ : ∃ l, Lib.splitB ⟨#[47]⟩ 0 (Lib.countB s ⟨#[47]⟩) s = l := ⟨_, rfl⟩
  have hsl := Lib.splitB_all ⟨#[47]⟩ (by decide) 0 (Lib.countB s ⟨#[47]⟩) s rfl
  rw [hl] at cS hsg hsl
  rw [← hsl] at cS
  have hN : l.length ≤ 1000001 := by
    have h1 := congrArg List.length hsg
    rw [List.length_map] at h1
    have h2 := segs_count 47 s.data.toList
    rw [size_len] at h2
    omega
  have hseg : lists l = segs 47 s.data.toList := hsg
  have hmx : ∀ p ∈ lists l, p.length ≤ 1000000 := fun p hp => by
    rw [hseg] at hp
    have := segs_len 47 _ p hp
    rw [size_len] at this
    omega
  unfold cleanL
  rw [← hseg]
  match l, cS, hN, hmx with
  | [], _, _, _ => exact absurd hseg.symm (segs_ne 47 _)
  | p0 :: ps, cS, hN, hmx =>
    simp only [List.length_cons] at hN
    by_cases h0 : p0.data.toList = []
    · have hE : p0.toList.isEmpty = true := by rw [List.isEmpty_iff, ByteArray.toList_eq]; exact h0
      have ht : tailE (lists (p0 :: ps)) = lists ps := by simp [tailE, lists, h0]
      rw [ht]
      by_cases hp : ps = []
      · subst hp
        exact cleanZ s w p0 hE cS
      · exact cleanA s w p0 ps (by omega) (fun p h => hmx p (List.mem_cons_of_mem _ h)) hE hp cS
    · have hE : p0.toList.isEmpty = false := by
        cases e : p0.toList.isEmpty with
        | false => rfl
        | true => rw [List.isEmpty_iff, ByteArray.toList_eq] at e; exact absurd e h0
      have ht : tailE (lists (p0 :: ps)) = lists (p0 :: ps) := by simp [tailE, lists, h0]
      rw [ht]
      exact cleanB s w p0 ps (by omega) hmx hE trivial cS
end Go.Proofs.YtgjooigolgdocaaGreatDoor
