/- Cookies: DomainMatches, PathMatches, DefaultPath: the walks, in both packages. -/
import Derived.Test.YtgjooigolgdocaaGreatDoorCA
namespace Go.Proofs.YtgjooigolgdocaaGreatDoor
set_option linter.unusedVariables false
set_option linter.unusedSimpArgs false
open Go.RowKit

theorem dot_app (d : ByteArray) : ((⟨#[46]⟩ : ByteArray) ++ d).data.toList = 46 :: d.data.toList := by rw [app_list]; rfl
theorem domL_nil (h : List UInt8) : domL h [] = false := rfl
theorem domL_ne (h d : List UInt8) (hd : d ≠ []) : domL h d = (h == d || (Lib.hasSuffix h (46 :: d) && !numericL h)) := by
  unfold domL
  cases d with
  | nil => exact absurd rfl hd
  | cons b r => rfl
theorem list_ne' {s : ByteArray} (h : ¬ s.size = 0) : s.data.toList ≠ [] := fun e => h (by rw [← size_len, e]; rfl)
theorem list_nil' {s : ByteArray} (h : s.size = 0) : s.data.toList = [] := List.eq_nil_of_length_eq_zero (by rw [size_len]; exact h)
theorem beq_lists (a b : ByteArray) : (a.toList == b.toList) = (a.data.toList == b.data.toList) := by rw [ByteArray.toList_eq, ByteArray.toList_eq]
set_option maxRecDepth 20000 in
theorem dom_any (h d : ByteArray) (w : World) (hh : h.size ≤ 1000000) (hd : d.size ≤ 1000000) :
    Calls Tryz.prog 14 #[.string h, .string d] w fun e w' => e = .returned (.bool (domL h.data.toList d.data.toList)) ∧ Below w.heap.size w w' := by
  by_cases h0 : d.size = 0
  · rw [list_nil' h0, domL_nil]
    have hE := empty_of d h0
    clear h0
    go_enter Tryz.func14, Tryz.ntmps14
    go_wp2_with fail
    go_ret
    exact ⟨rfl, Below.refl _ _⟩
  · have hE := nonempty_of d (by omega)
    rw [domL_ne _ _ (list_ne' h0), ← beq_lists]
    obtain ⟨A, hA⟩ : ∃ A, (h.toList == d.toList) = A := ⟨_, rfl⟩
    have cS := fun w => Tryz.strings_HasSuffix h (⟨#[46]⟩ ++ d) w (by omega)
    rw [dot_app] at cS
    obtain ⟨S, hS⟩ : ∃ S, Lib.hasSuffix h.data.toList (46 :: d.data.toList) = S := ⟨_, rfl⟩
    have cT := fun w => trimcs_any h numCut w hh (by decide) (by decide)
    obtain ⟨T, hT⟩ : ∃ T : ByteArray, ⟨(Lib.trimS h.data.toList numCut.data.toList).toArray⟩ = T := ⟨_, rfl⟩
    have hN := trimS_num h.data.toList
    have hTl : T.toList = Lib.trimS h.data.toList numCut.data.toList := by rw [ByteArray.toList_eq, ← hT]
    rw [← hTl] at hN
    obtain ⟨N, hN2⟩ : ∃ N, numericL h.data.toList = N := ⟨_, rfl⟩
    rw [hS, hN2, hA]
    rw [hS] at cS
    rw [hT] at cT
    rw [hN2] at hN
    have CS := Lib.hid cS
    have CT := Lib.hid cT
    clear cS cT hT hTl hS hN2 h0
    cases A
    · cases S
      · go_enter Tryz.func14, Tryz.ntmps14
        go_wp2_with (go_at_call 52; with_reducible refine (CS.out _).mono ?_; rintro e w' ⟨rfl, rfl⟩)
        go_ret
        exact ⟨rfl, Below.refl _ _⟩
      · cases N
        all_goals
          go_enter Tryz.func14, Tryz.ntmps14
          go_wp2_with (first | (go_at_call 52; with_reducible refine (CS.out _).mono ?_; rintro e w' ⟨rfl, rfl⟩) | (go_at_call 53; with_reducible refine (CT.out _).mono ?_; rintro e w1 ⟨rfl, hb1⟩))
          go_ret
          exact ⟨rfl, hb1⟩
    · go_enter Tryz.func14, Tryz.ntmps14
      go_wp2_with fail
      go_ret
      exact ⟨rfl, Below.refl _ _⟩
set_option maxRecDepth 20000 in
theorem rdomq_any (h d : ByteArray) (w : World) (hh : h.size ≤ 1000000) (hd : d.size ≤ 1000000) :
    Calls Tryz.prog 15 #[.string h, .string d] w fun e w' => e = .returned (.bool (domL h.data.toList d.data.toList)) ∧ w = w' := by
  by_cases h0 : d.size = 0
  · rw [list_nil' h0, domL_nil]
    have hE := empty_of d h0
    clear h0
    go_enter Tryz.func15, Tryz.ntmps15
    go_wp2_with fail
    go_ret
    exact ⟨rfl, rfl⟩
  · have hE := nonempty_of d (by omega)
    rw [domL_ne _ _ (list_ne' h0), ← beq_lists]
    obtain ⟨A, hA⟩ : ∃ A, (h.toList == d.toList) = A := ⟨_, rfl⟩
    have cS := fun w => endsb_any h (⟨#[46]⟩ ++ d) w hh (by rw [ByteArray.size_append]; have : (⟨#[46]⟩ : ByteArray).size = 1 := rfl; omega)
    rw [dot_app] at cS
    obtain ⟨S, hS⟩ : ∃ S, Lib.hasSuffix h.data.toList (46 :: d.data.toList) = S := ⟨_, rfl⟩
    have cT := fun w => numeric_any h w hh
    obtain ⟨N, hN2⟩ : ∃ N, numericL h.data.toList = N := ⟨_, rfl⟩
    rw [hS, hN2, hA]
    rw [hS] at cS
    rw [hN2] at cT
    have CS := Lib.hid cS
    have CT := Lib.hid cT
    clear cS cT hS hN2 h0
    cases A
    · cases S
      · go_enter Tryz.func15, Tryz.ntmps15
        go_wp2_with (go_at_call 54; with_reducible refine (CS.out _).mono ?_; rintro e w' ⟨rfl, rfl⟩)
        go_ret
        exact ⟨rfl, rfl⟩
      · cases N
        all_goals
          go_enter Tryz.func15, Tryz.ntmps15
          go_wp2_with (first | (go_at_call 54; with_reducible refine (CS.out _).mono ?_; rintro e w' ⟨rfl, rfl⟩) | (go_at_call 55; with_reducible refine (CT.out _).mono ?_; rintro e w' ⟨rfl, rfl⟩))
          go_ret
          exact ⟨rfl, rfl⟩
    · go_enter Tryz.func15, Tryz.ntmps15
      go_wp2_with fail
      go_ret
      exact ⟨rfl, rfl⟩

/-! PathMatches -/
theorem pathL_eq (p : List UInt8) : pathL p p = true := by simp [pathL]
theorem pathL_ne (p q : List UInt8) (h : p ≠ q) : pathL p q = (Lib.hasPrefix p q && (Lib.hasSuffix q [47] || (p.drop q.length).head? == some 47)) := by
  unfold pathL
  rw [beq_eq_false_iff_ne.2 h]; rfl
theorem ba_ext' {a b : ByteArray} (h : a.data.toList = b.data.toList) : a = b := by
  cases a; cases b; congr 1; exact Array.toList_inj.1 h
theorem hasPrefix_drop {p q : List UInt8} (h : Lib.hasPrefix p q = true) : p = q ++ p.drop q.length := by
  unfold Lib.hasPrefix at h
  rw [List.isPrefixOf_iff_prefix] at h
  obtain ⟨r, rfl⟩ := h
  simp
theorem path_len {p q : ByteArray} (h : Lib.hasPrefix p.data.toList q.data.toList = true) (hne : p.data.toList ≠ q.data.toList) : q.size < p.size := by
  have h1 := hasPrefix_drop h
  have h2 := congrArg List.length h1
  rw [List.length_append, size_len, size_len] at h2
  rcases Nat.lt_or_ge q.size p.size with h3 | h3
  · exact h3
  · exfalso
    apply hne
    rw [h1, List.eq_nil_of_length_eq_zero (l := p.data.toList.drop q.data.toList.length) (by rw [List.length_drop, size_len, size_len]; omega), List.append_nil]
theorem head_drop (p : ByteArray) (n : Nat) (h : n < p.size) : ((p.data.toList.drop n).head? == some 47) = ((p[n].toNat : Int) == 47) := by
  rw [drop_at p n h]
  simp only [List.head?_cons]
  rw [Bool.eq_iff_iff, beq_iff_eq, beq_iff_eq, Option.some_inj]
  exact ⟨fun e => by rw [e]; rfl, fun e => UInt8.toNat_inj.1 (by have : (47 : UInt8).toNat = 47 := rfl; omega)⟩
set_option maxRecDepth 20000 in
theorem rpath_any (p q : ByteArray) (w : World) (hp : p.size ≤ 1000000) (hq : q.size ≤ 1000000) :
    Calls Tryz.prog 17 #[.string p, .string q] w fun e w' => e = .returned (.bool (pathL p.data.toList q.data.toList)) ∧ w = w' := by
  by_cases h0 : p.data.toList = q.data.toList
  · obtain rfl := ba_ext' h0
    rw [pathL_eq]
    clear h0
    go_enter Tryz.func17, Tryz.ntmps17
    go_wp2_with fail
    go_ret
    exact ⟨rfl, rfl⟩
  · rw [pathL_ne _ _ h0]
    have hE : (p.toList == q.toList) = false := by rw [beq_lists]; exact beq_eq_false_iff_ne.2 h0
    have cP := fun w => starts_any p q w hp hq
    have cS := fun w => ends_any q ⟨#[47]⟩ w hq (by decide)
    obtain ⟨A, hA⟩ : ∃ A, Lib.hasPrefix p.data.toList q.data.toList = A := ⟨_, rfl⟩
    obtain ⟨B, hB⟩ : ∃ B, Lib.hasSuffix q.data.toList [47] = B := ⟨_, rfl⟩
    rw [show (⟨#[47]⟩ : ByteArray).data.toList = [47] from rfl, hB] at cS
    rw [hA] at cP
    rw [hA, hB]
    have CS := Lib.hid cS
    have CP := Lib.hid cP
    clear cS cP
    cases A
    · clear hA hB h0
      go_enter Tryz.func17, Tryz.ntmps17
      go_wp2_with (go_at_call 51; with_reducible refine (CP.out _).mono ?_; rintro e w' ⟨rfl, rfl⟩)
      go_ret
      exact ⟨rfl, rfl⟩
    · have hl := path_len hA h0
      have hh := head_drop p q.size hl
      rw [size_len, hh]
      have hli : (q.size : Int) < p.size := by omega
      clear hA hB h0 hh
      cases B
      all_goals
        go_enter Tryz.func17, Tryz.ntmps17
        go_wp2_with (first | (go_at_call 51; with_reducible refine (CP.out _).mono ?_; rintro e w' ⟨rfl, rfl⟩) | (go_at_call 54; with_reducible refine (CS.out _).mono ?_; rintro e w' ⟨rfl, rfl⟩))
        go_ret
        exact ⟨ret_bool (by simp), rfl⟩
set_option maxRecDepth 20000 in
theorem path_any (p q : ByteArray) (w : World) (hp : p.size ≤ 1000000) (hq : q.size ≤ 1000000) :
    Calls Tryz.prog 16 #[.string p, .string q] w fun e w' => e = .returned (.bool (pathL p.data.toList q.data.toList)) ∧ w = w' := by
  have cP := fun w => Tryz.strings_CutPrefix p q w
  have cS := fun w => Tryz.strings_HasSuffix q ⟨#[47]⟩ w (by omega)
  obtain ⟨T, hT⟩ : ∃ T : ByteArray, ⟨(Lib.trimPrefix p.data.toList q.data.toList).toArray⟩ = T := ⟨_, rfl⟩
  rw [hT] at cP
  by_cases h0 : p.data.toList = q.data.toList
  · obtain rfl := ba_ext' h0
    rw [pathL_eq]
    have h1 : Lib.hasPrefix p.data.toList p.data.toList = true := by unfold Lib.hasPrefix; rw [List.isPrefixOf_iff_prefix]; exact List.prefix_refl _
    have hE : T.toList.isEmpty = true := by
      rw [ByteArray.toList_eq, ← hT, List.isEmpty_iff]
      unfold Lib.trimPrefix
      rw [if_pos h1]; simp
    rw [h1] at cP
    have CP := Lib.hid cP
    clear cP h0 hT cS h1
    go_enter Tryz.func16, Tryz.ntmps16
    go_wp2_with (go_at_call 56; with_reducible refine (CP.out _).mono ?_; rintro e w' ⟨rfl, rfl⟩)
    go_ret
    exact ⟨rfl, rfl⟩
  · rw [pathL_ne _ _ h0]
    obtain ⟨A, hA⟩ : ∃ A, Lib.hasPrefix p.data.toList q.data.toList = A := ⟨_, rfl⟩
    obtain ⟨B, hB⟩ : ∃ B, Lib.hasSuffix q.data.toList [47] = B := ⟨_, rfl⟩
    rw [show (⟨#[47]⟩ : ByteArray).data.toList = [47] from rfl, hB] at cS
    rw [hA] at cP
    rw [hA, hB]
    have CS := Lib.hid cS
    have CP := Lib.hid cP
    clear cS cP
    cases A
    · clear hA hB h0 hT
      go_enter Tryz.func16, Tryz.ntmps16
      go_wp2_with (go_at_call 56; with_reducible refine (CP.out _).mono ?_; rintro e w' ⟨rfl, rfl⟩)
      go_ret
      exact ⟨rfl, rfl⟩
    · have hl := path_len hA h0
      have hTl : T.data.toList = p.data.toList.drop q.data.toList.length := by
        rw [← hT]; show (Lib.trimPrefix p.data.toList q.data.toList) = _
        unfold Lib.trimPrefix; rw [if_pos hA]
      have hTs : 0 < T.size := by rw [← size_len, hTl, List.length_drop, size_len, size_len]; omega
      have hE := nonempty_of T hTs
      have hh : ((p.data.toList.drop q.data.toList.length).head? == some 47) = ((T[0].toNat : Int) == 47) := by
        rw [← hTl]
        have := head_drop T 0 hTs
        rwa [List.drop_zero] at this
      rw [hh]
      have hTi : (0 : Int) < T.size := by omega
      clear hA hB h0 hh hT hTl
      cases B
      all_goals
        go_enter Tryz.func16, Tryz.ntmps16
        go_wp2_with (first | (go_at_call 56; with_reducible refine (CP.out _).mono ?_; rintro e w' ⟨rfl, rfl⟩) | (go_at_call 52; with_reducible refine (CS.out _).mono ?_; rintro e w' ⟨rfl, rfl⟩))
        go_ret
        exact ⟨ret_bool (by simp), rfl⟩

/-! DefaultPath -/
theorem bef_of (l : List UInt8) (i : Nat) (h : l[i]? = some 47) (hl : ∀ j, i < j → l[j]? ≠ some 47) : befL l = l.take i := by
  have hi : i < l.length := (List.getElem?_eq_some_iff.1 h).1
  have e : l = l.take i ++ 47 :: l.drop (i + 1) := by
    have := (List.getElem?_eq_some_iff.1 h).2
    rw [← this, ← List.drop_eq_getElem_cons hi, List.take_append_drop]
  have hn : ∀ b ∈ l.drop (i + 1), (b != 47) = true := fun b hb => by
    obtain ⟨j, hj, rfl⟩ := List.getElem_of_mem hb
    rw [List.getElem_drop, bne_iff_ne]
    intro e
    refine hl (i + 1 + j) (by omega) ?_
    rw [List.getElem?_eq_getElem (by rw [List.length_drop] at hj; omega), e]
  unfold befL
  conv => lhs; rw [e]
  rw [List.reverse_append, List.reverse_cons, List.append_assoc, List.dropWhile_append_of_pos (fun b hb => hn b (List.mem_reverse.1 hb))]
  simp
theorem bef_none (l : List UInt8) (hl : ∀ j : Nat, l[j]? ≠ some 47) : befL l = [] := by
  unfold befL
  have : l.reverse.dropWhile (· != 47) = [] := by
    rw [dropW_nil, List.all_reverse, List.all_eq_true]
    intro b hb
    obtain ⟨j, hj, rfl⟩ := List.getElem_of_mem hb
    rw [bne_iff_ne]
    intro e
    exact hl j (by rw [List.getElem?_eq_getElem hj, e])
  rw [this]; rfl
theorem at47 (s : ByteArray) (i : Nat) : s.data.toList[i]? = some 47 ↔ i < s.size ∧ ((s.data[i]!).toNat : Int) = 47 := by
  constructor
  · intro h
    have h1 := List.getElem?_eq_some_iff.1 h
    obtain ⟨h2, h3⟩ := h1
    have h4 : i < s.size := by rwa [size_len] at h2
    refine ⟨h4, ?_⟩
    rw [getElem!_pos s.data i h4]
    rw [Array.getElem_toList] at h3
    rw [h3]; rfl
  · rintro ⟨h1, h2⟩
    rw [List.getElem?_eq_getElem (by rw [size_len]; exact h1)]
    rw [getElem!_pos s.data i h1] at h2
    rw [Array.getElem_toList]
    congr 1
    exact UInt8.toNat_inj.1 (by have : (47 : UInt8).toNat = 47 := rfl; omega)
theorem last47 (s : ByteArray) : (Lib.lastIndexByte s 47 = -1 ∧ ∀ j : Nat, s.data.toList[j]? ≠ some 47) ∨ ∃ i : Nat, i < s.size ∧ Lib.lastIndexByte s 47 = i ∧ s.data.toList[i]? = some 47 ∧ ∀ j, i < j → s.data.toList[j]? ≠ some 47 := by
  rcases Lib.lastIndexByte_spec s 47 with ⟨h1, h2⟩ | ⟨i, h1, h2, h3, h4⟩
  · refine .inl ⟨h1, fun j hj => ?_⟩
    obtain ⟨a, b⟩ := (at47 s j).1 hj
    exact h2 j a b
  · refine .inr ⟨i, h1, h2, (at47 s i).2 ⟨h1, h3⟩, fun j hj hj2 => ?_⟩
    obtain ⟨a, b⟩ := (at47 s j).1 hj2
    exact h4 j hj a b
theorem head47 (s : ByteArray) (h : 0 < s.size) : s.data.toList.head? = some s[0] := by
  rw [← List.drop_zero (l := s.data.toList), drop_at s 0 h]; rfl
set_option maxRecDepth 20000 in
theorem defp_any (s : ByteArray) (w : World) (hs : s.size ≤ 1000000) :
    Calls Tryz.prog 18 #[.string s] w fun e w' => ∃ t : ByteArray, e = .returned (.string t) ∧ t.data.toList = defpL s.data.toList ∧ w = w' := by
  obtain ⟨R, hR⟩ : ∃ R, defpL s.data.toList = R := ⟨_, rfl⟩
  rw [hR]
  have cL := fun w => Tryz.strings_LastIndexByte s 47 (by omega) w
  rcases last47 s with ⟨h1, h2⟩ | ⟨i, h1, h2, h3, h4⟩
  · rw [h1] at cL
    have CL := Lib.hid cL
    have HR := Lib.hid (show [47] = R by
      rw [← hR]; unfold defpL; rw [bef_none _ h2, if_pos (Or.inr rfl)])
    clear cL h1 h2 hR
    go_enter Tryz.func18, Tryz.ntmps18
    go_wp2_with (go_at_call 57; with_reducible refine (CL.out _).mono ?_; rintro e w' ⟨rfl, rfl⟩)
    go_ret
    exact ⟨_, rfl, HR.out, rfl⟩
  · rw [h2] at cL
    have CL := Lib.hid cL
    have hb := bef_of _ i h3 h4
    have hp : (0 : Nat) < s.size := by omega
    have hpi : (0 : Int) < s.size := by omega
    have hhd := head47 s hp
    clear cL h2 h3 h4
    by_cases hi : i = 0
    · subst hi
      have HR := Lib.hid (show [47] = R by
        rw [← hR]; unfold defpL; rw [hb, if_pos (Or.inr (by simp))])
      clear hR hb hhd h1
      go_enter Tryz.func18, Tryz.ntmps18
      go_wp2_with (go_at_call 57; with_reducible refine (CL.out _).mono ?_; rintro e w' ⟨rfl, rfl⟩)
      go_ret
      exact ⟨_, rfl, HR.out, rfl⟩
    · have hii : (0 : Int) < (i : Int) := by omega
      have hne : s.data.toList.take i ≠ [] := fun e => by
        have := congrArg List.length e
        rw [List.length_take, size_len, List.length_nil] at this
        omega
      by_cases hz : (s[0].toNat : Int) = 47
      · have hz1 : ((s[0].toNat : Int) != 47) = false := by simp [hz]
        have HR := Lib.hid (show s.data.toList.take i = R by
          rw [← hR]; unfold defpL
          rw [hb, hhd, if_neg (by
            rintro (h | h)
            · exact h (by congr 1; exact UInt8.toNat_inj.1 (by have : (47 : UInt8).toNat = 47 := rfl; omega))
            · exact hne h)])
        clear hR hb hhd hz hi
        go_enter Tryz.func18, Tryz.ntmps18
        go_wp2_with (go_at_call 57; with_reducible refine (CL.out _).mono ?_; rintro e w' ⟨rfl, rfl⟩)
        go_ret
        exact ⟨_, rfl, by rw [← HR.out, ext_from], rfl⟩
      · have hz1 : ((s[0].toNat : Int) != 47) = true := by simp [hz]
        have HR := Lib.hid (show [47] = R by
          rw [← hR]; unfold defpL
          rw [hhd, if_pos (.inl (fun h => hz (by injection h with h; rw [h]; rfl)))])
        clear hR hb hhd hz hi
        go_enter Tryz.func18, Tryz.ntmps18
        go_wp2_with (go_at_call 57; with_reducible refine (CL.out _).mono ?_; rintro e w' ⟨rfl, rfl⟩)
        go_ret
        exact ⟨_, rfl, HR.out, rfl⟩
set_option maxRecDepth 20000 in
theorem rdefp_any (s : ByteArray) (w : World) (hs : s.size ≤ 1000000) :
    Calls Tryz.prog 19 #[.string s] w fun e w' => ∃ t : ByteArray, e = .returned (.string t) ∧ t.data.toList = defpL s.data.toList ∧ w = w' := by
  obtain ⟨R, hR⟩ : ∃ R, defpL s.data.toList = R := ⟨_, rfl⟩
  rw [hR]
  by_cases h0 : s.size = 0
  · have hE := empty_of s h0
    have HR := Lib.hid (show [47] = R by
      rw [← hR, list_nil' h0]; rfl)
    clear hR h0
    go_enter Tryz.func19, Tryz.ntmps19
    go_wp2_with fail
    go_ret
    exact ⟨_, rfl, HR.out, rfl⟩
  · have hE := nonempty_of s (by omega)
    have hp : (0 : Nat) < s.size := by omega
    have hpi : (0 : Int) < s.size := by omega
    have hhd := head47 s hp
    by_cases hz : (s[0].toNat : Int) = 47
    · have hz1 : ((s[0].toNat : Int) != 47) = false := by simp [hz]
      have hz47 : s.data.toList[0]? = some 47 := by
        rw [← List.head?_eq_getElem?, hhd]
        congr 1; exact UInt8.toNat_inj.1 (by have : (47 : UInt8).toNat = 47 := rfl; omega)
      rcases last47 s with ⟨h1, h2⟩ | ⟨i, h1, h2, h3, h4⟩
      · exact absurd hz47 (h2 0)
      · have hb := bef_of _ i h3 h4
        have hdf : R = if i = 0 then [47] else s.data.toList.take i := by
          rw [← hR]; unfold defpL
          rw [hb, List.head?_eq_getElem?, hz47]
          by_cases hi : i = 0
          · subst hi; simp
          · rw [if_neg hi, if_neg]
            rintro (h | h)
            · exact h rfl
            · have := congrArg List.length h
              rw [List.length_take, size_len, List.length_nil] at this
              omega
        have h47 := (at47 s i).1 h3
        have hnt : ∀ j, i < j → (h : j < s.size) → ¬ (s[j].toNat : Int) = 47 := fun j hj h e => h4 j hj ((at47 s j).2 ⟨h, by rw [getElem!_pos s.data j h]; exact e⟩)
        have hit : (s[i].toNat : Int) = 47 := by have := h47.2; rwa [getElem!_pos s.data i h1] at this
        have HDF := Lib.hid hdf
        have HNT := Lib.hid hnt
        have HIT := Lib.hid hit
        have hoi : ¬ (s.size : Int) - 1 < 0 := by omega
        clear hR hb hhd hz h2 h3 h4 hdf h47 hnt hit hz47 h0
        go_enter Tryz.func19, Tryz.ntmps19
        go_wp2_with fail
        go_loop [3] (fun v => ∃ k : Nat, i ≤ k ∧ k < s.size ∧ v = .int .i64 k) (fun v => (intOf v).toNat)
        case atStart => exact ⟨s.size - 1, by omega, by omega, by go_num⟩
        case round =>
          obtain ⟨k, hik, hk, rfl⟩ := hrel
          have hki : (k : Int) < s.size := by omega
          by_cases hke : k = i
          · subst hke
            have hc : (s[k].toNat : Int) = 47 := HIT.out
            have hcc : ((s[k].toNat : Int) != 47) = false := by simp [hc]
            clear hc
            by_cases hk0 : k = 0
            · subst hk0
              have HR2 := Lib.hid (show R = [47] by rw [HDF.out]; rfl)
              go_wp2_with fail
              go_ret
              exact ⟨_, rfl, HR2.out.symm, rfl⟩
            · have HR2 := Lib.hid (show R = s.data.toList.take k by rw [HDF.out, if_neg hk0])
              have hkb : ((k : Int) == 0) = false := by rw [beq_eq_false_iff_ne]; omega
              clear hk0
              go_wp2_with fail
              go_ret
              exact ⟨_, rfl, by rw [HR2.out, ext_from], rfl⟩
          · have hc := HNT.out k (by omega) hk
            have hcc : ((s[k].toNat : Int) != 47) = true := by simp [hc]
            clear hc
            go_wp2_with fail
            go_round
            case rel => exact ⟨k - 1, by omega, by omega, by go_num⟩
            case measure => simp [intOf]; omega
    · have hz1 : ((s[0].toNat : Int) != 47) = true := by simp [hz]
      have HR := Lib.hid (show [47] = R by
        rw [← hR]; unfold defpL
        rw [hhd, if_pos (.inl (fun h => hz (by injection h with h; rw [h]; rfl)))])
      clear hR hhd hz h0
      go_enter Tryz.func19, Tryz.ntmps19
      go_wp2_with fail
      go_ret
      exact ⟨_, rfl, HR.out, rfl⟩
end Go.Proofs.YtgjooigolgdocaaGreatDoor
