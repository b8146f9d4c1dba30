/- CookiePlaces: the law. -/
import Derived.Test.YtgjooigolgdocaaGreatDoorG2
namespace Go.Proofs.YtgjooigolgdocaaGreatDoor
set_option linter.unusedVariables false
set_option linter.unusedSimpArgs false
open Go.RowKit

theorem path_own (l : List UInt8) (h : l.head? = some 47) : pathL l (defpL l) = true := by
  have hm : (47 : UInt8) ∈ l.reverse := by
    rw [List.mem_reverse]
    exact List.mem_of_mem_head? h
  have hd := List.takeWhile_append_dropWhile (p := (· != (47 : UInt8))) (l := l.reverse)
  cases hD : l.reverse.dropWhile (· != 47) with
  | nil =>
    rw [hD, List.append_nil] at hd
    have := List.all_takeWhile (p := (· != (47 : UInt8))) (l := l.reverse)
    rw [hd, List.all_eq_true] at this
    have := this 47 hm
    simp at this
  | cons x m =>
    have hx : x = 47 := by
      have := List.head?_dropWhile_not (p := (· != (47 : UInt8))) (l := l.reverse)
      rw [hD] at this
      simpa using this
    subst hx
    have hb : befL l = m.reverse := by unfold befL; rw [hD]; rfl
    obtain ⟨tk, htk⟩ : ∃ tk, l.reverse.takeWhile (· != 47) = tk := ⟨_, rfl⟩
    have hl : l = m.reverse ++ 47 :: tk.reverse := by
      have := congrArg List.reverse hd
      rw [List.reverse_reverse, hD, htk] at this
      rw [← this]
      simp
    unfold defpL
    by_cases hn : befL l = []
    · rw [if_pos (Or.inr hn)]
      cases l with
      | nil => simp at h
      | cons y r =>
        simp at h
        subst h
        simp [pathL, Lib.hasPrefix, Lib.hasSuffix]
    · rw [if_neg (by rintro (h' | h'); exact h' h; exact hn h'), hb]
      unfold pathL
      have h1 : Lib.hasPrefix l m.reverse = true := by rw [Lib.hasPrefix, List.isPrefixOf_iff_prefix]; exact ⟨_, hl.symm⟩
      have h2 : (l.drop m.reverse.length).head? = some 47 := by
        rw [hl]; simp
      rw [h1, h2]; simp
theorem bs_len (l : List UInt8) : (bs l).size = l.length := by rw [← size_len]; rfl
theorem defpL_len (l : List UInt8) : (defpL l).length ≤ l.length + 1 := by
  unfold defpL
  split
  · simp
  · unfold befL
    rw [List.length_reverse, List.length_drop]
    have := (List.dropWhile_sublist (p := (· != (47 : UInt8))) (l := l.reverse)).length_le
    rw [List.length_reverse] at this
    omega
set_option maxRecDepth 20000 in
set_option maxHeartbeats 1000000 in
theorem cookieplaces_law (a b : ByteArray) (w : World) (hM : MaxAt w) :
    Calls Tryz.prog 4 #[.string a, .string b] w fun x w' => x = .returned (.bool true) ∧ Below w.heap.size w w' := by
  have CF := Lib.hid (fit_any w hM)
  by_cases ha : a.size ≤ 400
  · have hai : ¬ (a.size : Int) > 400 := by omega
    by_cases hb : b.size ≤ 400
    · have hbi : ¬ (b.size : Int) > 400 := by omega
      have cD := fun w => dom_any a b w (by omega) (by omega)
      have cE := fun w => rdomq_any a b w (by omega) (by omega)
      have cP := fun w => path_any a b w (by omega) (by omega)
      have cQ := fun w => rpath_any a b w (by omega) (by omega)
      obtain ⟨D, hD⟩ : ∃ D, domL a.data.toList b.data.toList = D := ⟨_, rfl⟩
      obtain ⟨P, hP⟩ : ∃ P, pathL a.data.toList b.data.toList = P := ⟨_, rfl⟩
      rw [hD] at cD cE
      rw [hP] at cP cQ
      have CD := Lib.hid cD
      have CE := Lib.hid cE
      have CP := Lib.hid cP
      have CQ := Lib.hid cQ
      have CR := Lib.hid (fun w => defp_is a w (by omega))
      have CS := Lib.hid (fun w => rdefp_is a w (by omega))
      obtain ⟨T, hT⟩ : ∃ T, bs (defpL a.data.toList) = T := ⟨_, rfl⟩
      have hTs : T.size ≤ 1000 := by rw [← hT, bs_len]; have := defpL_len a.data.toList; rw [size_len] at this; omega
      rw [hT] at CR CS
      have cU := fun w => path_any a T w (by omega) (by omega)
      clear hM cD cE cP cQ hD hP
      by_cases h0 : a.size = 0
      · have hE := empty_of a h0
        clear cU
        cases D <;> cases P
        all_goals
          go_enter Tryz.func4, Tryz.ntmps4
          go_wp2_with (first
            | (go_at_call 10; with_reducible refine CF.out.mono ?_; rintro x w1 ⟨rfl, hb1⟩)
            | (go_at_call 14; with_reducible refine (CD.out _).mono ?_; rintro x w2 ⟨rfl, hb2⟩)
            | (go_at_call 15; with_reducible refine (CE.out _).mono ?_; rintro x w3 ⟨rfl, rfl⟩)
            | (go_at_call 16; with_reducible refine (CP.out _).mono ?_; rintro x w3 ⟨rfl, rfl⟩)
            | (go_at_call 16; with_reducible refine (CU.out _).mono ?_; rintro x w3 ⟨rfl, rfl⟩)
            | (go_at_call 17; with_reducible refine (CQ.out _).mono ?_; rintro x w3 ⟨rfl, rfl⟩)
            | (go_at_call 18; with_reducible refine (CR.out _).mono ?_; rintro x w3 ⟨rfl, rfl⟩)
            | (go_at_call 19; with_reducible refine (CS.out _).mono ?_; rintro x w3 ⟨rfl, rfl⟩))
          go_ret
          exact ⟨rfl, hb1.trans (hb2.mono hb1.size)⟩
      · have hE := nonempty_of a (by omega)
        have hp : (0 : Nat) < a.size := by omega
        have hpi : (0 : Int) < a.size := by omega
        have hhd := head47 a hp
        by_cases hz : (a[0].toNat : Int) = 47
        · have hz1 : ((a[0].toNat : Int) != 47) = false := by simp [hz]
          have hown := path_own a.data.toList (by rw [hhd]; congr 1; exact UInt8.toNat_inj.1 (by have : (47 : UInt8).toNat = 47 := rfl; omega))
          rw [← hT, show (bs (defpL a.data.toList)).data.toList = defpL a.data.toList from rfl, hown] at cU
          rw [hT] at cU
          have CU := Lib.hid cU
          clear cU hown hT
          cases D <;> cases P
          all_goals
            go_enter Tryz.func4, Tryz.ntmps4
            go_wp2_with (first
              | (go_at_call 10; with_reducible refine CF.out.mono ?_; rintro x w1 ⟨rfl, hb1⟩)
              | (go_at_call 14; with_reducible refine (CD.out _).mono ?_; rintro x w2 ⟨rfl, hb2⟩)
              | (go_at_call 15; with_reducible refine (CE.out _).mono ?_; rintro x w3 ⟨rfl, rfl⟩)
              | (go_at_call 16; with_reducible refine (CP.out _).mono ?_; rintro x w3 ⟨rfl, rfl⟩)
              | (go_at_call 16; with_reducible refine (CU.out _).mono ?_; rintro x w3 ⟨rfl, rfl⟩)
              | (go_at_call 17; with_reducible refine (CQ.out _).mono ?_; rintro x w3 ⟨rfl, rfl⟩)
              | (go_at_call 18; with_reducible refine (CR.out _).mono ?_; rintro x w3 ⟨rfl, rfl⟩)
              | (go_at_call 19; with_reducible refine (CS.out _).mono ?_; rintro x w3 ⟨rfl, rfl⟩))
            go_ret
            exact ⟨rfl, hb1.trans (hb2.mono hb1.size)⟩
        · have hz1 : ((a[0].toNat : Int) != 47) = true := by simp [hz]
          clear cU hT
          cases D <;> cases P
          all_goals
            go_enter Tryz.func4, Tryz.ntmps4
            go_wp2_with (first
              | (go_at_call 10; with_reducible refine CF.out.mono ?_; rintro x w1 ⟨rfl, hb1⟩)
              | (go_at_call 14; with_reducible refine (CD.out _).mono ?_; rintro x w2 ⟨rfl, hb2⟩)
              | (go_at_call 15; with_reducible refine (CE.out _).mono ?_; rintro x w3 ⟨rfl, rfl⟩)
              | (go_at_call 16; with_reducible refine (CP.out _).mono ?_; rintro x w3 ⟨rfl, rfl⟩)
              | (go_at_call 16; with_reducible refine (CU.out _).mono ?_; rintro x w3 ⟨rfl, rfl⟩)
              | (go_at_call 17; with_reducible refine (CQ.out _).mono ?_; rintro x w3 ⟨rfl, rfl⟩)
              | (go_at_call 18; with_reducible refine (CR.out _).mono ?_; rintro x w3 ⟨rfl, rfl⟩)
              | (go_at_call 19; with_reducible refine (CS.out _).mono ?_; rintro x w3 ⟨rfl, rfl⟩))
            go_ret
            exact ⟨rfl, hb1.trans (hb2.mono hb1.size)⟩
    · have hbi : (b.size : Int) > 400 := by omega
      clear hM
      go_enter Tryz.func4, Tryz.ntmps4
      go_wp2_with (go_at_call 10; with_reducible refine CF.out.mono ?_; rintro x w1 ⟨rfl, hb1⟩)
      go_ret
      exact ⟨rfl, hb1⟩
  · have hai : (a.size : Int) > 400 := by omega
    clear hM
    go_enter Tryz.func4, Tryz.ntmps4
    go_wp2_with (go_at_call 10; with_reducible refine CF.out.mono ?_; rintro x w1 ⟨rfl, hb1⟩)
    go_ret
    exact ⟨rfl, hb1⟩
end Go.Proofs.YtgjooigolgdocaaGreatDoor
