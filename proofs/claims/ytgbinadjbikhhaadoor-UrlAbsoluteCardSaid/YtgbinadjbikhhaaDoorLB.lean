/- The check that stands before each law, few and errno. -/
import Derived.Test.YtgbinadjbikhhaaDoorLA
import Derived.Test.YtgbinadjbikhhaaDoorUS
import Derived.KernelRfl
namespace Go.Proofs.YtgbinadjbikhhaaDoor
set_option linter.unusedVariables false
set_option linter.unusedSimpArgs false
open Go.RowKit

abbrev fitS : ByteArray := ⟨#[32, 72, 84, 84, 80, 58, 47, 47, 69, 120, 97, 109, 112, 108, 101, 46, 99, 111, 109, 58, 48, 56, 48, 47, 97, 47, 46, 46, 47, 99, 32, 100, 63, 120, 35, 121, 32]⟩
abbrev fitU : U6 := ([104, 116, 116, 112], [101, 120, 97, 109, 112, 108, 101, 46, 99, 111, 109], [], [47, 99, 37, 50, 48, 100], [120], [121])
theorem fit_parse : parseL fitS.data.toList = some fitU := by kernel_rfl
theorem fit_format : formatL fitU = [104, 116, 116, 112, 58, 47, 47, 101, 120, 97, 109, 112, 108, 101, 46, 99, 111, 109, 47, 99, 37, 50, 48, 100, 63, 120, 35, 121] := by kernel_rfl
abbrev fitV : Value := .agg #[.string ⟨#[104, 116, 116, 112]⟩, .string ⟨#[101, 120, 97, 109, 112, 108, 101, 46, 99, 111, 109]⟩, .string ⟨#[]⟩, .string ⟨#[47, 99, 37, 50, 48, 100]⟩, .string ⟨#[120]⟩, .string ⟨#[121]⟩]
set_option maxRecDepth 20000 in
theorem fit_any (w : World) (hM : MaxAt w) : Calls Tryd.prog 11 #[] w fun e w' => e = .returned (.bool true) ∧ Below w.heap.size w w' := by
  have cP : ∀ w, MaxAt w → Calls Tryd.prog 13 #[.string ⟨#[32, 72, 84, 84, 80, 58, 47, 47, 69, 120, 97, 109, 112, 108, 101, 46, 99, 111, 109, 58, 48, 56, 48, 47, 97, 47, 46, 46, 47, 99, 32, 100, 63, 120, 35, 121, 32]⟩] w fun e w' => e = .returned (.tuple #[.agg #[.string ⟨#[104, 116, 116, 112]⟩, .string ⟨#[101, 120, 97, 109, 112, 108, 101, 46, 99, 111, 109]⟩, .string ⟨#[]⟩, .string ⟨#[47, 99, 37, 50, 48, 100]⟩, .string ⟨#[120]⟩, .string ⟨#[121]⟩], .int .i64 0]) ∧ Below w.heap.size w w' := fun w hM => by
    refine (parse_any fitS w (by decide) hM).mono ?_
    rintro e w' ⟨rfl, hb⟩
    exact ⟨by rw [fit_parse]; rfl, hb⟩
  have cF : ∀ w, Calls Tryd.prog 19 #[.agg #[.string ⟨#[104, 116, 116, 112]⟩, .string ⟨#[101, 120, 97, 109, 112, 108, 101, 46, 99, 111, 109]⟩, .string ⟨#[]⟩, .string ⟨#[47, 99, 37, 50, 48, 100]⟩, .string ⟨#[120]⟩, .string ⟨#[121]⟩]] w fun e w' => e = .returned (.string ⟨#[104, 116, 116, 112, 58, 47, 47, 101, 120, 97, 109, 112, 108, 101, 46, 99, 111, 109, 47, 99, 37, 50, 48, 100, 63, 120, 35, 121]⟩) ∧ Below w.heap.size w w' := fun w => by
    refine (format_any _ _ _ _ _ _ w (by decide) (by decide) (by decide) (by decide) (by decide) (by decide)).mono ?_
    rintro e w' ⟨t, rfl, ht, hb⟩
    refine ⟨?_, hb⟩
    rw [strV_of (ht.trans fit_format)]; rfl
  have CP := Lib.hid cP
  have CF := Lib.hid cF
  clear cP cF
  go_enter Tryd.func11, Tryd.ntmps11
  go_wp2_with (go_at_call 13; with_reducible refine (CP.out _ hM).mono ?_; rintro e w1 ⟨rfl, hb1⟩; obtain ⟨hc1, hf1⟩ := bcell hb1)
  go_wp2_with (go_at_call 19; with_reducible refine (CF.out _).mono ?_; rintro e w2 ⟨rfl, hb2⟩)
  go_ret
  exact ⟨rfl, (hb1.alloc hb1.size _).trans (hb2.mono (by simp; have := hb1.size; omega))⟩
set_option maxRecDepth 20000 in
theorem few_any (xs : List ByteArray) (b c : Nat) (w : World) (hc : ∀ j (h : j < xs.length), w.cell? ⟨b, j, none⟩ = some (.string xs[j])) (hn : xs.length ≤ 1000) :
    Calls Tryd.prog 12 #[.slice (some ⟨b, 0, none⟩) xs.length c] w fun e w' => e = .returned (.bool (xs.all fun s => decide (s.size ≤ 400))) ∧ w = w' := by
  obtain ⟨R, hR⟩ : ∃ R, (xs.all fun s => decide (s.size ≤ 400)) = R := ⟨_, rfl⟩
  rw [hR]
  have HR := Lib.hid hR
  have HC := Lib.hid hc
  clear hR hc
  go_enter Tryd.func12, Tryd.ntmps12
  go_wp2_with fail
  go_loop [7] (fun i => ∃ k : Nat, k ≤ xs.length ∧ i = .int .i64 k ∧ ((xs.drop k).all fun s => decide (s.size ≤ 400)) = R) (fun i => xs.length - (intOf i).toNat)
  case atStart => exact ⟨0, Nat.zero_le _, rfl, HR.out⟩
  case round =>
    obtain ⟨k, hk, rfl, hf⟩ := hrel
    by_cases hlt : k < xs.length
    · have c0 := HC.out k hlt
      rw [List.drop_eq_getElem_cons hlt, List.all_cons] at hf
      obtain ⟨p, hp⟩ : ∃ p, xs[k] = p := ⟨_, rfl⟩
      rw [hp] at c0 hf
      by_cases h4 : p.size ≤ 400
      · rw [decide_eq_true h4, Bool.true_and] at hf
        have HF := Lib.hid hf
        have h4i : (p.size : Int) ≤ 400 := by omega
        clear hf hp
        go_wp2_with fail
        go_round
        case rel => exact ⟨k + 1, by omega, by go_num, HF.out⟩
        case measure => simp [intOf]; omega
      · rw [decide_eq_false h4, Bool.false_and] at hf
        subst hf
        have h4i : ¬ (p.size : Int) ≤ 400 := by omega
        clear hp HR
        go_wp2_with fail
        go_ret
        exact ⟨rfl, rfl⟩
    · rw [List.drop_eq_nil_of_le (by omega)] at hf
      have HF := Lib.hid hf
      clear hf
      go_wp2_with fail
      go_ret
      exact ⟨ret_bool (by rw [← HF.out]; rfl), rfl⟩
theorem errno_any (b : Bool) (w : World) : Calls Tryd.prog 15 #[.bool b] w fun e w' => e = .returned (.int .i64 (if b then 0 else 4)) ∧ w = w' := by
  cases b
  all_goals
    go_enter Tryd.func15, Tryd.ntmps15
    go_wp2_with fail
    go_ret
    exact ⟨rfl, rfl⟩
end Go.Proofs.YtgbinadjbikhhaaDoor
