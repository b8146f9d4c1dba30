/- Cache: whether a response may be stored, by the reference. -/
import Derived.Test.YtkobhknggamejaaGreatDoorHH
namespace Go.Proofs.YtkobhknggamejaaGreatDoor
set_option linter.unusedVariables false
set_option linter.unusedSimpArgs false
open Go.RowKit

attribute [local go_sem] fld_dir0
abbrev varyS : ByteArray := ⟨#[118, 97, 114, 121]⟩
theorem chk_empty (hs : List Hd) (E M : Bool) (hE : (hdrL hs etS.data.toList).isSome = E) (hM : (hdrL hs lmS.data.toList).isSome = M) : (chkL hs).isEmpty = (!E && !M) := by
  subst hE hM
  unfold chkL
  cases hdrL hs etS.data.toList <;> cases hdrL hs lmS.data.toList <;> rfl
theorem star_hit (ps : List ByteArray) (L : List (List UInt8)) (h : lists ps = L) (k : Nat) (hk : k < ps.length) (hx : ps[k].data.toList = [42]) : L.contains [42] = true := by
  rw [← h, List.contains_iff_mem]
  exact List.mem_map.2 ⟨_, List.getElem_mem hk, hx⟩
theorem star_miss (ps : List ByteArray) (L : List (List UInt8)) (h : lists ps = L) (hn : ∀ j (hj : j < ps.length), ps[j].data.toList ≠ [42]) : L.contains [42] = false := by
  cases hc : L.contains [42] with
  | false => rfl
  | true =>
    rw [← h, List.contains_iff_mem] at hc
    obtain ⟨p, hp, he⟩ := List.mem_map.1 hc
    obtain ⟨j, hj, rfl⟩ := List.getElem_of_mem hp
    exact absurd he (hn j hj)
set_option maxRecDepth 20000 in
set_option maxHeartbeats 4000000 in
theorem rstor_is (st : Int) (rq hs : List Hd) (v vh : Value) (w : World) (hv : SlK hdC 2 w v rq) (hw : SlK hdC 2 w vh hs) (hz : HdSz rq) (hy : HdSz hs) (R : Bool) (hR : storL st rq hs = R) :
    Calls Tryz.prog 19 #[.int .i64 st, v, vh] w fun e w' => e = .returned (.bool R) ∧ Below w.heap.size w w' := by
  unfold storL at hR
  have hlb := lifeL_bd hs
  obtain ⟨D1, hD1⟩ : ∃ D, dirL rq = D := ⟨_, rfl⟩
  obtain ⟨D2, hD2⟩ : ∃ D, dirL hs = D := ⟨_, rfl⟩
  obtain ⟨L, hL⟩ : ∃ L, varyL hs = L := ⟨_, rfl⟩
  obtain ⟨S, hS⟩ : ∃ S, L.contains [42] = S := ⟨_, rfl⟩
  obtain ⟨F, hF⟩ : ∃ F, lifeL hs = F := ⟨_, rfl⟩
  obtain ⟨E, hE⟩ : ∃ E, (hdrL hs etS.data.toList).isSome = E := ⟨_, rfl⟩
  obtain ⟨M, hMM⟩ : ∃ M, (hdrL hs lmS.data.toList).isSome = M := ⟨_, rfl⟩
  rw [chk_empty hs E M hE hMM, hD1, hD2, hL, hS, hF] at hR
  rw [hF] at hlb
  have cD1 := fun w hv => rdir_is rq v w hv hz D1 hD1
  have cD2 := fun w hv => rdir_is hs vh w hv hy D2 hD2
  unfold varyL at hL
  have hVs := hdr_size hs varyS.data.toList hy
  obtain ⟨V, hV⟩ : ∃ V, (hdrL hs varyS.data.toList).getD ⟨#[]⟩ = V := ⟨_, rfl⟩
  rw [hV] at hVs
  have hL2 : wordsL V.data.toList = L := by rw [← hV]; exact hL
  have CV := Lib.hid (fun w hw => rvalue_is hs vh varyS w hw hy (by decide) V hV)
  have CW := Lib.hid (fun w => rwords_is V w hVs L hL2)
  have CL := Lib.hid (fun w hv => rlife_is hs vh w hv hy F hF)
  have CE := Lib.hid (fun w hw => rhas_is hs vh etS w hw hy (by decide) E hE)
  have CM := Lib.hid (fun w hw => rhas_is hs vh lmS w hw hy (by decide) M hMM)
  have HS := Lib.hid hS
  have HR := Lib.hid hR
  obtain ⟨sa, sc, rfl, _⟩ := hv.shape
  obtain ⟨sb, sd, rfl, _⟩ := hw.shape
  obtain ⟨a1, a2, a3, a4⟩ := D1
  obtain ⟨b1, b2, b3, b4⟩ := D2
  have CD1 := Lib.hid (fun w hv => (cD1 w hv).mono fun e w' (h : e = Ending.returned (dirA ⟨a1, a2, a3, a4⟩) ∧ Below w.heap.size w w') => (show e = Ending.returned (.agg #[.bool a1, .bool a2, .bool a3, .int .i64 a4]) ∧ Below w.heap.size w w' from h))
  have CD2 := Lib.hid (fun w hv => (cD2 w hv).mono fun e w' (h : e = Ending.returned (dirA ⟨b1, b2, b3, b4⟩) ∧ Below w.heap.size w w') => (show e = Ending.returned (.agg #[.bool b1, .bool b2, .bool b3, .int .i64 b4]) ∧ Below w.heap.size w w' from h))
  obtain ⟨hl1, hl2⟩ := hlb
  have hst := st_cases st
  obtain ⟨ok, hok⟩ : ∃ ok, okSt st = ok := ⟨_, rfl⟩
  rw [hok] at hst
  have HOK := Lib.hid hok
  clear cD1 cD2 hD1 hD2 hL hS hF hE hMM hR hz hy hok hV hL2
  rcases hst with ⟨rfl, hst⟩ | ⟨rfl, n1, n2, n3, n4, n5, n6⟩
  · have HST := Lib.hid hst
    clear hst
    go_enter Tryz.func19, Tryz.ntmps19
    go_upto_block 0 with fail
    go_cut [] from 9 to 16 (fun w2 => w = w2)
    case first =>
      have hst := HST.out
      rcases hst with rfl | rfl | rfl | rfl | rfl | rfl
      all_goals
        go_wp2_with fail
        go_meet
        case rel => exact rfl
    case rest =>
      obtain rfl := hcut
      go_wp2_with (first
        | (go_at_call 48; with_reducible refine (CV.out _ hw).mono ?_; rintro e w1 ⟨rfl, hb1⟩)
        | (go_at_call 44; with_reducible refine (CW.out _).mono ?_; rintro e w2 hq; obtain ⟨ps, pa, pc, rfl, hown, hps, hb2⟩ := wordsq_open hq; clear hq))
      have hB2 := hb1.trans (hb2.mono hb1.size)
      have hv2 := hv.below hB2 (Nat.le_refl _)
      obtain ⟨_, _, hve, hlc, hlm, hra⟩ := own_reads hown
      injection hve with e1 _ e3
      subst e1 e3
      unfold maxLen at hlm
      have HPS := Lib.hid hps
      have HRA := Lib.hid hra
      clear hps hra
      go_loop [8] (fun iv => ∃ k : Nat, k ≤ ps.length ∧ iv = .int .i64 k ∧ Hid (∀ j (hj : j < ps.length), j < k → ps[j].data.toList ≠ [42])) (fun iv => ps.length - (intOf iv).toNat)
      case atStart => exact ⟨0, Nat.zero_le _, rfl, Lib.hid (fun j _ h => absurd h (Nat.not_lt_zero _))⟩
      case round =>
        obtain ⟨k, hk, rfl, HN⟩ := hrel
        by_cases hlt : k < ps.length
        · have hki : (k : Int) < (ps.length : Int) := by omega
          have hk0 : (0 : Int) ≤ (k : Int) := by omega
          rcases HRA.out with ⟨_, h0⟩ | ⟨g, rfl, hgB, hgw, hcg⟩
          · omega
          have c0 := hcg k (.string ps[k]) (by simp [strsV, hlt])
          have hsh := star_hit ps L HPS.out k hlt
          have hsn : ps[k].data.toList ≠ [42] → ∀ j (hj : j < ps.length), j < k + 1 → ps[j].data.toList ≠ [42] := fun hne j hj h => by
            by_cases e : j = k
            · subst e; exact hne
            · exact HN.out j hj (by omega)
          obtain ⟨x, hxe⟩ : ∃ x, ps[k] = x := ⟨_, rfl⟩
          rw [hxe] at c0 hsh hsn
          clear hxe hcg
          by_cases hx : x.data.toList = [42]
          · have hx2 : (x.toList == [42]) = true := by rw [str_beq]; exact decide_eq_true hx
            have HSH := Lib.hid (hsh hx)
            clear hx hsh hsn
            go_wp2_with fail
            go_ret
            exact ⟨ret_bool (by rw [← HR.out, ← HS.out, HSH.out]; simp), hB2⟩
          · have hx2 : (x.toList == [42]) = false := by rw [str_beq]; exact decide_eq_false hx
            have HSN := Lib.hid (hsn hx)
            clear hx hsh hsn
            go_wp2_with fail
            go_round
            case rel => exact ⟨k + 1, by omega, by go_num, HSN⟩
            case measure => simp [intOf]; omega
        · obtain rfl : k = ps.length := by omega
          have hSf : S = false := by rw [← HS.out]; exact star_miss ps L HPS.out (fun j hj => HN.out j hj hj)
          subst hSf
          cases a1 with
          | true =>
            go_wp2_with (first
              | (go_at_call 15; with_reducible refine (CD1.out _ hv2).mono ?_; rintro e w3 ⟨rfl, hb3⟩; have hB3 := hB2.trans (hb3.mono hB2.size); have hw3 := hw.below hB3 (Nat.le_refl _))
              | (go_at_call 15; with_reducible refine (CD2.out _ hw3).mono ?_; rintro e w4 ⟨rfl, hb4⟩; have hB4 := hB3.trans (hb4.mono hB3.size); have hw4 := hw.below hB4 (Nat.le_refl _))
              | (go_at_call 17; with_reducible refine (CL.out _ hw4).mono ?_; rintro e w5 ⟨rfl, hb5⟩; have hB5 := hB4.trans (hb5.mono hB4.size); have hw5 := hw.below hB5 (Nat.le_refl _))
              | (go_at_call 52; with_reducible refine (CE.out _ hw5).mono ?_; rintro e w6 ⟨rfl, hb6⟩; have hB6 := hB5.trans (hb6.mono hB5.size); have hw6 := hw.below hB6 (Nat.le_refl _))
              | (go_at_call 52; with_reducible refine (CM.out _ hw6).mono ?_; rintro e w7 ⟨rfl, hb7⟩; have hB7 := hB6.trans (hb7.mono hB6.size)))
            go_ret
            exact ⟨ret_bool (by rw [← HR.out]; simp), hB3⟩
          | false =>
            cases b1 with
            | true =>
              go_wp2_with (first
                | (go_at_call 15; with_reducible refine (CD1.out _ hv2).mono ?_; rintro e w3 ⟨rfl, hb3⟩; have hB3 := hB2.trans (hb3.mono hB2.size); have hw3 := hw.below hB3 (Nat.le_refl _))
                | (go_at_call 15; with_reducible refine (CD2.out _ hw3).mono ?_; rintro e w4 ⟨rfl, hb4⟩; have hB4 := hB3.trans (hb4.mono hB3.size); have hw4 := hw.below hB4 (Nat.le_refl _))
                | (go_at_call 17; with_reducible refine (CL.out _ hw4).mono ?_; rintro e w5 ⟨rfl, hb5⟩; have hB5 := hB4.trans (hb5.mono hB4.size); have hw5 := hw.below hB5 (Nat.le_refl _))
                | (go_at_call 52; with_reducible refine (CE.out _ hw5).mono ?_; rintro e w6 ⟨rfl, hb6⟩; have hB6 := hB5.trans (hb6.mono hB5.size); have hw6 := hw.below hB6 (Nat.le_refl _))
                | (go_at_call 52; with_reducible refine (CM.out _ hw6).mono ?_; rintro e w7 ⟨rfl, hb7⟩; have hB7 := hB6.trans (hb7.mono hB6.size)))
              go_ret
              exact ⟨ret_bool (by rw [← HR.out]; simp), hB4⟩
            | false =>
              by_cases hF0 : 0 < F
              · have hd : decide (0 < F) = true := decide_eq_true hF0
                have HD := Lib.hid hd
                go_wp2_with (first
                  | (go_at_call 15; with_reducible refine (CD1.out _ hv2).mono ?_; rintro e w3 ⟨rfl, hb3⟩; have hB3 := hB2.trans (hb3.mono hB2.size); have hw3 := hw.below hB3 (Nat.le_refl _))
                  | (go_at_call 15; with_reducible refine (CD2.out _ hw3).mono ?_; rintro e w4 ⟨rfl, hb4⟩; have hB4 := hB3.trans (hb4.mono hB3.size); have hw4 := hw.below hB4 (Nat.le_refl _))
                  | (go_at_call 17; with_reducible refine (CL.out _ hw4).mono ?_; rintro e w5 ⟨rfl, hb5⟩; have hB5 := hB4.trans (hb5.mono hB4.size); have hw5 := hw.below hB5 (Nat.le_refl _))
                  | (go_at_call 52; with_reducible refine (CE.out _ hw5).mono ?_; rintro e w6 ⟨rfl, hb6⟩; have hB6 := hB5.trans (hb6.mono hB5.size); have hw6 := hw.below hB6 (Nat.le_refl _))
                  | (go_at_call 52; with_reducible refine (CM.out _ hw6).mono ?_; rintro e w7 ⟨rfl, hb7⟩; have hB7 := hB6.trans (hb7.mono hB6.size)))
                go_ret
                exact ⟨ret_bool (by rw [← HR.out, HOK.out, HD.out]; rfl), hB5⟩
              · have hd : decide (0 < F) = false := decide_eq_false hF0
                have HD := Lib.hid hd
                cases E with
                | true =>
                  go_wp2_with (first
                    | (go_at_call 15; with_reducible refine (CD1.out _ hv2).mono ?_; rintro e w3 ⟨rfl, hb3⟩; have hB3 := hB2.trans (hb3.mono hB2.size); have hw3 := hw.below hB3 (Nat.le_refl _))
                    | (go_at_call 15; with_reducible refine (CD2.out _ hw3).mono ?_; rintro e w4 ⟨rfl, hb4⟩; have hB4 := hB3.trans (hb4.mono hB3.size); have hw4 := hw.below hB4 (Nat.le_refl _))
                    | (go_at_call 17; with_reducible refine (CL.out _ hw4).mono ?_; rintro e w5 ⟨rfl, hb5⟩; have hB5 := hB4.trans (hb5.mono hB4.size); have hw5 := hw.below hB5 (Nat.le_refl _))
                    | (go_at_call 52; with_reducible refine (CE.out _ hw5).mono ?_; rintro e w6 ⟨rfl, hb6⟩; have hB6 := hB5.trans (hb6.mono hB5.size); have hw6 := hw.below hB6 (Nat.le_refl _))
                    | (go_at_call 52; with_reducible refine (CM.out _ hw6).mono ?_; rintro e w7 ⟨rfl, hb7⟩; have hB7 := hB6.trans (hb7.mono hB6.size)))
                  go_ret
                  exact ⟨ret_bool (by rw [← HR.out, HOK.out, HD.out]; rfl), hB6⟩
                | false =>
                  go_wp2_with (first
                    | (go_at_call 15; with_reducible refine (CD1.out _ hv2).mono ?_; rintro e w3 ⟨rfl, hb3⟩; have hB3 := hB2.trans (hb3.mono hB2.size); have hw3 := hw.below hB3 (Nat.le_refl _))
                    | (go_at_call 15; with_reducible refine (CD2.out _ hw3).mono ?_; rintro e w4 ⟨rfl, hb4⟩; have hB4 := hB3.trans (hb4.mono hB3.size); have hw4 := hw.below hB4 (Nat.le_refl _))
                    | (go_at_call 17; with_reducible refine (CL.out _ hw4).mono ?_; rintro e w5 ⟨rfl, hb5⟩; have hB5 := hB4.trans (hb5.mono hB4.size); have hw5 := hw.below hB5 (Nat.le_refl _))
                    | (go_at_call 52; with_reducible refine (CE.out _ hw5).mono ?_; rintro e w6 ⟨rfl, hb6⟩; have hB6 := hB5.trans (hb6.mono hB5.size); have hw6 := hw.below hB6 (Nat.le_refl _))
                    | (go_at_call 52; with_reducible refine (CM.out _ hw6).mono ?_; rintro e w7 ⟨rfl, hb7⟩; have hB7 := hB6.trans (hb7.mono hB6.size)))
                  go_ret
                  exact ⟨ret_bool (by rw [← HR.out, HOK.out, HD.out]; cases M <;> rfl), hB7⟩
  · go_enter Tryz.func19, Tryz.ntmps19
    go_wp2_with fail
    go_ret
    exact ⟨ret_bool (by rw [← HR.out, HOK.out]; rfl), Below.refl _ _⟩
end Go.Proofs.YtkobhknggamejaaGreatDoor
