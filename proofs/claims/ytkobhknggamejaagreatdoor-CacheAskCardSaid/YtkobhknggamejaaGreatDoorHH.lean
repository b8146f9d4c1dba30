/- Cache: whether a response may be stored, in both packages. -/
import Derived.Test.YtkobhknggamejaaGreatDoorHG
namespace Go.Proofs.YtkobhknggamejaaGreatDoor
set_option linter.unusedVariables false
set_option linter.unusedSimpArgs false
open Go.RowKit

theorem fld_dir0 (a b c : Bool) (d : Int) (w : World) : (Instr.field 28 (.agg #[.bool a, .bool b, .bool c, .int .i64 d]) 0).run Tryz.prog w = .ok (.bool a) w := by
  simp [Instr.field, run_underlying Tryz.underlying28, go_sem, asAgg]
attribute [local go_sem] fld_dir0
def okSt (st : Int) : Bool := decide (st = 200 ∨ st = 203 ∨ st = 301 ∨ st = 308 ∨ st = 404 ∨ st = 410)
/-- whether a response may be stored -/
def storL (st : Int) (rq hs : List Hd) : Bool := okSt st && (!((dirL rq).ns || (dirL hs).ns || (varyL hs).contains [42]) && (decide (0 < lifeL hs) || !(chkL hs).isEmpty))
theorem contS_is (ps : List ByteArray) (L : List (List UInt8)) (h : lists ps = L) : Lib.containsS ps ⟨#[42]⟩ = L.contains [42] := by
  rw [Bool.eq_iff_iff, Lib.containsS_iff, ← h, List.contains_iff_mem]
  unfold lists
  constructor
  · intro hm; exact List.mem_map.2 ⟨_, hm, rfl⟩
  · intro hm
    obtain ⟨p, hp, he⟩ := List.mem_map.1 hm
    have : p = ⟨#[42]⟩ := ba_ext' he
    rwa [this] at hp
theorem star_is (ps : List ByteArray) (L : List (List UInt8)) (hl : lists ps = L) (a : Option Addr) (c : Nat) (B : Nat) (w : World) (hown : w.ownsRow B 9 1 (.slice a ps.length c) ps.length (strsV ps)) (hn : ps.length ≤ 9223372036854775807) (R : Bool) (hR : L.contains [42] = R) :
    Calls Tryz.prog 49 #[.slice a ps.length c, .string ⟨#[42]⟩] w fun e w' => e = .returned (.bool R) ∧ w = w' := by
  obtain ⟨_, _, hve, hlc, hlm, hra⟩ := own_reads hown
  injection hve with e1 _ e3
  subst e1 e3
  rcases hra with ⟨rfl, h0⟩ | ⟨g, rfl, hgB, hgw, hcg⟩
  · have hp : ps = [] := List.eq_nil_of_length_eq_zero h0
    subst hp
    have hLe : L = [] := hl.symm
    subst hLe
    subst hR
    refine (Tryz.slices_Contains_string_empty none c ⟨#[42]⟩ w).mono ?_
    rintro e w' ⟨rfl, rfl⟩
    exact ⟨rfl, rfl⟩
  · refine (Tryz.slices_Contains_string g 0 ps.length c ps ⟨#[42]⟩ w (Nat.le_refl _) hn (fun j hj => by rw [Nat.zero_add]; exact hcg j _ (by simp [strsV, hj]))).mono ?_
    rintro e w' ⟨rfl, rfl⟩
    exact ⟨ret_bool (by rw [List.take_length, contS_is ps L hl, hR]), rfl⟩
theorem st_cases (st : Int) : (okSt st = true ∧ (st = 200 ∨ st = 203 ∨ st = 301 ∨ st = 308 ∨ st = 404 ∨ st = 410)) ∨ (okSt st = false ∧ st ≠ 200 ∧ st ≠ 203 ∧ st ≠ 301 ∧ st ≠ 308 ∧ st ≠ 404 ∧ st ≠ 410) := by
  unfold okSt
  by_cases h : st = 200 ∨ st = 203 ∨ st = 301 ∨ st = 308 ∨ st = 404 ∨ st = 410
  · exact .inl ⟨decide_eq_true h, h⟩
  · exact .inr ⟨decide_eq_false h, by omega⟩
set_option maxRecDepth 20000 in
set_option maxHeartbeats 4000000 in
theorem stor_is (st : Int) (rq hs : List Hd) (v vh : Value) (w : World) (hM : MaxAt w) (hv : SlK hdC 2 w v rq) (hw : SlK hdC 2 w vh hs) (hz : HdSz rq) (hy : HdSz hs) (R : Bool) (hR : storL st rq hs = R) :
    Calls Tryz.prog 18 #[.int .i64 st, v, vh] w fun e w' => e = .returned (.bool R) ∧ Below w.heap.size w w' := by
  unfold storL at hR
  have hlb := lifeL_bd hs
  obtain ⟨D1, hD1⟩ : ∃ D, dirL rq = D := ⟨_, rfl⟩
  obtain ⟨D2, hD2⟩ : ∃ D, dirL hs = D := ⟨_, rfl⟩
  obtain ⟨L, hL⟩ : ∃ L, varyL hs = L := ⟨_, rfl⟩
  obtain ⟨S, hS⟩ : ∃ S, L.contains [42] = S := ⟨_, rfl⟩
  obtain ⟨F, hF⟩ : ∃ F, lifeL hs = F := ⟨_, rfl⟩
  obtain ⟨K, hK⟩ : ∃ K, chkL hs = K := ⟨_, rfl⟩
  rw [hD1, hD2, hL, hS, hF, hK] at hR
  rw [hF] at hlb
  have cD1 := fun w hM hv => dir_is rq v w hM hv hz D1 hD1
  have cD2 := fun w hM hv => dir_is hs vh w hM hv hy D2 hD2
  have CV := Lib.hid (fun w hM hv => vary_is hs vh w hM hv hy L hL)
  have CL := Lib.hid (fun w hM hv => life_is hs vh w hM hv hy F hF)
  have CC := Lib.hid (fun w hv => chk_is hs vh w hv hy K hK)
  have HS := Lib.hid hS
  have HR := Lib.hid hR
  obtain ⟨sa, sc, rfl, _⟩ := hv.shape
  obtain ⟨sb, sd, rfl, _⟩ := hw.shape
  obtain ⟨a1, a2, a3, a4⟩ := D1
  obtain ⟨b1, b2, b3, b4⟩ := D2
  have CD1 := Lib.hid (fun w hM hv => (cD1 w hM hv).mono fun e w' (h : e = Ending.returned (dirA ⟨a1, a2, a3, a4⟩) ∧ Below w.heap.size w w') => (show e = Ending.returned (.agg #[.bool a1, .bool a2, .bool a3, .int .i64 a4]) ∧ Below w.heap.size w w' from h))
  have CD2 := Lib.hid (fun w hM hv => (cD2 w hM hv).mono fun e w' (h : e = Ending.returned (dirA ⟨b1, b2, b3, b4⟩) ∧ Below w.heap.size w w') => (show e = Ending.returned (.agg #[.bool b1, .bool b2, .bool b3, .int .i64 b4]) ∧ Below w.heap.size w w' from h))
  obtain ⟨hl1, hl2⟩ := hlb
  have hst := st_cases st
  obtain ⟨ok, hok⟩ : ∃ ok, okSt st = ok := ⟨_, rfl⟩
  rw [hok] at hst
  have HOK := Lib.hid hok
  clear cD1 cD2 hD1 hD2 hL hS hF hK hR hz hy hok
  rcases hst with ⟨rfl, hst⟩ | ⟨rfl, n1, n2, n3, n4, n5, n6⟩
  · cases a1 with
    | true =>
      rcases hst with rfl | rfl | rfl | rfl | rfl | rfl
      all_goals
        go_enter Tryz.func18, Tryz.ntmps18
        go_wp2_with
          (first
            | (go_at_call 14; with_reducible refine (CD1.out _ hM hv).mono ?_; rintro e w1 ⟨rfl, hb1⟩; have hM1 := hM.below hb1 (Nat.le_refl _); have hw1 := hw.below hb1 (Nat.le_refl _))
            | (go_at_call 14; with_reducible refine (CD2.out _ hM1 hw1).mono ?_; rintro e w2 ⟨rfl, hb2⟩; have hB2 := hb1.trans (hb2.mono hb1.size); have hM2 := hM.below hB2 (Nat.le_refl _); have hw2 := hw.below hB2 (Nat.le_refl _))
            | (go_at_call 50; with_reducible refine (CV.out _ hM2 hw2).mono ?_; rintro e w3 hq; obtain ⟨ps, pa, pc, rfl, hown, hps, hb3⟩ := wordsq_open hq; clear hq; have hB3 := hB2.trans (hb3.mono hB2.size); have hM3 := hM.below hB3 (Nat.le_refl _); have hw3 := hw.below hB3 (Nat.le_refl _); have HPS := Lib.hid hps; clear hps; have hpn : ps.length ≤ 9223372036854775807 := (by obtain ⟨_, _, hve, hlc, hlm, _⟩ := own_reads hown; unfold maxLen at hlm; omega))
            | (go_at_call 49; with_reducible refine (star_is ps L HPS.out pa pc _ w3 hown hpn _ HS.out).mono ?_; rintro e w4 ⟨rfl, rfl⟩)
            | (go_at_call 16; with_reducible refine (CL.out _ hM3 hw3).mono ?_; rintro e w5 ⟨rfl, hb5⟩; have hB5 := hB3.trans (hb5.mono hB3.size); have hw5 := hw.below hB5 (Nat.le_refl _))
            | (go_at_call 51; with_reducible refine (CC.out _ hw5).mono ?_; rintro e w6 hq; rcases hdsq_open hq with ⟨hk, rfl, hb6⟩ | ⟨hk, g, c, rfl, _, hb6⟩ <;> clear hq))
        go_ret
        exact ⟨ret_bool (by rw [← HR.out, HOK.out]; simp), hb1⟩
    | false =>
      cases b1 with
      | true =>
        rcases hst with rfl | rfl | rfl | rfl | rfl | rfl
        all_goals
          go_enter Tryz.func18, Tryz.ntmps18
          go_wp2_with
            (first
              | (go_at_call 14; with_reducible refine (CD1.out _ hM hv).mono ?_; rintro e w1 ⟨rfl, hb1⟩; have hM1 := hM.below hb1 (Nat.le_refl _); have hw1 := hw.below hb1 (Nat.le_refl _))
              | (go_at_call 14; with_reducible refine (CD2.out _ hM1 hw1).mono ?_; rintro e w2 ⟨rfl, hb2⟩; have hB2 := hb1.trans (hb2.mono hb1.size); have hM2 := hM.below hB2 (Nat.le_refl _); have hw2 := hw.below hB2 (Nat.le_refl _))
              | (go_at_call 50; with_reducible refine (CV.out _ hM2 hw2).mono ?_; rintro e w3 hq; obtain ⟨ps, pa, pc, rfl, hown, hps, hb3⟩ := wordsq_open hq; clear hq; have hB3 := hB2.trans (hb3.mono hB2.size); have hM3 := hM.below hB3 (Nat.le_refl _); have hw3 := hw.below hB3 (Nat.le_refl _); have HPS := Lib.hid hps; clear hps; have hpn : ps.length ≤ 9223372036854775807 := (by obtain ⟨_, _, hve, hlc, hlm, _⟩ := own_reads hown; unfold maxLen at hlm; omega))
              | (go_at_call 49; with_reducible refine (star_is ps L HPS.out pa pc _ w3 hown hpn _ HS.out).mono ?_; rintro e w4 ⟨rfl, rfl⟩)
              | (go_at_call 16; with_reducible refine (CL.out _ hM3 hw3).mono ?_; rintro e w5 ⟨rfl, hb5⟩; have hB5 := hB3.trans (hb5.mono hB3.size); have hw5 := hw.below hB5 (Nat.le_refl _))
              | (go_at_call 51; with_reducible refine (CC.out _ hw5).mono ?_; rintro e w6 hq; rcases hdsq_open hq with ⟨hk, rfl, hb6⟩ | ⟨hk, g, c, rfl, _, hb6⟩ <;> clear hq))
          go_ret
          exact ⟨ret_bool (by rw [← HR.out, HOK.out]; simp), hB2⟩
      | false =>
        cases S with
        | true =>
          rcases hst with rfl | rfl | rfl | rfl | rfl | rfl
          all_goals
            go_enter Tryz.func18, Tryz.ntmps18
            go_wp2_with
              (first
                | (go_at_call 14; with_reducible refine (CD1.out _ hM hv).mono ?_; rintro e w1 ⟨rfl, hb1⟩; have hM1 := hM.below hb1 (Nat.le_refl _); have hw1 := hw.below hb1 (Nat.le_refl _))
                | (go_at_call 14; with_reducible refine (CD2.out _ hM1 hw1).mono ?_; rintro e w2 ⟨rfl, hb2⟩; have hB2 := hb1.trans (hb2.mono hb1.size); have hM2 := hM.below hB2 (Nat.le_refl _); have hw2 := hw.below hB2 (Nat.le_refl _))
                | (go_at_call 50; with_reducible refine (CV.out _ hM2 hw2).mono ?_; rintro e w3 hq; obtain ⟨ps, pa, pc, rfl, hown, hps, hb3⟩ := wordsq_open hq; clear hq; have hB3 := hB2.trans (hb3.mono hB2.size); have hM3 := hM.below hB3 (Nat.le_refl _); have hw3 := hw.below hB3 (Nat.le_refl _); have HPS := Lib.hid hps; clear hps; have hpn : ps.length ≤ 9223372036854775807 := (by obtain ⟨_, _, hve, hlc, hlm, _⟩ := own_reads hown; unfold maxLen at hlm; omega))
                | (go_at_call 49; with_reducible refine (star_is ps L HPS.out pa pc _ w3 hown hpn _ HS.out).mono ?_; rintro e w4 ⟨rfl, rfl⟩)
                | (go_at_call 16; with_reducible refine (CL.out _ hM3 hw3).mono ?_; rintro e w5 ⟨rfl, hb5⟩; have hB5 := hB3.trans (hb5.mono hB3.size); have hw5 := hw.below hB5 (Nat.le_refl _))
                | (go_at_call 51; with_reducible refine (CC.out _ hw5).mono ?_; rintro e w6 hq; rcases hdsq_open hq with ⟨hk, rfl, hb6⟩ | ⟨hk, g, c, rfl, _, hb6⟩ <;> clear hq))
            go_ret
            exact ⟨ret_bool (by rw [← HR.out, HOK.out]; simp), hB3⟩
        | false =>
          by_cases hF0 : 0 < F
          · have hd : decide (0 < F) = true := decide_eq_true hF0
            rcases hst with rfl | rfl | rfl | rfl | rfl | rfl
            all_goals
              go_enter Tryz.func18, Tryz.ntmps18
              go_wp2_with
                (first
                  | (go_at_call 14; with_reducible refine (CD1.out _ hM hv).mono ?_; rintro e w1 ⟨rfl, hb1⟩; have hM1 := hM.below hb1 (Nat.le_refl _); have hw1 := hw.below hb1 (Nat.le_refl _))
                  | (go_at_call 14; with_reducible refine (CD2.out _ hM1 hw1).mono ?_; rintro e w2 ⟨rfl, hb2⟩; have hB2 := hb1.trans (hb2.mono hb1.size); have hM2 := hM.below hB2 (Nat.le_refl _); have hw2 := hw.below hB2 (Nat.le_refl _))
                  | (go_at_call 50; with_reducible refine (CV.out _ hM2 hw2).mono ?_; rintro e w3 hq; obtain ⟨ps, pa, pc, rfl, hown, hps, hb3⟩ := wordsq_open hq; clear hq; have hB3 := hB2.trans (hb3.mono hB2.size); have hM3 := hM.below hB3 (Nat.le_refl _); have hw3 := hw.below hB3 (Nat.le_refl _); have HPS := Lib.hid hps; clear hps; have hpn : ps.length ≤ 9223372036854775807 := (by obtain ⟨_, _, hve, hlc, hlm, _⟩ := own_reads hown; unfold maxLen at hlm; omega))
                  | (go_at_call 49; with_reducible refine (star_is ps L HPS.out pa pc _ w3 hown hpn _ HS.out).mono ?_; rintro e w4 ⟨rfl, rfl⟩)
                  | (go_at_call 16; with_reducible refine (CL.out _ hM3 hw3).mono ?_; rintro e w5 ⟨rfl, hb5⟩; have hB5 := hB3.trans (hb5.mono hB3.size); have hw5 := hw.below hB5 (Nat.le_refl _))
                  | (go_at_call 51; with_reducible refine (CC.out _ hw5).mono ?_; rintro e w6 hq; rcases hdsq_open hq with ⟨hk, rfl, hb6⟩ | ⟨hk, g, c, rfl, _, hb6⟩ <;> clear hq))
              go_ret
              exact ⟨ret_bool (by rw [← HR.out, HOK.out, hd]; rfl), hB5⟩
          · have hd : decide (0 < F) = false := decide_eq_false hF0
            have HD := Lib.hid hd
            rcases hst with rfl | rfl | rfl | rfl | rfl | rfl
            all_goals
              go_enter Tryz.func18, Tryz.ntmps18
              go_wp2_with
                (first
                  | (go_at_call 14; with_reducible refine (CD1.out _ hM hv).mono ?_; rintro e w1 ⟨rfl, hb1⟩; have hM1 := hM.below hb1 (Nat.le_refl _); have hw1 := hw.below hb1 (Nat.le_refl _))
                  | (go_at_call 14; with_reducible refine (CD2.out _ hM1 hw1).mono ?_; rintro e w2 ⟨rfl, hb2⟩; have hB2 := hb1.trans (hb2.mono hb1.size); have hM2 := hM.below hB2 (Nat.le_refl _); have hw2 := hw.below hB2 (Nat.le_refl _))
                  | (go_at_call 50; with_reducible refine (CV.out _ hM2 hw2).mono ?_; rintro e w3 hq; obtain ⟨ps, pa, pc, rfl, hown, hps, hb3⟩ := wordsq_open hq; clear hq; have hB3 := hB2.trans (hb3.mono hB2.size); have hM3 := hM.below hB3 (Nat.le_refl _); have hw3 := hw.below hB3 (Nat.le_refl _); have HPS := Lib.hid hps; clear hps; have hpn : ps.length ≤ 9223372036854775807 := (by obtain ⟨_, _, hve, hlc, hlm, _⟩ := own_reads hown; unfold maxLen at hlm; omega))
                  | (go_at_call 49; with_reducible refine (star_is ps L HPS.out pa pc _ w3 hown hpn _ HS.out).mono ?_; rintro e w4 ⟨rfl, rfl⟩)
                  | (go_at_call 16; with_reducible refine (CL.out _ hM3 hw3).mono ?_; rintro e w5 ⟨rfl, hb5⟩; have hB5 := hB3.trans (hb5.mono hB3.size); have hw5 := hw.below hB5 (Nat.le_refl _))
                  | (go_at_call 51; with_reducible refine (CC.out _ hw5).mono ?_; rintro e w6 hq; rcases hdsq_open hq with ⟨hk, rfl, hb6⟩ | ⟨hk, g, c, rfl, _, hb6⟩ <;> clear hq))
              all_goals
                go_ret
                exact ⟨ret_bool (by rw [← HR.out, HOK.out, HD.out]; cases K <;> simp at hk ⊢), hB5.trans (hb6.mono hB5.size)⟩
  · go_enter Tryz.func18, Tryz.ntmps18
    go_wp2_with fail
    go_ret
    exact ⟨ret_bool (by rw [← HR.out, HOK.out]; rfl), Below.refl _ _⟩
end Go.Proofs.YtkobhknggamejaaGreatDoor
