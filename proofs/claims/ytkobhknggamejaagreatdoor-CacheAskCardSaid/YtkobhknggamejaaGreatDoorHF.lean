/- Cache: lifetimes and ages, in both packages. -/
import Derived.Test.YtkobhknggamejaaGreatDoorHE
import Derived.Deep.RegionHeld3
namespace Go.Proofs.YtkobhknggamejaaGreatDoor
set_option linter.unusedVariables false
set_option linter.unusedSimpArgs false
open Go.RowKit

abbrev ageS : ByteArray := ⟨#[97, 103, 101]⟩
def ageH (hs : List Hd) : Int := max (secI ((hdrL hs [97, 103, 101]).getD ⟨#[]⟩).data.toList) 0
/-- for how long a response is fresh -/
def lifeL (hs : List Hd) : Int := if (dirL hs).nc = true ∨ (dirL hs).ma < 0 then 0 else max ((dirL hs).ma - ageH hs) 0 * 1000
theorem ageH_bd (hs : List Hd) : 0 ≤ ageH hs ∧ ageH hs < 1000000000 := by
  have := secI_bd ((hdrL hs [97, 103, 101]).getD ⟨#[]⟩).data.toList
  unfold ageH
  omega
theorem lifeL_bd (hs : List Hd) : 0 ≤ lifeL hs ∧ lifeL hs ≤ 1000000000000 := by
  have h1 := ageH_bd hs
  have h2 := dirL_bd hs
  unfold lifeL
  split <;> omega
set_option maxRecDepth 20000 in
theorem life_is (hs : List Hd) (v : Value) (w : World) (hM : MaxAt w) (hv : SlK hdC 2 w v hs) (hz : HdSz hs) (R : Int) (hR : lifeL hs = R) :
    Calls Tryz.prog 16 #[v] w fun e w' => e = .returned (.int .i64 R) ∧ Below w.heap.size w w' := by
  have hbd := dirL_bd hs
  have hab := ageH_bd hs
  unfold lifeL at hR
  obtain ⟨D, hD⟩ : ∃ D, dirL hs = D := ⟨_, rfl⟩
  obtain ⟨V, hV⟩ : ∃ V, (hdrL hs ageS.data.toList).getD ⟨#[]⟩ = V := ⟨_, rfl⟩
  obtain ⟨B, hB⟩ : ∃ B, (hdrL hs ageS.data.toList).isSome = B := ⟨_, rfl⟩
  obtain ⟨S, hS⟩ : ∃ S, secI V.data.toList = S := ⟨_, rfl⟩
  obtain ⟨n, hn⟩ : ∃ n, ageH hs = n := ⟨_, rfl⟩
  have hnS : max S 0 = n := by rw [← hn, ← hS, ← hV]; rfl
  have hVs : V.size ≤ 100000 := by rw [← hV]; exact hdr_size hs _ hz
  have CD := Lib.hid (dir_is hs v w hM hv hz D hD)
  have CH := Lib.hid (fun w hv => hdr_at hs v ageS w hv hz (by decide) V B hV hB)
  have CN := Lib.hid (fun w => sec_is V w (by omega) S hS n hnS (decide (0 ≤ S)) rfl)
  obtain ⟨sa, sc, rfl, _⟩ := hv.shape
  rw [hD] at hbd hR
  rw [hn] at hab hR
  obtain ⟨ns, nc, mu, ma⟩ := D
  have HR := Lib.hid hR
  have h1 : -1 ≤ ma := hbd.1
  have h2 : ma < 1000000000 := hbd.2
  have h3 := hab.1
  have h4 := hab.2
  obtain ⟨sb, hsb⟩ : ∃ sb, decide (0 ≤ S) = sb := ⟨_, rfl⟩
  rw [hsb] at CN
  clear hR hD hV hB hS hn hnS hbd hab hz hM hsb
  have cDa : ∀ e w', (e = Ending.returned (dirA ⟨ns, nc, mu, ma⟩) ∧ Below w.heap.size w w') → (e = Ending.returned (.agg #[.bool ns, .bool nc, .bool mu, .int .i64 ma]) ∧ Below w.heap.size w w') := fun e w' h => h
  have CD2 := Lib.hid (CD.out.mono cDa)
  clear CD cDa
  cases nc with
  | true =>
    go_enter Tryz.func16, Tryz.ntmps16
    go_wp2_with (first
      | (go_at_call 14; with_reducible refine CD2.out.mono ?_; rintro e w1 ⟨rfl, hb1⟩; have A1 := AtL.new w1 [.bool ns, .bool true, .bool mu, .int .i64 ma] 28; have hal := hb1.alloc hb1.size (.cells [.bool ns, .bool true, .bool mu, .int .i64 ma].toArray 28); have hv1 := hv.below hal (Nat.le_refl _))
      | (go_at_call 12; with_reducible refine (CH.out _ hv1).mono ?_; rintro e w2 ⟨rfl, hb2⟩; have hB2 := hal.trans (hb2.mono hal.size); have A2 := A1.next hb2)
      | (go_at_call 43; with_reducible refine (CN.out _).mono ?_; rintro e w3 ⟨rfl, hb3⟩; have hB3 := hB2.trans (hb3.mono hB2.size); have A3 := A2.next hb3; have z0 := A3.c 0 rfl; have z1 := A3.c 1 rfl; have z2 := A3.c 2 rfl; have z3 := A3.c 3 rfl; have al3 := A3.lt))
    go_ret
    exact ⟨ret_int (by rw [← HR.out]; simp), hal⟩
  | false =>
    by_cases hm : ma < 0
    · have hd : decide (ma < 0) = true := decide_eq_true hm
      go_enter Tryz.func16, Tryz.ntmps16
      go_wp2_with (first
        | (go_at_call 14; with_reducible refine CD2.out.mono ?_; rintro e w1 ⟨rfl, hb1⟩; have A1 := AtL.new w1 [.bool ns, .bool false, .bool mu, .int .i64 ma] 28; have hal := hb1.alloc hb1.size (.cells [.bool ns, .bool false, .bool mu, .int .i64 ma].toArray 28); have hv1 := hv.below hal (Nat.le_refl _))
        | (go_at_call 12; with_reducible refine (CH.out _ hv1).mono ?_; rintro e w2 ⟨rfl, hb2⟩; have hB2 := hal.trans (hb2.mono hal.size); have A2 := A1.next hb2)
        | (go_at_call 43; with_reducible refine (CN.out _).mono ?_; rintro e w3 ⟨rfl, hb3⟩; have hB3 := hB2.trans (hb3.mono hB2.size); have A3 := A2.next hb3; have z0 := A3.c 0 rfl; have z1 := A3.c 1 rfl; have z2 := A3.c 2 rfl; have z3 := A3.c 3 rfl; have al3 := A3.lt))
      go_ret
      exact ⟨ret_int (by rw [← HR.out, if_pos (Or.inr hm)]), hal⟩
    · have hd : decide (ma < 0) = false := decide_eq_false hm
      have h0 : 0 ≤ ma := by omega
      clear hm
      go_enter Tryz.func16, Tryz.ntmps16
      go_wp2_with (first
        | (go_at_call 14; with_reducible refine CD2.out.mono ?_; rintro e w1 ⟨rfl, hb1⟩; have A1 := AtL.new w1 [.bool ns, .bool false, .bool mu, .int .i64 ma] 28; have hal := hb1.alloc hb1.size (.cells [.bool ns, .bool false, .bool mu, .int .i64 ma].toArray 28); have hv1 := hv.below hal (Nat.le_refl _))
        | (go_at_call 12; with_reducible refine (CH.out _ hv1).mono ?_; rintro e w2 ⟨rfl, hb2⟩; have hB2 := hal.trans (hb2.mono hal.size); have A2 := A1.next hb2)
        | (go_at_call 43; with_reducible refine (CN.out _).mono ?_; rintro e w3 ⟨rfl, hb3⟩; have hB3 := hB2.trans (hb3.mono hB2.size); have A3 := A2.next hb3; have z0 := A3.c 0 rfl; have z1 := A3.c 1 rfl; have z2 := A3.c 2 rfl; have z3 := A3.c 3 rfl; have al3 := A3.lt))
      go_ret
      exact ⟨ret_int (by rw [← HR.out, if_neg (by simp; omega)]), hB3⟩
set_option maxRecDepth 20000 in
theorem rlife_is (hs : List Hd) (v : Value) (w : World) (hv : SlK hdC 2 w v hs) (hz : HdSz hs) (R : Int) (hR : lifeL hs = R) :
    Calls Tryz.prog 17 #[v] w fun e w' => e = .returned (.int .i64 R) ∧ Below w.heap.size w w' := by
  have hbd := dirL_bd hs
  have hab := ageH_bd hs
  unfold lifeL at hR
  obtain ⟨D, hD⟩ : ∃ D, dirL hs = D := ⟨_, rfl⟩
  obtain ⟨V, hV⟩ : ∃ V, (hdrL hs ageS.data.toList).getD ⟨#[]⟩ = V := ⟨_, rfl⟩
  obtain ⟨S, hS⟩ : ∃ S, secI V.data.toList = S := ⟨_, rfl⟩
  obtain ⟨n, hn⟩ : ∃ n, ageH hs = n := ⟨_, rfl⟩
  have hnS : max S 0 = n := by rw [← hn, ← hS, ← hV]; rfl
  have hSb := secI_bd V.data.toList
  have hVs : V.size ≤ 100000 := by rw [← hV]; exact hdr_size hs _ hz
  have CD := Lib.hid (rdir_is hs v w hv hz D hD)
  have CH := Lib.hid (fun w hv => rvalue_is hs v ageS w hv hz (by decide) V hV)
  have CN := Lib.hid (fun w => num_is V w (by omega) S hS)
  obtain ⟨sa, sc, rfl, _⟩ := hv.shape
  rw [hD] at hbd hR
  rw [hn] at hab hR
  rw [hS] at hSb
  obtain ⟨ns, nc, mu, ma⟩ := D
  have HR := Lib.hid hR
  have h1 : -1 ≤ ma := hbd.1
  have h2 : ma < 1000000000 := hbd.2
  have h3 := hSb.1
  have h4 := hSb.2
  have HN := Lib.hid hnS
  clear hR hD hV hS hn hnS hbd hab hz hSb
  have cDa : ∀ e w', (e = Ending.returned (dirA ⟨ns, nc, mu, ma⟩) ∧ Below w.heap.size w w') → (e = Ending.returned (.agg #[.bool ns, .bool nc, .bool mu, .int .i64 ma]) ∧ Below w.heap.size w w') := fun e w' h => h
  have CD2 := Lib.hid (CD.out.mono cDa)
  clear CD cDa
  cases nc with
  | true =>
    go_enter Tryz.func17, Tryz.ntmps17
    go_wp2_with (go_at_call 15; with_reducible refine CD2.out.mono ?_; rintro e w1 ⟨rfl, hb1⟩; have A1 := AtL.new w1 [.bool ns, .bool true, .bool mu, .int .i64 ma] 28; have hal := hb1.alloc hb1.size (.cells [.bool ns, .bool true, .bool mu, .int .i64 ma].toArray 28); have hv1 := hv.below hal (Nat.le_refl _))
    go_ret
    exact ⟨ret_int (by rw [← HR.out]; simp), hal⟩
  | false =>
    by_cases hm : ma < 0
    · have hd : decide (ma < 0) = true := decide_eq_true hm
      go_enter Tryz.func17, Tryz.ntmps17
      go_wp2_with (go_at_call 15; with_reducible refine CD2.out.mono ?_; rintro e w1 ⟨rfl, hb1⟩; have A1 := AtL.new w1 [.bool ns, .bool false, .bool mu, .int .i64 ma] 28; have hal := hb1.alloc hb1.size (.cells [.bool ns, .bool false, .bool mu, .int .i64 ma].toArray 28); have hv1 := hv.below hal (Nat.le_refl _))
      go_ret
      exact ⟨ret_int (by rw [← HR.out, if_pos (Or.inr hm)]), hal⟩
    · have hd : decide (ma < 0) = false := decide_eq_false hm
      have h0 : 0 ≤ ma := by omega
      clear hm
      go_enter Tryz.func17, Tryz.ntmps17
      go_wp2_with (go_at_call 15; with_reducible refine CD2.out.mono ?_; rintro e w1 ⟨rfl, hb1⟩; have A1 := AtL.new w1 [.bool ns, .bool false, .bool mu, .int .i64 ma] 28; have hal := hb1.alloc hb1.size (.cells [.bool ns, .bool false, .bool mu, .int .i64 ma].toArray 28); have hv1 := hv.below hal (Nat.le_refl _))
      obtain ⟨w2, hw2⟩ : ∃ w2 : World, w1.alloc (.cells [.bool ns, .bool false, .bool mu, .int .i64 ma].toArray 28) = w2 := ⟨_, rfl⟩
      obtain ⟨C, hC⟩ : ∃ C, w1.heap.size = C := ⟨_, rfl⟩
      rw [hw2] at A1 hal hv1
      rw [hC] at A1
      rw [hw2, hC]
      clear hw2 hC
      have z0 := A1.c 0 rfl; have z1 := A1.c 1 rfl; have z2 := A1.c 2 rfl; have z3 := A1.c 3 rfl
      have al := A1.lt
      go_region_held3 (fun w' => w'.cell? ⟨C, 3, none⟩ = some (.int .i64 ma))
        (first | exact (brl (Below.refl _ w2).drew _ _ A1.lt).trans (A1.c 3 rfl) | exact (brl hb4 _ _ A1.lt).trans (A1.c 3 rfl) | exact (brl hb5 _ _ A1.lt).trans (A1.c 3 rfl) | go_keep)
        (first
          | (go_at_call 48; (with_reducible refine (CH.out _ (hv1.below (Below.refl _ w2).drew (Nat.le_refl _))).mono ?_); rintro e w4 ⟨rfl, hbb4⟩; have hb4 := (Below.refl _ w2).drew.trans hbb4)
          | (go_at_call 47; (with_reducible refine (CN.out _).mono ?_); rintro e w5 ⟨rfl, rfl⟩; have hb5 := hb4))
      go_wp2_with fail
      go_ret
      exact ⟨ret_int (by rw [← HR.out, if_neg (by simp; omega), ← HN.out, IntWalk.i64_in (ma - max S 0) (by omega), IntWalk.i64_in _ (by omega)]; omega), hal.trans (hb4.mono hal.size)⟩
/-- an entry, as it lies in memory -/
structure Er where
  u : ByteArray
  vv : Value
  st : Int
  hv : Value
  bo : ByteArray
  ti : Int
abbrev erC (e : Er) : List Value := [.string e.u, e.vv, .int .i64 e.st, e.hv, .string e.bo, .int .i64 e.ti]
abbrev erA (e : Er) : Value := .agg #[.string e.u, e.vv, .int .i64 e.st, e.hv, .string e.bo, .int .i64 e.ti]
theorem erC_len (e : Er) : (erC e).length = 6 := rfl
/-- what an entry reads as -/
structure En where
  u : ByteArray
  va : List Hd
  st : Int
  hd : List Hd
  bo : ByteArray
  ti : Int
structure Rd (w : World) (r : Er) (e : En) : Prop where
  u : r.u = e.u
  st : r.st = e.st
  bo : r.bo = e.bo
  ti : r.ti = e.ti
  va : SlK hdC 2 w r.vv e.va
  hd : SlK hdC 2 w r.hv e.hd
theorem Rd.below {w w' : World} {r : Er} {e : En} {B : Nat} (h : Rd w r e) (hb : Below B w w') (hB : w.heap.size ≤ B) : Rd w' r e := ⟨h.u, h.st, h.bo, h.ti, h.va.below hb hB, h.hd.below hb hB⟩
def ageE (t now : Int) : Int := max (clockI now - clockI t) 0
def freshE (e : En) (now : Int) : Bool := decide (ageE e.ti now < lifeL e.hd)
theorem ageE_bd (t now : Int) : 0 ≤ ageE t now ∧ ageE t now ≤ 9007199254740992 := by
  have h1 := clock_bd now
  have h2 := clock_bd t
  unfold ageE
  omega
set_option maxRecDepth 20000 in
theorem eage_is (r : Er) (now : Int) (w : World) (R : Int) (hR : ageE r.ti now = R) :
    Calls Tryz.prog 53 #[erA r, .int .i64 now] w fun e w' => e = .returned (.int .i64 R) ∧ Below w.heap.size w w' := by
  obtain ⟨u, vv, st, hv, bo, ti⟩ := r
  have hR : ageE ti now = R := hR
  have h1 := clock_bd now
  have h2 := clock_bd ti
  obtain ⟨x, hx⟩ : ∃ x, clockI now = x := ⟨_, rfl⟩
  obtain ⟨y, hy⟩ : ∃ y, clockI ti = y := ⟨_, rfl⟩
  unfold ageE at hR
  rw [hx] at h1 hR
  rw [hy] at h2 hR
  have C1 := Lib.hid (fun w => (show Calls Tryz.prog 74 #[.int .i64 now] w fun e w' => e = .returned (.int .i64 x) ∧ w = w' by rw [← hx]; exact clockh_any now w))
  have C2 := Lib.hid (fun w => (show Calls Tryz.prog 74 #[.int .i64 ti] w fun e w' => e = .returned (.int .i64 y) ∧ w = w' by rw [← hy]; exact clockh_any ti w))
  have HR := Lib.hid hR
  have hb := (Below.refl _ w).alloc (Nat.le_refl _) (.cells (erC ⟨u, vv, st, hv, bo, ti⟩).toArray 40)
  have A := AtL.new w (erC ⟨u, vv, st, hv, bo, ti⟩) 40
  clear hx hy hR
  go_enter Tryz.func53, Tryz.ntmps53
  go_wp2_with fail
  obtain ⟨w1, hw1⟩ : ∃ w1 : World, w.alloc (.cells (erC ⟨u, vv, st, hv, bo, ti⟩).toArray 40) = w1 := ⟨_, rfl⟩
  obtain ⟨C, hC⟩ : ∃ C, w.heap.size = C := ⟨_, rfl⟩
  rw [hw1] at hb A
  rw [hC] at A
  rw [hw1, hC]
  have HC := Lib.hid hC
  clear hw1 hC
  have z5 := A.c 5 rfl
  have al := A.lt
  go_region_held3 (fun w' => w'.cell? ⟨C, 5, none⟩ = some (.int .i64 ti)) (first | exact (brl (Below.refl _ w1).drew _ _ A.lt).trans (A.c 5 rfl) | go_keep)
    (first
      | (go_at_call 74; (with_reducible refine (C1.out _).mono ?_); rintro e w4 ⟨rfl, rfl⟩)
      | (go_at_call 74; (with_reducible refine (C2.out _).mono ?_); rintro e w5 ⟨rfl, rfl⟩))
  go_wp2_with fail
  go_ret
  exact ⟨ret_int (by rw [← HR.out, IntWalk.i64_in (x - y) (by omega)]), hb.drew⟩
set_option maxRecDepth 20000 in
theorem reage_is (r : Er) (now : Int) (w : World) (R : Int) (hR : ageE r.ti now = R) :
    Calls Tryz.prog 54 #[erA r, .int .i64 now] w fun e w' => e = .returned (.int .i64 R) ∧ Below w.heap.size w w' := by
  obtain ⟨u, vv, st, hv, bo, ti⟩ := r
  have hR : ageE ti now = R := hR
  have h1 := clock_bd now
  have h2 := clock_bd ti
  obtain ⟨x, hx⟩ : ∃ x, clockI now = x := ⟨_, rfl⟩
  obtain ⟨y, hy⟩ : ∃ y, clockI ti = y := ⟨_, rfl⟩
  unfold ageE at hR
  rw [hx] at h1 hR
  rw [hy] at h2 hR
  have C1 := Lib.hid (fun w => (show Calls Tryz.prog 75 #[.int .i64 now] w fun e w' => e = .returned (.int .i64 x) ∧ w = w' by rw [← hx]; exact rtimeh_any now w))
  have C2 := Lib.hid (fun w => (show Calls Tryz.prog 75 #[.int .i64 ti] w fun e w' => e = .returned (.int .i64 y) ∧ w = w' by rw [← hy]; exact rtimeh_any ti w))
  have HR := Lib.hid hR
  have hb := (Below.refl _ w).alloc (Nat.le_refl _) (.cells (erC ⟨u, vv, st, hv, bo, ti⟩).toArray 40)
  have A := AtL.new w (erC ⟨u, vv, st, hv, bo, ti⟩) 40
  clear hx hy hR
  go_enter Tryz.func54, Tryz.ntmps54
  go_wp2_with fail
  obtain ⟨w1, hw1⟩ : ∃ w1 : World, w.alloc (.cells (erC ⟨u, vv, st, hv, bo, ti⟩).toArray 40) = w1 := ⟨_, rfl⟩
  obtain ⟨C, hC⟩ : ∃ C, w.heap.size = C := ⟨_, rfl⟩
  rw [hw1] at hb A
  rw [hC] at A
  rw [hw1, hC]
  have HC := Lib.hid hC
  clear hw1 hC
  have z5 := A.c 5 rfl
  have al := A.lt
  go_region_held3 (fun w' => w'.cell? ⟨C, 5, none⟩ = some (.int .i64 ti)) (first | exact (brl (Below.refl _ w1).drew _ _ A.lt).trans (A.c 5 rfl) | go_keep)
    (first
      | (go_at_call 75; (with_reducible refine (C1.out _).mono ?_); rintro e w4 ⟨rfl, rfl⟩)
      | (go_at_call 75; (with_reducible refine (C2.out _).mono ?_); rintro e w5 ⟨rfl, rfl⟩))
  go_wp2_with fail
  go_ret
  exact ⟨ret_int (by rw [← HR.out, IntWalk.i64_in (x - y) (by omega)]), hb.drew⟩
theorem rlifeM_is (hs : List Hd) (v : Value) (w : World) (hM : MaxAt w) (hv : SlK hdC 2 w v hs) (hz : HdSz hs) (R : Int) (hR : lifeL hs = R) :
    Calls Tryz.prog 17 #[v] w fun e w' => e = .returned (.int .i64 R) ∧ Below w.heap.size w w' := rlife_is hs v w hv hz R hR
theorem er_mk {W w' : World} {A : Nat} {a b c d e f : Value} (h : AtL W A [a, b, c, d, e, f]) (hb : Below W.heap.size W w') : w'.cell? ⟨A, 0, none⟩ = some a ∧ w'.cell? ⟨A, 1, none⟩ = some b ∧ w'.cell? ⟨A, 2, none⟩ = some c ∧ w'.cell? ⟨A, 3, none⟩ = some d ∧ w'.cell? ⟨A, 4, none⟩ = some e ∧ w'.cell? ⟨A, 5, none⟩ = some f :=
  ⟨(brl hb _ _ h.lt).trans (h.c 0 rfl), (brl hb _ _ h.lt).trans (h.c 1 rfl), (brl hb _ _ h.lt).trans (h.c 2 rfl), (brl hb _ _ h.lt).trans (h.c 3 rfl), (brl hb _ _ h.lt).trans (h.c 4 rfl), (brl hb _ _ h.lt).trans (h.c 5 rfl)⟩
set_option maxRecDepth 20000 in
theorem fresh_is (r : Er) (en : En) (now : Int) (w : World) (hM : MaxAt w) (hr : Rd w r en) (hz : HdSz en.hd) (R : Bool) (hR : freshE en now = R) :
    Calls Tryz.prog 21 #[erA r, .int .i64 now] w fun e w' => e = .returned (.bool R) ∧ Below w.heap.size w w' := by
  obtain ⟨u, vv, st, hv, bo, ti⟩ := r
  have hti : ti = en.ti := hr.ti
  have hhv : SlK hdC 2 w hv en.hd := hr.hd
  unfold freshE at hR
  rw [← hti] at hR
  have h1 := ageE_bd ti now
  have h2 := lifeL_bd en.hd
  obtain ⟨x, hx⟩ : ∃ x, ageE ti now = x := ⟨_, rfl⟩
  obtain ⟨y, hy⟩ : ∃ y, lifeL en.hd = y := ⟨_, rfl⟩
  rw [hx] at h1 hR
  rw [hy] at h2 hR
  have C1 := Lib.hid (fun w => eage_is ⟨u, vv, st, hv, bo, ti⟩ now w x hx)
  have C2 := Lib.hid (fun (w : World) (v : Value) hM hq => life_is en.hd v w hM hq hz y hy)
  have HR := Lib.hid hR
  have hb := (Below.refl _ w).alloc (Nat.le_refl _) (.cells (erC ⟨u, vv, st, hv, bo, ti⟩).toArray 40)
  have A := AtL.new w (erC ⟨u, vv, st, hv, bo, ti⟩) 40
  have hM1 := hM.below hb (Nat.le_refl _)
  have hv1 := hhv.below hb (Nat.le_refl _)
  clear hx hy hR hti hr hz
  go_enter Tryz.func21, Tryz.ntmps21
  go_wp2_with fail
  obtain ⟨w1, hw1⟩ : ∃ w1 : World, w.alloc (.cells (erC ⟨u, vv, st, hv, bo, ti⟩).toArray 40) = w1 := ⟨_, rfl⟩
  obtain ⟨C, hC⟩ : ∃ C, w.heap.size = C := ⟨_, rfl⟩
  rw [hw1] at hb A hM1 hv1
  rw [hC] at A
  rw [hw1, hC]
  have HC := Lib.hid hC
  clear hw1 hC
  have z0 := A.c 0 rfl; have z1 := A.c 1 rfl; have z2 := A.c 2 rfl; have z3 := A.c 3 rfl; have z4 := A.c 4 rfl; have z5 := A.c 5 rfl
  have al := A.lt
  have hMd := hM1.below (Below.refl _ w1).drew (Nat.le_refl _)
  have hvd := hv1.below (Below.refl _ w1).drew (Nat.le_refl _)
  go_region_held3 (fun w' => w'.cell? ⟨C, 0, none⟩ = some (.string u) ∧ w'.cell? ⟨C, 1, none⟩ = some vv ∧ w'.cell? ⟨C, 2, none⟩ = some (.int .i64 st) ∧ w'.cell? ⟨C, 3, none⟩ = some hv ∧ w'.cell? ⟨C, 4, none⟩ = some (.string bo) ∧ w'.cell? ⟨C, 5, none⟩ = some (.int .i64 ti))
    (first | exact er_mk A (Below.refl _ w1).drew | exact er_mk A hb4 | exact er_mk A hb5 | go_keep)
    (first
      | (go_at_call 53; (with_reducible refine (C1.out _).mono ?_); rintro e w4 ⟨rfl, hbb4⟩; have hb4 := (Below.refl _ w1).drew.trans hbb4; have hM4 := hM1.below hb4 (Nat.le_refl _); have hv4 := hv1.below hb4 (Nat.le_refl _))
      | (go_at_call 16; (with_reducible refine (C2.out _ _ hM4 hv4).mono ?_); rintro e w5 ⟨rfl, hbb5⟩; have hb5 := hb4.trans (hbb5.mono hb4.size)))
  go_wp2_with fail
  go_ret
  exact ⟨ret_bool HR.out, hb.trans (hb5.mono hb.size)⟩
set_option maxRecDepth 20000 in
theorem rfresh_is (r : Er) (en : En) (now : Int) (w : World) (hM : MaxAt w) (hr : Rd w r en) (hz : HdSz en.hd) (R : Bool) (hR : freshE en now = R) :
    Calls Tryz.prog 22 #[erA r, .int .i64 now] w fun e w' => e = .returned (.bool R) ∧ Below w.heap.size w w' := by
  obtain ⟨u, vv, st, hv, bo, ti⟩ := r
  have hti : ti = en.ti := hr.ti
  have hhv : SlK hdC 2 w hv en.hd := hr.hd
  unfold freshE at hR
  rw [← hti] at hR
  have h1 := ageE_bd ti now
  have h2 := lifeL_bd en.hd
  obtain ⟨x, hx⟩ : ∃ x, ageE ti now = x := ⟨_, rfl⟩
  obtain ⟨y, hy⟩ : ∃ y, lifeL en.hd = y := ⟨_, rfl⟩
  rw [hx] at h1 hR
  rw [hy] at h2 hR
  have C1 := Lib.hid (fun w => reage_is ⟨u, vv, st, hv, bo, ti⟩ now w x hx)
  have C2 := Lib.hid (fun (w : World) (v : Value) hM hq => rlifeM_is en.hd v w hM hq hz y hy)
  have HR := Lib.hid hR
  have hb := (Below.refl _ w).alloc (Nat.le_refl _) (.cells (erC ⟨u, vv, st, hv, bo, ti⟩).toArray 40)
  have A := AtL.new w (erC ⟨u, vv, st, hv, bo, ti⟩) 40
  have hM1 := hM.below hb (Nat.le_refl _)
  have hv1 := hhv.below hb (Nat.le_refl _)
  clear hx hy hR hti hr hz
  go_enter Tryz.func22, Tryz.ntmps22
  go_wp2_with fail
  obtain ⟨w1, hw1⟩ : ∃ w1 : World, w.alloc (.cells (erC ⟨u, vv, st, hv, bo, ti⟩).toArray 40) = w1 := ⟨_, rfl⟩
  obtain ⟨C, hC⟩ : ∃ C, w.heap.size = C := ⟨_, rfl⟩
  rw [hw1] at hb A hM1 hv1
  rw [hC] at A
  rw [hw1, hC]
  have HC := Lib.hid hC
  clear hw1 hC
  have z0 := A.c 0 rfl; have z1 := A.c 1 rfl; have z2 := A.c 2 rfl; have z3 := A.c 3 rfl; have z4 := A.c 4 rfl; have z5 := A.c 5 rfl
  have al := A.lt
  have hMd := hM1.below (Below.refl _ w1).drew (Nat.le_refl _)
  have hvd := hv1.below (Below.refl _ w1).drew (Nat.le_refl _)
  go_region_held3 (fun w' => w'.cell? ⟨C, 0, none⟩ = some (.string u) ∧ w'.cell? ⟨C, 1, none⟩ = some vv ∧ w'.cell? ⟨C, 2, none⟩ = some (.int .i64 st) ∧ w'.cell? ⟨C, 3, none⟩ = some hv ∧ w'.cell? ⟨C, 4, none⟩ = some (.string bo) ∧ w'.cell? ⟨C, 5, none⟩ = some (.int .i64 ti))
    (first | exact er_mk A (Below.refl _ w1).drew | exact er_mk A hb4 | exact er_mk A hb5 | go_keep)
    (first
      | (go_at_call 54; (with_reducible refine (C1.out _).mono ?_); rintro e w4 ⟨rfl, hbb4⟩; have hb4 := (Below.refl _ w1).drew.trans hbb4; have hM4 := hM1.below hb4 (Nat.le_refl _); have hv4 := hv1.below hb4 (Nat.le_refl _))
      | (go_at_call 17; (with_reducible refine (C2.out _ _ hM4 hv4).mono ?_); rintro e w5 ⟨rfl, hbb5⟩; have hb5 := hb4.trans (hbb5.mono hb4.size)))
  go_wp2_with fail
  go_ret
  exact ⟨ret_bool HR.out, hb.trans (hb5.mono hb.size)⟩
end Go.Proofs.YtkobhknggamejaaGreatDoor
