/- Fetch: small functions of a state in memory. -/
import Derived.Test.YtjdhaacmlpegoaaGreatDoorTB
import Derived.Test.YtjdhaacmlpegoaaGreatDoorB7
namespace Go.Proofs.YtjdhaacmlpegoaaGreatDoor
set_option linter.unusedVariables false
set_option linter.unusedSimpArgs false
open Go.RowKit

theorem s7_mk {W w' : World} {s : Nat} {tk : Int} {me ur og : ByteArray} {mo : Int} {vh : Value} {bo : ByteArray} {ck : Bool} {ph : Int} {a b c d e f sm : ByteArray} {ho : Int} {ch hi : Bool} {st : Int} {wh : Value} {sb : ByteArray} {er : Int} (h : AtL W s (fsC tk me ur og mo vh bo ck ph a b c d e f sm ho ch hi st wh sb er)) (hb : Below W.heap.size W w') : w'.cell? ⟨s, 3, none⟩ = some (.string og) ∧ w'.cell? ⟨s, 9, none⟩ = some (.string a) ∧ w'.cell? ⟨s, 10, none⟩ = some (.string b) ∧ w'.cell? ⟨s, 11, none⟩ = some (.string c) ∧ w'.cell? ⟨s, 12, none⟩ = some (.string d) ∧ w'.cell? ⟨s, 13, none⟩ = some (.string e) ∧ w'.cell? ⟨s, 14, none⟩ = some (.string f) :=
  have h' := h.next hb
  ⟨h'.c 3 rfl, h'.c 9 rfl, h'.c 10 rfl, h'.c 11 rfl, h'.c 12 rfl, h'.c 13 rfl, h'.c 14 rfl⟩
set_option maxRecDepth 20000 in
theorem foreign_is (s0 : Nat) (tk : Int) (me ur og : ByteArray) (mo : Int) (vh : Value) (bo : ByteArray) (ck : Bool) (ph : Int) (a b c d e f sm : ByteArray) (ho : Int) (ch hi : Bool) (st : Int) (wh : Value) (sb : ByteArray) (er : Int) (w : World) (hM : MaxAt w) (S0 : AtL w s0 (fsC tk me ur og mo vh bo ck ph a b c d e f sm ho ch hi st wh sb er)) (ha : a.size ≤ 40000) (hb : b.size ≤ 40000) (hc : c.size ≤ 40000) (hdd : d.size ≤ 40000) (he : e.size ≤ 40000) (hf : f.size ≤ 40000) (O : ByteArray) (hO : O.data.toList = orgL (a.data.toList, b.data.toList, c.data.toList, d.data.toList, e.data.toList, f.data.toList)) (R : Bool) (hR : (O.toList != og.toList) = R) :
    Calls Tryz.prog 126 #[.pointer (some ⟨s0, 0, none⟩)] w fun x w' => x = .returned (.bool R) ∧ Below w.heap.size w w' := by
  have CO := Lib.hid (fun (w' : World) (hb' : Below w.heap.size w w') => origin_is a b c d e f O w' ha hb hc hdd he hf (hM.below hb' (Nat.le_refl _)) hO)
  have HR := Lib.hid hR
  clear hO hM hR
  have z0 := S0.c 0 rfl; have z1 := S0.c 1 rfl; have z2 := S0.c 2 rfl; have z3 := S0.c 3 rfl; have z4 := S0.c 4 rfl; have z5 := S0.c 5 rfl; have z6 := S0.c 6 rfl; have z7 := S0.c 7 rfl; have z8 := S0.c 8 rfl; have z9 := S0.c 9 rfl; have z10 := S0.c 10 rfl; have z11 := S0.c 11 rfl; have z12 := S0.c 12 rfl; have z13 := S0.c 13 rfl; have z14 := S0.c 14 rfl; have z15 := S0.c 15 rfl; have z16 := S0.c 16 rfl; have z17 := S0.c 17 rfl; have z18 := S0.c 18 rfl; have z19 := S0.c 19 rfl; have z20 := S0.c 20 rfl; have z21 := S0.c 21 rfl; have z22 := S0.c 22 rfl
  have zl := S0.lt
  go_enter Tryz.func126, Tryz.ntmps126
  go_wp2_with fail
  go_region_held3 (fun w' => w'.cell? ⟨s0, 3, none⟩ = some (.string og) ∧ w'.cell? ⟨s0, 9, none⟩ = some (.string a) ∧ w'.cell? ⟨s0, 10, none⟩ = some (.string b) ∧ w'.cell? ⟨s0, 11, none⟩ = some (.string c) ∧ w'.cell? ⟨s0, 12, none⟩ = some (.string d) ∧ w'.cell? ⟨s0, 13, none⟩ = some (.string e) ∧ w'.cell? ⟨s0, 14, none⟩ = some (.string f))
    (first | exact s7_mk S0 (Below.refl _ w).drew | exact s7_mk S0 hb4 | go_keep)
    (first | (go_at_call 29; (with_reducible refine (CO.out _ (Below.refl _ w).drew).mono ?_); rintro e4 w4 ⟨rfl, hbb4⟩; have hb4 : Below w.heap.size w w4 := (Below.refl w.heap.size w).drew.trans hbb4) | fail)
  go_wp2_with fail
  go_ret
  exact ⟨ret_bool (by rw [← HR.out]; rfl), hb4⟩
theorem text_is (s0 : Nat) (tk : Int) (me ur og : ByteArray) (mo : Int) (vh : Value) (bo : ByteArray) (ck : Bool) (ph : Int) (a b c d e f sm : ByteArray) (ho : Int) (ch hi : Bool) (st : Int) (wh : Value) (sb : ByteArray) (er : Int) (w : World) (S0 : AtL w s0 (fsC tk me ur og mo vh bo ck ph a b c d e f sm ho ch hi st wh sb er)) (ha : a.size ≤ 40000) (hb : b.size ≤ 40000) (hc : c.size ≤ 40000) (hdd : d.size ≤ 40000) (he : e.size ≤ 40000) (hf : f.size ≤ 40000) (T : ByteArray) (hT : T.data.toList = formatL (a.data.toList, b.data.toList, c.data.toList, d.data.toList, e.data.toList, [])) :
    Calls Tryz.prog 74 #[.pointer (some ⟨s0, 0, none⟩)] w fun x w' => x = .returned (.string T) ∧ Below w.heap.size w w' := by
  have CW := Lib.hid (fun (w' : World) => without_any a b c d e f w')
  have CF := Lib.hid (fun (w' : World) => format_is4 a b c d e ⟨#[]⟩ T w' (by omega) (by omega) (by omega) (by omega) (by omega) (by decide) hT)
  clear hT
  have z0 := S0.c 0 rfl; have z1 := S0.c 1 rfl; have z2 := S0.c 2 rfl; have z3 := S0.c 3 rfl; have z4 := S0.c 4 rfl; have z5 := S0.c 5 rfl; have z6 := S0.c 6 rfl; have z7 := S0.c 7 rfl; have z8 := S0.c 8 rfl; have z9 := S0.c 9 rfl; have z10 := S0.c 10 rfl; have z11 := S0.c 11 rfl; have z12 := S0.c 12 rfl; have z13 := S0.c 13 rfl; have z14 := S0.c 14 rfl; have z15 := S0.c 15 rfl; have z16 := S0.c 16 rfl; have z17 := S0.c 17 rfl; have z18 := S0.c 18 rfl; have z19 := S0.c 19 rfl; have z20 := S0.c 20 rfl; have z21 := S0.c 21 rfl; have z22 := S0.c 22 rfl
  have zl := S0.lt
  go_enter Tryz.func74, Tryz.ntmps74
  go_wp2_with (first
    | (go_at_call 124; (with_reducible refine (CW.out _).mono ?_); rintro e1 w1 ⟨rfl, hb1⟩)
    | (go_at_call 104; (with_reducible refine (CF.out _).mono ?_); rintro e2 w2 ⟨rfl, hb2⟩)
    | fail)
  go_ret
  exact ⟨rfl, hb1.trans (hb2.mono hb1.size)⟩
theorem without_nil (x : Option Addr) (k : Nat) (nv : Value) (w : World) : Calls Tryz.prog 125 #[.slice x 0 k, nv] w fun e w' => e = .returned (.slice none 0 0) ∧ w = w' := by
  go_enter Tryz.func125, Tryz.ntmps125
  go_wp2
  refine wp_loop_rounds 1 ?_
  rw [rounds_succ]
  go_wp2
  go_ret
  exact ⟨rfl, rfl⟩
set_option maxRecDepth 20000 in
/-- the headers of a request without headers, of its own origin -/
theorem headers_nil (s0 : Nat) (tk : Int) (me ur og : ByteArray) (mo : Int) (x : Option Addr) (kk : Nat) (bo : ByteArray) (ck : Bool) (ph : Int) (a b c d e f : ByteArray) (ho : Int) (ch hi : Bool) (st : Int) (wh : Value) (sb : ByteArray) (er : Int) (w : World) (hM : MaxAt w) (S0 : AtL w s0 (fsC tk me ur og mo (.slice x 0 kk) bo ck ph a b c d e f ⟨#[71, 69, 84]⟩ ho ch hi st wh sb er)) (ha : a.size ≤ 40000) (hb : b.size ≤ 40000) (hc : c.size ≤ 40000) (hdd : d.size ≤ 40000) (he : e.size ≤ 40000) (hf : f.size ≤ 40000) (hO : og.data.toList = orgL (a.data.toList, b.data.toList, c.data.toList, d.data.toList, e.data.toList, f.data.toList)) :
    Calls Tryz.prog 75 #[.pointer (some ⟨s0, 0, none⟩)] w fun e w' => e = .returned (.slice none 0 0) ∧ Below w.heap.size w w' := by
  have CF := Lib.hid (fun (w' : World) (hb' : Below w.heap.size w w') => foreign_is s0 tk me ur og mo (.slice x 0 kk) bo ck ph a b c d e f ⟨#[71, 69, 84]⟩ ho ch hi st wh sb er w' (hM.below hb' (Nat.le_refl _)) (S0.next hb') ha hb hc hdd he hf og hO false (by simp [bne]))
  have CW := Lib.hid (fun (w' : World) nv => without_nil x kk nv w')
  clear hO hM
  have hal := (Below.refl _ w).alloc (Nat.le_refl _) (.cells [.string ⟨#[67, 111, 111, 107, 105, 101]⟩, .string ⟨#[79, 114, 105, 103, 105, 110]⟩].toArray 9)
  have S1 := S0.alloc (.cells [.string ⟨#[67, 111, 111, 107, 105, 101]⟩, .string ⟨#[79, 114, 105, 103, 105, 110]⟩].toArray 9)
  have z0 := S0.c 0 rfl; have z1 := S0.c 1 rfl; have z2 := S0.c 2 rfl; have z3 := S0.c 3 rfl; have z4 := S0.c 4 rfl; have z5 := S0.c 5 rfl; have z6 := S0.c 6 rfl; have z7 := S0.c 7 rfl; have z8 := S0.c 8 rfl; have z9 := S0.c 9 rfl; have z10 := S0.c 10 rfl; have z11 := S0.c 11 rfl; have z12 := S0.c 12 rfl; have z13 := S0.c 13 rfl; have z14 := S0.c 14 rfl; have z15 := S0.c 15 rfl; have z16 := S0.c 16 rfl; have z17 := S0.c 17 rfl; have z18 := S0.c 18 rfl; have z19 := S0.c 19 rfl; have z20 := S0.c 20 rfl; have z21 := S0.c 21 rfl; have z22 := S0.c 22 rfl
  have zl := S0.lt
  go_enter Tryz.func75, Tryz.ntmps75
  go_wp2_with (first
    | (go_at_call 125; refine (CW.out _ _).mono ?_; rintro e1 w1 ⟨rfl, rfl⟩)
    | (go_at_call 126; refine (CF.out _ hal).mono ?_; rintro e2 w2 ⟨rfl, hb2⟩; have S2 := S1.next hb2; clear z0 z1 z2 z3 z4 z5 z6 z7 z8 z9 z10 z11 z12 z13 z14 z15 z16 z17 z18 z19 z20 z21 z22; have z0 := S2.c 0 rfl; have z1 := S2.c 1 rfl; have z2 := S2.c 2 rfl; have z3 := S2.c 3 rfl; have z4 := S2.c 4 rfl; have z5 := S2.c 5 rfl; have z6 := S2.c 6 rfl; have z7 := S2.c 7 rfl; have z8 := S2.c 8 rfl; have z9 := S2.c 9 rfl; have z10 := S2.c 10 rfl; have z11 := S2.c 11 rfl; have z12 := S2.c 12 rfl; have z13 := S2.c 13 rfl; have z14 := S2.c 14 rfl; have z15 := S2.c 15 rfl; have z16 := S2.c 16 rfl; have z17 := S2.c 17 rfl; have z18 := S2.c 18 rfl; have z19 := S2.c 19 rfl; have z20 := S2.c 20 rfl; have z21 := S2.c 21 rfl; have z22 := S2.c 22 rfl; have zl2 := S2.lt)
    | fail)
  go_ret
  exact ⟨rfl, hal.trans (hb2.mono hal.size)⟩
end Go.Proofs.YtjdhaacmlpegoaaGreatDoor
