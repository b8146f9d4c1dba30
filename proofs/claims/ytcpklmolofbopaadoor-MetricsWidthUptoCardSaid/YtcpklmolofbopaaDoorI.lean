/- The walks of Offset, of the reference's Offset and of equal. -/
import Derived.Test.YtcpklmolofbopaaDoorG
import Derived.Deep.RegionHeld3
namespace Go.Proofs.YtcpklmolofbopaaDoor
open Go.RowKit

def farN (a b : Int) : Int := if b ≤ a then a - b else b - a
set_option maxHeartbeats 400000 in
theorem far_any (a b : Int) (w : World) (ha : 0 ≤ a ∧ a ≤ 4398046511104) (hb : -9223372036854775808 ≤ b ∧ b ≤ 9223372036854775807) :
    Calls Tryd.prog 39 #[.int .i64 a, .int .i64 b] w fun e w' => e = .returned (.int .u64 (farN a b)) ∧ w = w' := by
  go_enter Tryd.func39, Tryd.ntmps39
  go_wp2
  · go_ret
    refine ⟨ret_int ?_, rfl⟩
    have h : b ≤ a := by assumption
    simp only [IntKind.wrap_u64]
    rw [farN, if_pos h]
    omega
  · go_ret
    refine ⟨ret_int ?_, rfl⟩
    have h : a < b := by assumption
    try simp only [IntKind.wrap_u64]
    rw [farN, if_neg (by omega)]
    try omega

/-- all boundaries between characters -/
def offs (l : List UInt8) : List Nat := (chars l).map (·.1) ++ [l.length]
theorem offs_len (l : List UInt8) : (offs l).length ≤ l.length + 1 := by have := chars_len l; simp [offs]; omega
theorem chFrom_mem (l : List UInt8) : ∀ (f p : Nat), l.length - p ≤ f → ∀ c ∈ chFrom l p, p ≤ c.1 ∧ c.1 < l.length := by
  intro f
  induction f with
  | zero => intro p h c hc; rw [chFrom_end l p (by omega)] at hc; cases hc
  | succ f ih =>
    intro p h c hc
    by_cases hp : p < l.length
    · rw [chFrom_cons l p hp] at hc
      have hw := Lib.decodeL_width (l.drop p)
      rcases List.mem_cons.1 hc with rfl | hc
      · exact ⟨Nat.le_refl _, hp⟩
      · have := ih (p + (Lib.decodeL (l.drop p)).2) (by omega) c hc; omega
    · rw [chFrom_end l p (by omega)] at hc; cases hc
theorem offs_le (l : List UInt8) (o : Nat) (h : o ∈ offs l) : o ≤ l.length := by
  rcases List.mem_append.1 h with h | h
  · obtain ⟨c, hc, rfl⟩ := List.mem_map.1 h
    exact Nat.le_of_lt (chFrom_mem l _ 0 (Nat.le_refl _) c hc).2
  · simp at h; omega
/-- how far the beginning up to a boundary is from a distance -/
def dist (l : List UInt8) (n x : Int) (o : Nat) : Int := farN (width (l.take o) n) x
def roff (l : List UInt8) (n x : Int) : Nat → List Nat → Nat
  | best, [] => best
  | best, o :: os => if dist l n x o < dist l n x best then roff l n x o os else roff l n x best os
theorem roff_yes (l : List UInt8) (n x : Int) (b o : Nat) (os : List Nat) (h : dist l n x o < dist l n x b) : roff l n x b (o :: os) = roff l n x o os := by rw [roff, if_pos h]
theorem roff_no (l : List UInt8) (n x : Int) (b o : Nat) (os : List Nat) (h : ¬ dist l n x o < dist l n x b) : roff l n x b (o :: os) = roff l n x b os := by rw [roff, if_neg h]
theorem width_bd (l : List UInt8) (n : Int) (h : l.length ≤ 4194304) : 0 ≤ width l n ∧ width l n ≤ 4398046511104 := by
  have := wFrom_bd l n 0
  unfold width
  omega

/-- a cell of an old block, and all old blocks, over a call that only makes memory -/
theorem snext {w1 wX w3 : World} {b2 k : Nat} {v : Value} (hb : b2 < w1.heap.size) (h : wX.cell? ⟨b2, k, none⟩ = some v ∧ Below w1.heap.size w1 wX) (h3 : Below wX.heap.size wX w3) :
    w3.cell? ⟨b2, k, none⟩ = some v ∧ Below w1.heap.size w1 w3 :=
  ⟨(h3.cell (p := ⟨b2, k, none⟩) (Nat.lt_of_lt_of_le hb h.2.size)).trans h.1, h.2.trans (h3.mono h.2.size)⟩
theorem s_right {w1 w : World} {b2 k : Nat} (v : Value) (h : w.cell? ⟨b2, k, none⟩ = some v ∧ Below w1.heap.size w1 w) : Below w1.heap.size w1 w := h.2
set_option maxHeartbeats 2000000 in
theorem roffset_any (s : ByteArray) (n x : Int) (w : World) (hs : s.size ≤ 2097152) (hx : -9223372036854775808 ≤ x ∧ x ≤ 9223372036854775807) :
    Calls Tryd.prog 31 #[.string s, .int .i64 n, .int .i64 x] w fun e w' => e = .returned (.int .i64 (roff s.data.toList n x 0 (offs s.data.toList) : Nat)) ∧ Below w.heap.size w w' := by
  have hl := size_len s
  have hlen := offs_len s.data.toList
  have hV : (chars s.data.toList).map offV ++ [.int .i64 (s.size : Int)] = (offs s.data.toList).map intV := by simp [offs, offV, intV]
  have hle := offs_le s.data.toList
  have hcl : (chars s.data.toList).length + 1 = (offs s.data.toList).length := by simp [offs]
  obtain ⟨O, hO⟩ : ∃ O, offs s.data.toList = O := ⟨_, rfl⟩
  rw [hO] at hlen hV hle hcl ⊢
  have HV := Lib.hid hV
  have HLE := Lib.hid hle
  have HCL := Lib.hid hcl
  clear hO hV hle hcl
  go_enter Tryd.func31, Tryd.ntmps31
  go_wp2_with fail
  refine (chars_any s _ hs).mono ?_
  rintro e w1 ⟨v1, v2, rfl, ho1, ho2, hb⟩
  rw [HV.out] at ho2
  obtain ⟨a2, cap2, rfl, hcap2, hmx2, hrd2⟩ := own_reads ho2
  clear ho1 ho2
  go_wp2_with fail
  go_loopw [9, 10] (fun bv iv wr => ∃ k b : Nat, k ≤ O.length ∧ b ≤ s.size ∧ iv = .int .i64 k ∧ bv = .int .i64 b ∧ roff s.data.toList n x b (O.drop k) = roff s.data.toList n x 0 O ∧ Below w1.heap.size w1 wr) (fun _ iv _ => O.length - (intOf iv).toNat)
  case atStart => exact ⟨0, 0, Nat.zero_le _, Nat.zero_le _, rfl, rfl, rfl, Below.refl _ _⟩
  case round =>
    obtain ⟨k, b, hk, hbs, rfl, rfl, hr, hbw⟩ := hrel
    have HR := Lib.hid hr
    clear hr
    by_cases hlt : k < O.length
    · have hkb : (k : Int) < (chars s.data.toList).length + 1 := by have := HCL.out; omega
      rcases hrd2 with ⟨_, h0⟩ | ⟨b2, rfl, hb2, hbb2, hcell2⟩
      · omega
      obtain ⟨o, ho⟩ : ∃ o, O[k] = o := ⟨_, rfl⟩
      have hos : o ≤ s.size := by have := HLE.out O[k] (List.getElem_mem hlt); omega
      have hd : O.drop k = o :: O.drop (k + 1) := by rw [← ho]; exact List.drop_eq_getElem_cons hlt
      have HD := Lib.hid hd
      have ce : wr.cell? ⟨b2, k, none⟩ = some (.int .i64 (o : Int)) := by
        rw [hbw.cell (p := ⟨b2, k, none⟩) hbb2, ← ho]
        refine hcell2 k _ ?_
        simp [intV, hlt]
      clear hcell2 hd ho
      have e0 : ∀ q, sub s.data.toList 0 q = s.data.toList.take q := fun q => by simp [sub]
      have cW : ∀ q, q ≤ s.size → ∀ wx, Calls Tryd.prog 32 #[.string (s.extract 0 q), .int .i64 n] wx fun e w' => e = .returned (.int .i64 (width (s.data.toList.take q) n)) ∧ Below wx.heap.size wx w' := fun q hq wx => by
        have := rwidth_any (s.extract 0 q) n wx (by simp only [ByteArray.size_extract]; omega)
        rwa [extract_sub, e0] at this
      have cW1 := cW o hos
      have cW2 := cW b hbs
      have b1 := width_bd (s.data.toList.take o) n (by simp; omega)
      have b3 := width_bd (s.data.toList.take b) n (by simp; omega)
      have hD1 : dist s.data.toList n x o = farN (width (s.data.toList.take o) n) x := rfl
      have hD2 : dist s.data.toList n x b = farN (width (s.data.toList.take b) n) x := rfl
      obtain ⟨u1, hu1⟩ : ∃ u, width (s.data.toList.take o) n = u := ⟨_, rfl⟩
      obtain ⟨u2, hu2⟩ : ∃ u, width (s.data.toList.take b) n = u := ⟨_, rfl⟩
      rw [hu1] at b1 cW1 hD1
      rw [hu2] at b3 cW2 hD2
      have cF1 := fun wx => far_any u1 x wx b1 hx
      have cF2 := fun wx => far_any u2 x wx b3 hx
      have C1 := Lib.hid cW1
      have C2 := Lib.hid cW2
      have F1 := Lib.hid cF1
      have F2 := Lib.hid cF2
      have D1 := Lib.hid hD1
      have D2 := Lib.hid hD2
      clear e0 cW cW1 cW2 hu1 hu2 cF1 cF2 hD1 hD2
      have hk0 : (0 : Int) ≤ (k : Int) := by omega
      have ho0 : (0 : Int) ≤ (o : Int) ∧ (o : Int) ≤ s.size := by omega
      have hb0 : (0 : Int) ≤ (b : Int) ∧ (b : Int) ≤ s.size := by omega
      go_wp2_with fail
      go_region_held3 (fun w' => w'.cell? ⟨b2, k, none⟩ = some (.int .i64 (o : Int)) ∧ Below w1.heap.size w1 w') (first | exact ⟨ce, hbw.drew⟩ | (apply snext hbb2; rotate_left; assumption; assumption) | go_keep) (first | (go_at_call 32; with_reducible refine (C1.out _).mono ?_; rintro e' w3 ⟨rfl, hb3⟩) | (go_at_call 32; with_reducible refine (C2.out _).mono ?_; rintro e' w4 ⟨rfl, hb4⟩) | (go_at_call 39; with_reducible refine (F1.out _).mono ?_; rintro e' w5 ⟨rfl, rfl⟩) | (go_at_call 39; with_reducible refine (F2.out _).mono ?_; rintro e' w6 ⟨rfl, rfl⟩))
      have hF := s_right (w1 := w1) (b2 := b2) (k := k) (.int .i64 (o : Int)) (by assumption)
      go_wp2_with fail
      · go_roundw
        case rel =>
          exact ⟨k + 1, o, by omega, hos, by go_num, rfl, by rw [← HR.out, HD.out, roff_yes _ _ _ _ _ _ (by rw [D1.out, D2.out]; assumption)], by first | assumption | exact hF⟩
        case measure => simp [intOf]; omega
      · go_roundw
        case rel =>
          exact ⟨k + 1, b, by omega, hbs, by go_num, rfl, by rw [← HR.out, HD.out, roff_no _ _ _ _ _ _ (by rw [D1.out, D2.out]; exact Int.not_lt.2 (by assumption))], by first | assumption | exact hF⟩
        case measure => simp [intOf]; omega
    · have hkb : ¬ (k : Int) < (chars s.data.toList).length + 1 := by have := HCL.out; omega
      have he := HR.out
      rw [List.drop_eq_nil_of_le (by omega), roff] at he
      have HE := Lib.hid he
      clear he
      go_wp2_with fail
      go_ret
      exact ⟨ret_int (by rw [HE.out]), hb.trans (hbw.mono hb.size)⟩
end Go.Proofs.YtcpklmolofbopaaDoor
