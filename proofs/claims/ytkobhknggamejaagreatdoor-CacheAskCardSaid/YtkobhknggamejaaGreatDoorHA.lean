/- Cache: small letters, times, seconds. -/
import Derived.Test.YtkobhknggamejaaGreatDoorB2
import Derived.Test.YtkobhknggamejaaGreatDoorB1
import Derived.Lib.Atoi
import Derived.Lib.ConvBytes
namespace Go.Proofs.YtkobhknggamejaaGreatDoor
set_option linter.unusedVariables false
set_option linter.unusedSimpArgs false
open Go.RowKit

set_option maxRecDepth 20000 in
theorem lowerh_any (s : ByteArray) (w : World) (hs : s.size ≤ 1000000) :
    Calls Tryz.prog 39 #[.string s] w fun e w' => ∃ t : ByteArray, e = .returned (.string t) ∧ t.data.toList = lowL s.data.toList ∧ Below w.heap.size w w' := by
  obtain ⟨cap, w1, hcv, hby, hb1⟩ := conv_bytes w s
  go_enter Tryz.func39, Tryz.ntmps39
  go_wp2
  go_loopw [10] (fun iv wr => ∃ (k : Nat), k ≤ s.size ∧ iv = .int .i64 k ∧ BytesAt wr w.heap.size (lowL (s.data.toList.take k) ++ s.data.toList.drop k) ∧ Below w.heap.size w wr) (fun iv _ => s.size - (intOf iv).toNat)
  case atStart => exact ⟨0, Nat.zero_le _, rfl, hby, hb1⟩
  case round =>
    obtain ⟨k, hk, rfl, hbl, hbw⟩ := hrel
    clear hby hb1 hcv
    by_cases hlt : k < s.size
    · have hd := drop_at s k hlt
      have hll : (lowL (s.data.toList.take k)).length = k := by simp [lowL]; omega
      obtain ⟨P, hP⟩ : ∃ P, lowL (s.data.toList.take k) = P := ⟨_, rfl⟩
      rw [hd, hP] at hbl
      rw [hP] at hll
      have c0 := hbl.cell k (by simp; omega)
      have f0 := hbl.free k (by simp; omega)
      rw [List.getElem_append_right (by omega)] at c0
      simp only [hll, Nat.sub_self, List.getElem_cons_zero] at c0
      have hlt2 := hbl.lt
      have hts : s.data.toList.take (k + 1) = s.data.toList.take k ++ [s[k]] := by rw [List.take_succ_eq_append_getElem (by simpa using hlt)]; rfl
      have hn : lowL (s.data.toList.take (k + 1)) = P ++ [lowB s[k]] := by rw [hts, ← hP]; simp [lowL]
      have hset := hbl.set k (by simp; omega) (lowB s[k])
      rw [List.set_append_right _ _ (by omega), hll, Nat.sub_self, List.set_cons_zero] at hset
      have hb := lowB_int s[k]
      have HB := Lib.hid hb
      have HN := Lib.hid hn
      have HS := Lib.hid hset
      have HBL := Lib.hid hbl
      clear hb hn hset hbl hd hP hts
      have hkk : (k : Int) < (s.size : Int) := by omega
      go_wp2
      · go_roundw
        case rel =>
          refine ⟨k + 1, by omega, by go_num, ?_, hbw.setCell (Nat.le_refl _) _⟩
          rw [HN.out, List.append_assoc, List.singleton_append]
          have e := HB.out.1 (by omega) (by omega)
          have e2 : ((lowB s[k]).toNat : Int) = (s[k].toNat : Int) + 97 - 65 := by
            rw [← e, show ((s[k].toNat : Int) + 32).toNat = s[k].toNat + 32 by omega, UInt8.toNat_ofNat']
            omega
          have := HS.out
          rwa [e2] at this
        case measure => simp [intOf]; omega
      all_goals
        go_roundw
        case rel =>
          refine ⟨k + 1, by omega, by go_num, ?_, hbw⟩
          have e := HB.out.2 (by omega)
          rw [byte_ofNat] at e
          rw [HN.out, List.append_assoc, List.singleton_append, ← e]
          exact HBL.out
        case measure => simp [intOf]; omega
    · rw [drop_end s k (by omega), List.append_nil, List.take_of_length_le (by simp; omega)] at hbl
      have hcv2 := run_convert_bytes_back (P := Tryz.prog) wr 91 9 5 ⟨w.heap.size, 0, none⟩ cap (lowL s.data.toList) Tryz.underlying91 Tryz.underlying5 Tryz.underlying9 (fun j hj => by rw [show (⟨w.heap.size, 0, none⟩ : Addr).add j = ⟨w.heap.size, j, none⟩ by cases j <;> simp [Addr.add]]; exact hbl.cell j hj)
      have hll : (lowL s.data.toList).length = s.size := by simp [lowL]
      obtain ⟨t, ht⟩ : ∃ t : ByteArray, (⟨(lowL s.data.toList).toArray⟩ : ByteArray) = t := ⟨_, rfl⟩
      rw [hll, ht] at hcv2
      have ht2 : t.data.toList = lowL s.data.toList := by rw [← ht]
      have HT2 := Lib.hid ht2
      clear hbl hll ht ht2
      go_wp2
      go_ret
      exact ⟨t, rfl, HT2.out, hbw⟩
theorem lowh_is (s T : ByteArray) (hT : T.data.toList = lowL s.data.toList) (w : World) (hs : s.size ≤ 1000000) :
    Calls Tryz.prog 39 #[.string s] w fun e w' => e = .returned (.string T) ∧ Below w.heap.size w w' := by
  refine (lowerh_any s w hs).mono ?_
  rintro e w' ⟨t, rfl, ht, h⟩
  exact ⟨by rw [ba_ext' (ht.trans hT.symm)], h⟩
theorem clockh_any (x : Int) (w : World) : Calls Tryz.prog 74 #[.int .i64 x] w fun e w' => e = .returned (.int .i64 (clockI x)) ∧ w = w' := by
  go_enter Tryz.func74, Tryz.ntmps74
  go_wp2
  go_ret
  exact ⟨ret_int rfl, rfl⟩
theorem rtimeh_any (x : Int) (w : World) : Calls Tryz.prog 75 #[.int .i64 x] w fun e w' => e = .returned (.int .i64 (clockI x)) ∧ w = w' := by
  go_enter Tryz.func75, Tryz.ntmps75
  go_wp2
  go_ret
  exact ⟨ret_int rfl, rfl⟩
/-! seconds -/
def digF (n : Nat) (b : UInt8) : Nat := n * 10 + (b.toNat - 48)
def digV (l : List UInt8) : Nat := l.foldl digF 0
/-- the number that 1 to 9 digits denote, or -1 -/
def secI (l : List UInt8) : Int := if 1 ≤ l.length ∧ l.length ≤ 9 ∧ l.all digitB = true then (digV l : Nat) else -1
theorem dig_bd (b : UInt8) (h : digitB b = true) : 48 ≤ b.toNat ∧ b.toNat ≤ 57 := by
  simp only [digitB, digitI, decide_eq_true_eq] at h
  omega
theorem digF_bd : ∀ (l : List UInt8) (n k : Nat), l.all digitB = true → n < 10 ^ k → l.foldl digF n < 10 ^ (k + l.length) := by
  intro l
  induction l with
  | nil => intro n k _ h; simpa using h
  | cons b l ih =>
    intro n k h hn
    simp only [List.all_cons, Bool.and_eq_true] at h
    have hb := dig_bd b h.1
    have : digF n b < 10 ^ (k + 1) := by
      unfold digF
      rw [Nat.pow_succ]
      omega
    have := ih _ _ h.2 this
    rw [List.length_cons, show k + (l.length + 1) = k + 1 + l.length by omega]
    exact this
theorem digV_bd (l : List UInt8) (h : l.all digitB = true) (hl : l.length ≤ 9) : digV l < 1000000000 := by
  have h1 := digF_bd l 0 0 h (by decide)
  have h2 : 10 ^ (0 + l.length) ≤ 10 ^ 9 := Nat.pow_le_pow_right (by decide) (by omega)
  exact Nat.lt_of_lt_of_le h1 h2
theorem secI_bd (l : List UInt8) : -1 ≤ secI l ∧ secI l < 1000000000 := by
  unfold secI
  split
  · next h => have := digV_bd l h.2.2 h.2.1; omega
  · omega
theorem decFrom_dig : ∀ (l : List UInt8) (n : Nat), l.all digitB = true → Lib.decFrom n l = some (l.foldl digF n) := by
  intro l
  induction l with
  | nil => intro n _; rfl
  | cons b l ih =>
    intro n h
    simp only [List.all_cons, Bool.and_eq_true] at h
    have hb := dig_bd b h.1
    have e : Lib.digitVal b = some (b.toNat - 48) := by unfold Lib.digitVal; rw [if_pos hb]
    unfold Lib.decFrom
    rw [e]
    exact ih _ h.2
theorem atoi_dig (l : List UInt8) (h : l.all digitB = true) (h0 : l ≠ []) : Lib.atoi l = some ((digV l : Nat) : Int) := by
  match l, h0 with
  | b :: r, _ =>
    have hb : 48 ≤ b.toNat ∧ b.toNat ≤ 57 := dig_bd b (by simp only [List.all_cons, Bool.and_eq_true] at h; exact h.1)
    have n45 : (b == 45) = false := beq_eq_false_iff_ne.2 (fun e => by subst e; exact absurd hb.1 (by decide))
    have n43 : (b == 43) = false := beq_eq_false_iff_ne.2 (fun e => by subst e; exact absurd hb.1 (by decide))
    unfold Lib.atoi
    show (if (b == 45) = true then (Lib.decNat r).map (fun (m : Nat) => -(m : Int)) else if (b == 43) = true then (Lib.decNat r).map (fun (m : Nat) => (m : Int)) else (Lib.decNat (b :: r)).map (fun (m : Nat) => (m : Int))) = _
    rw [n45, n43]
    simp only [Bool.false_eq_true, if_false]
    have e : Lib.decNat (b :: r) = some (digV (b :: r)) := by
      unfold Lib.decNat
      rw [if_neg (by simp)]
      exact decFrom_dig _ _ h
    rw [e]
    rfl
theorem bytes_below (w : World) (s : ByteArray) : Below w.heap.size w (Lib.bytesWorld w 5 s) := ⟨rfl, rfl, rfl, by rw [Lib.bytesWorld_size]; omega, fun k hk => Lib.bytesWorld_at_old w 5 s k hk⟩
set_option maxRecDepth 20000 in
theorem sec_yes (s : ByteArray) (w : World) (h : 1 ≤ s.size ∧ s.size ≤ 9 ∧ s.data.toList.all digitB = true) (n : Int) (hn : n = (digV s.data.toList : Nat)) :
    Calls Tryz.prog 43 #[.string s] w fun e w' => e = .returned (.tuple #[.int .i64 n, .bool true]) ∧ Below w.heap.size w w' := by
  obtain ⟨h1, h9, hdig⟩ := h
  have cT := fun w => trimcs_any s digCut w (by omega) (by decide) (by decide)
  obtain ⟨T, hT⟩ : ∃ T : ByteArray, ⟨(Lib.trimS s.data.toList digCut.data.toList).toArray⟩ = T := ⟨_, rfl⟩
  have hN := trimS_dig s.data.toList
  rw [hdig] at hN
  have hTE : T.toList.isEmpty = true := by rw [ByteArray.toList_eq, ← hT]; exact hN
  rw [hT] at cT
  have hE := nonempty_of s (by omega)
  have h9i : ¬ (s.size : Int) > 9 := by omega
  have cA := fun w => Tryz.strconv_Atoi s n (by omega) (by rw [hn]; exact atoi_dig _ hdig (fun e => by rw [← size_len, e] at h1; simp at h1)) w
  have CA := Lib.hid cA
  have CT := Lib.hid cT
  clear cA cT hT hN hdig hn
  go_enter Tryz.func43, Tryz.ntmps43
  go_wp2_with (first
    | (go_at_call 68; with_reducible refine (CT.out _).mono ?_; rintro e w1 ⟨rfl, hb1⟩)
    | (go_at_call 70; with_reducible refine (CA.out _).mono ?_; rintro e w2 ⟨rfl, t, rfl⟩))
  go_ret2
  exact ⟨rfl, hb1.trans ((bytes_below w1 t).mono hb1.size)⟩
set_option maxRecDepth 20000 in
theorem sec_no (s : ByteArray) (w : World) (hs : s.size ≤ 1000000) (h : ¬ (1 ≤ s.size ∧ s.size ≤ 9 ∧ s.data.toList.all digitB = true)) :
    Calls Tryz.prog 43 #[.string s] w fun e w' => e = .returned (.tuple #[.int .i64 0, .bool false]) ∧ Below w.heap.size w w' := by
  by_cases h0 : s.size = 0
  · have hE := empty_of s h0
    go_enter Tryz.func43, Tryz.ntmps43
    go_wp2_with fail
    go_ret2
    exact ⟨rfl, Below.refl _ _⟩
  · have hE := nonempty_of s (by omega)
    by_cases h9 : s.size ≤ 9
    · have hdig : s.data.toList.all digitB = false := by
        cases hd : s.data.toList.all digitB with
        | false => rfl
        | true => exact absurd ⟨by omega, h9, hd⟩ h
      have cT := fun w => trimcs_any s digCut w (by omega) (by decide) (by decide)
      obtain ⟨T, hT⟩ : ∃ T : ByteArray, ⟨(Lib.trimS s.data.toList digCut.data.toList).toArray⟩ = T := ⟨_, rfl⟩
      have hN := trimS_dig s.data.toList
      rw [hdig] at hN
      have hTE : T.toList.isEmpty = false := by rw [ByteArray.toList_eq, ← hT]; exact hN
      rw [hT] at cT
      have h9i : ¬ (s.size : Int) > 9 := by omega
      have CT := Lib.hid cT
      clear cT hT hN hdig h
      go_enter Tryz.func43, Tryz.ntmps43
      go_wp2_with (go_at_call 68; with_reducible refine (CT.out _).mono ?_; rintro e w1 ⟨rfl, hb1⟩)
      go_ret2
      exact ⟨rfl, hb1⟩
    · have h9i : (s.size : Int) > 9 := by omega
      clear h
      go_enter Tryz.func43, Tryz.ntmps43
      go_wp2_with fail
      go_ret2
      exact ⟨rfl, Below.refl _ _⟩
/-- seconds -/
theorem sec_is (s : ByteArray) (w : World) (hs : s.size ≤ 1000000) (R : Int) (hR : secI s.data.toList = R) (n : Int) (hn : max R 0 = n) (b : Bool) (hb : decide (0 ≤ R) = b) :
    Calls Tryz.prog 43 #[.string s] w fun e w' => e = .returned (.tuple #[.int .i64 n, .bool b]) ∧ Below w.heap.size w w' := by
  have hl := size_len s
  subst hn hb
  by_cases h : 1 ≤ s.size ∧ s.size ≤ 9 ∧ s.data.toList.all digitB = true
  · have e : R = (digV s.data.toList : Nat) := by rw [← hR, secI, if_pos (by rw [hl]; exact h)]
    have e1 : max R 0 = (digV s.data.toList : Nat) := by rw [e]; omega
    have e2 : decide (0 ≤ R) = true := by rw [e]; exact decide_eq_true (by omega)
    rw [e2]
    exact sec_yes s w h _ e1
  · have e : R = -1 := by rw [← hR, secI, if_neg (by rw [hl]; exact h)]
    subst e
    exact sec_no s w hs h
theorem digV_snoc (s : ByteArray) (k : Nat) (h : k < s.size) : digV (s.data.toList.take (k + 1)) = digV (s.data.toList.take k) * 10 + (s[k].toNat - 48) := by
  rw [take_snoc' s k h, digV, List.foldl_append]; rfl
set_option maxRecDepth 20000 in
set_option maxHeartbeats 1000000 in
/-- the reference's Number -/
theorem num_is (s : ByteArray) (w : World) (hs : s.size ≤ 1000000) (R : Int) (hR : secI s.data.toList = R) :
    Calls Tryz.prog 47 #[.string s] w fun e w' => e = .returned (.int .i64 R) ∧ w = w' := by
  have hl := size_len s
  have HR := Lib.hid hR
  clear hR
  by_cases h1 : 1 ≤ s.size
  · have h1i : ¬ (s.size : Int) < 1 := by omega
    by_cases h9 : s.size ≤ 9
    · have h9i : ¬ (s.size : Int) > 9 := by omega
      have CD := Lib.hid (fun (x : Int) (R : Bool) (h : digitI x = R) (w : World) => (show Calls Tryz.prog 72 #[.int .u8 x] w fun e w' => e = .returned (.bool R) ∧ w = w' by rw [← h]; exact rdigit_any x w))
      clear hl
      go_enter Tryz.func47, Tryz.ntmps47
      go_wp2_with fail
      go_loop [3, 4] (fun v i => ∃ (k n : Nat), k ≤ s.size ∧ i = .int .i64 k ∧ v = .int .i64 n ∧ Hid (n = digV (s.data.toList.take k)) ∧ n < 1000000000 ∧ Hid ((s.data.toList.take k).all digitB = true)) (fun _ i => s.size - (intOf i).toNat)
      case atStart => exact ⟨0, 0, Nat.zero_le _, rfl, rfl, Lib.hid rfl, by omega, Lib.hid rfl⟩
      case round =>
        obtain ⟨k, n, hk, rfl, rfl, HN, hn9, HA⟩ := hrel
        by_cases hlt : k < s.size
        · have hki : (k : Int) < (s.size : Int) := by omega
          have hbd := byte_bd s[k]
          cases hd : digitI s[k].toNat with
          | true =>
            have hdb : digitB s[k] = true := hd
            have hdd := dig_bd _ hdb
            have hall : (s.data.toList.take (k + 1)).all digitB = true := by rw [take_snoc' s k hlt, List.all_append, HA.out]; simp [hdb]
            have hnv := digV_snoc s k hlt
            rw [← HN.out] at hnv
            have hb9 : n * 10 + (s[k].toNat - 48) < 1000000000 := by
              rw [← hnv]
              exact digV_bd _ hall (by rw [List.length_take, size_len]; omega)
            have CDD := Lib.hid (fun w => CD.out _ true hd w)
            have HV := Lib.hid hnv
            have HAL := Lib.hid hall
            have hd48 : (48 : Int) ≤ (s[k].toNat : Int) := by omega
            have hd57 : (s[k].toNat : Int) ≤ 57 := by omega
            clear hd hdb hall hnv
            go_wp2_with (go_at_call 72; with_reducible refine (CDD.out _).mono ?_; rintro e w' ⟨rfl, rfl⟩)
            go_round
            case rel => exact ⟨k + 1, n * 10 + (s[k].toNat - 48), by omega, by go_num, by congr 1; omega, Lib.hid HV.out.symm, hb9, Lib.hid HAL.out⟩
            case measure => simp [intOf]; omega
          | false =>
            have CDD := Lib.hid (fun w => CD.out _ false hd w)
            have hno : secI s.data.toList = -1 := by
              rw [secI, if_neg]
              rintro ⟨_, _, h⟩
              have hm : s[k] ∈ s.data.toList := List.drop_subset k _ (by rw [drop_at s k hlt]; exact List.mem_cons_self)
              have h2 : digitI s[k].toNat = true := List.all_eq_true.1 h _ hm
              rw [hd] at h2; cases h2
            have hr2 : R = -1 := by rw [← HR.out, hno]
            subst hr2
            clear hd hno
            go_wp2_with (go_at_call 72; with_reducible refine (CDD.out _).mono ?_; rintro e w' ⟨rfl, rfl⟩)
            go_ret
            exact ⟨rfl, rfl⟩
        · obtain rfl : k = s.size := by omega
          have hf : R = (n : Int) := by
            have e1 : s.data.toList.take s.size = s.data.toList := List.take_of_length_le (by rw [size_len]; exact Nat.le_refl _)
            have e2 := HA.out
            have e3 := HN.out
            rw [e1] at e2 e3
            rw [← HR.out, secI, if_pos ⟨by rw [size_len]; exact h1, by rw [size_len]; exact h9, e2⟩, e3]
          subst hf
          go_wp2_with fail
          go_ret
          exact ⟨rfl, rfl⟩
    · have h9i : (s.size : Int) > 9 := by omega
      have hr2 : R = -1 := by rw [← HR.out, secI, if_neg (by rw [hl]; omega)]
      subst hr2
      go_enter Tryz.func47, Tryz.ntmps47
      go_wp2_with fail
      go_ret
      exact ⟨rfl, rfl⟩
  · have h1i : (s.size : Int) < 1 := by omega
    have hr2 : R = -1 := by rw [← HR.out, secI, if_neg (by rw [hl]; omega)]
    subst hr2
    go_enter Tryz.func47, Tryz.ntmps47
    go_wp2_with fail
    go_ret
    exact ⟨rfl, rfl⟩
end Go.Proofs.YtkobhknggamejaaGreatDoor
