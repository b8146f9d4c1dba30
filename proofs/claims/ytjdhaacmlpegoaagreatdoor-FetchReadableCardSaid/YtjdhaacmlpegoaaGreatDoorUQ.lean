/- scheme, Scheme, port: what they compute. -/
import Derived.Test.YtjdhaacmlpegoaaGreatDoorUN
import Derived.Test.YtjdhaacmlpegoaaGreatDoorUP
import Derived.OwnWalk
namespace Go.Proofs.YtjdhaacmlpegoaaGreatDoor
set_option linter.unusedVariables false
set_option linter.unusedSimpArgs false
open Go.RowKit

/-- strings.Cut at one byte -/
theorem cut_any (s : ByteArray) (c : UInt8) (w : World) (hs : s.size ≤ 1000000) (hM : MaxAt w) :
    Calls Tryz.prog 60 #[.string s, .string ⟨#[c]⟩] w fun e w' => ∃ a b : ByteArray, e = .returned (.tuple #[.string a, .string b, .bool (s.data.toList.contains c)]) ∧ a.data.toList = pre c s.data.toList ∧ b.data.toList = post c s.data.toList ∧ Below w.heap.size w w' := by
  obtain ⟨m, hm⟩ := hM
  refine (Tryz.strings_Cut s ⟨#[c]⟩ m w (by omega) hm).mono ?_
  rintro e w' ⟨rfl, n, rfl⟩
  have h := cut_eq c s.data.toList
  exact ⟨_, _, by rw [show (⟨#[c]⟩ : ByteArray).data.toList = [c] from rfl, h], rfl, rfl, below_drewN (Below.refl _ w) n⟩
theorem takeW_head (p : UInt8 → Bool) (l : List UInt8) (b : UInt8) (r : List UInt8) (h : l.takeWhile p = b :: r) : ∃ r', l = b :: r' := by
  cases l with
  | nil => simp at h
  | cons x l =>
    rw [List.takeWhile_cons] at h
    split at h
    · cases h; exact ⟨l, rfl⟩
    · cases h
theorem schemeOk_pre (l : List UInt8) : schemeOk l = (l.contains 58 && (match pre 58 l with | [] => false | b :: _ => letterB b) && (pre 58 l).all (okC [43, 45, 46])) := by
  unfold schemeOk
  congr 2
  cases h : pre 58 l with
  | nil =>
    cases l with
    | nil => rfl
    | cons b l =>
      unfold pre at h
      rw [List.takeWhile_cons] at h
      split at h
      · cases h
      · next hb =>
        have : b = 58 := by simpa using hb
        subst this; rfl
  | cons b r =>
    obtain ⟨r', rfl⟩ := takeW_head _ _ _ _ h
    rfl
theorem pre_le (c : UInt8) (l : List UInt8) : (pre c l).length ≤ l.length := (List.takeWhile_sublist _).length_le
theorem post_le (c : UInt8) (l : List UInt8) : (post c l).length ≤ l.length := by
  unfold post
  rw [List.length_drop]
  have := (List.dropWhile_sublist (· != c) (l := l)).length_le
  omega
theorem size_of {s : ByteArray} {l : List UInt8} (h : s.data.toList = l) : s.size = l.length := by rw [← h, size_len]
theorem first_at (a : ByteArray) (h : 0 < a.size) : ∃ r, a.data.toList = a[0] :: r := ⟨_, by rw [← drop_at a 0 h]; simp⟩
/-- the cases of scheme -/
theorem scheme_case (l : List UInt8) (a : ByteArray) (ha : a.data.toList = pre 58 l) :
    (l.contains 58 = false ∧ schemeOk l = false) ∨ (l.contains 58 = true ∧ ((a.size = 0 ∧ a.toList.isEmpty = true ∧ schemeOk l = false) ∨ (∃ h : 0 < a.size, a.toList.isEmpty = false ∧ ((letterI (a[0].toNat : Int) = false ∧ schemeOk l = false) ∨ (letterI (a[0].toNat : Int) = true ∧ a.data.toList.all (okC [43, 45, 46]) = schemeOk l))))) := by
  rw [schemeOk_pre, ← ha]
  cases l.contains 58 with
  | false => exact .inl ⟨rfl, rfl⟩
  | true =>
    refine .inr ⟨rfl, ?_⟩
    rcases Nat.eq_zero_or_pos a.size with h0 | h0
    · have : a.data.toList = [] := List.eq_nil_of_length_eq_zero (by rw [size_len]; exact h0)
      exact .inl ⟨h0, (empty_iff a).2 this, by rw [this]; rfl⟩
    · obtain ⟨r, hr⟩ := first_at a h0
      refine .inr ⟨h0, nonempty_of a h0, ?_⟩
      rw [hr]
      have e : letterB a[0] = letterI (a[0].toNat : Int) := rfl
      simp only [e]
      cases letterI (a[0].toNat : Int) with
      | false => exact .inl ⟨rfl, rfl⟩
      | true => exact .inr ⟨rfl, by simp⟩
set_option maxHeartbeats 1000000 in
theorem scheme_any (s : ByteArray) (w : World) (hs : s.size ≤ 1000000) (hM : MaxAt w) :
    Calls Tryz.prog 58 #[.string s] w fun e w' => ∃ a b : ByteArray, e = .returned (.tuple #[.string a, .string b, .bool (schemeOk s.data.toList)]) ∧ (schemeOk s.data.toList = true → a.data.toList = lowL (pre 58 s.data.toList) ∧ b.data.toList = post 58 s.data.toList) ∧ Below w.heap.size w w' := by
  obtain ⟨OK, hOK⟩ : ∃ OK, schemeOk s.data.toList = OK := ⟨_, rfl⟩
  obtain ⟨A, hA⟩ : ∃ A, pre 58 s.data.toList = A := ⟨_, rfl⟩
  obtain ⟨B, hB⟩ : ∃ B, post 58 s.data.toList = B := ⟨_, rfl⟩
  have cC := cut_any s 58 w hs hM
  have hal := pre_le 58 s.data.toList
  have hsc := scheme_case s.data.toList
  rw [hA, hB] at cC
  rw [hA] at hal hsc
  rw [hOK] at hsc
  rw [hOK, hA, hB]
  obtain ⟨N, hN⟩ : ∃ N, s.data.toList.contains 58 = N := ⟨_, rfl⟩
  rw [hN] at cC hsc
  have hAl : A.length ≤ 1000000 := by rw [size_len] at hal; omega
  have CC := Lib.hid cC
  have SC := Lib.hid hsc
  clear cC hsc hN hal hOK hA hB
  go_enter Tryz.func58, Tryz.ntmps58
  go_wp2_with (first
    | (go_at_call 60; with_reducible refine CC.out.mono ?_; rintro e w1 ⟨a, b, rfl, ha, hb, hbw⟩; have has := size_of ha; have HA := Lib.hid ha; have HB := Lib.hid hb; rcases SC.out a ha with ⟨rfl, rfl⟩ | ⟨rfl, ⟨h0, hem, rfl⟩ | ⟨h0, hem, ⟨hlt, rfl⟩ | ⟨hlt, hok⟩⟩⟩ <;> (try have HOK := Lib.hid hok) <;> clear ha hb <;> (try clear hok))
    | (go_at_call 106; refine (letter_any _ _).mono ?_; rintro e w' ⟨rfl, rfl⟩)
    | (go_at_call 62; refine (only_any _ _ _ (by omega)).mono ?_; rintro e w' ⟨rfl, rfl⟩; rcases Bool.eq_false_or_eq_true OK with rfl | rfl <;> simp only [HOK.out])
    | (go_at_call 66; refine (lower_any _ _ (by omega)).mono ?_; rintro e w2 ⟨t, rfl, ht, hb2⟩; have HT := Lib.hid ht; clear ht))
  all_goals first
    | (go_ret3; exact ⟨_, _, rfl, fun h => (nomatch h), hbw⟩)
    | (go_ret3; exact ⟨⟨_, _, rfl⟩, hbw⟩)
    | (go_ret3; exact ⟨_, _, rfl, ⟨by rw [HT.out, HA.out], HB.out⟩, hbw.trans (hb2.mono hbw.size)⟩)
    | (go_ret3; exact ⟨_, _, rfl, fun _ => ⟨by rw [HT.out, HA.out], HB.out⟩, hbw.trans (hb2.mono hbw.size)⟩)
/-- the reference's scan for a scheme -/
def schemeI : List UInt8 → Nat → Int
  | [], _ => -1
  | b :: r, i => if b = 58 then i else if okC [43, 45, 46] b then schemeI r (i + 1) else -1
theorem schemeI_is (l : List UInt8) : ∀ i, schemeI l i = if l.contains 58 && (pre 58 l).all (okC [43, 45, 46]) then ((i + (pre 58 l).length : Nat) : Int) else -1 := by
  induction l with
  | nil => intro i; rfl
  | cons b l ih =>
    intro i
    unfold schemeI
    by_cases hb : b = 58
    · subst hb; simp [pre]
    · have h1 : (b != 58) = true := by simpa using hb
      have h2 : pre 58 (b :: l) = b :: pre 58 l := by unfold pre; rw [List.takeWhile_cons, if_pos h1]
      have h3 : (b :: l).contains 58 = l.contains 58 := by
        rw [List.contains_cons]
        have : ((58 : UInt8) == b) = false := by rw [beq_eq_false_iff_ne]; exact fun e => hb e.symm
        rw [this]; rfl
      rw [if_neg hb, h2, h3, List.all_cons, ih]
      cases okC [43, 45, 46] b with
      | false => simp
      | true => simp only [if_true, Bool.true_and, List.length_cons]; split <;> simp; omega
def schemeN (l : List UInt8) : Int := if schemeOk l = true then ((pre 58 l).length : Nat) else -1
theorem schemeN_is (l : List UInt8) : schemeN l = match l with | [] => -1 | b :: r => if letterB b then schemeI (b :: r) 0 else -1 := by
  unfold schemeN schemeOk
  cases l with
  | nil => rfl
  | cons b r =>
    simp only [schemeI_is, Nat.zero_add]
    by_cases h : letterB b = true
    · simp only [h, Bool.and_true, if_true]
    · rw [if_neg h]
      simp only [Bool.not_eq_true] at h
      simp [h]
set_option maxHeartbeats 1000000 in
theorem rscheme_any (s : ByteArray) (w : World) (hs : s.size ≤ 1000000) :
    Calls Tryz.prog 139 #[.string s] w fun e w' => e = .returned (.int .i64 (schemeN s.data.toList)) ∧ w = w' := by
  by_cases h0 : s.size = 0
  · have hem := (empty_iff s).2 (List.eq_nil_of_length_eq_zero (by rw [size_len]; exact h0))
    have hl : s.data.toList = [] := (empty_iff s).1 hem
    rw [hl]
    clear hl
    go_enter Tryz.func139, Tryz.ntmps139
    go_wp2_with fail
    go_ret
    exact ⟨rfl, rfl⟩
  · have h0 : 0 < s.size := by omega
    have hem := nonempty_of s h0
    have hd := drop_at s 0 h0
    rw [List.drop_zero] at hd
    have hN : schemeN s.data.toList = if letterI (s[0].toNat : Int) = true then schemeI s.data.toList 0 else -1 := by rw [schemeN_is, hd]; rfl
    obtain ⟨R, hR⟩ : ∃ R : Int, schemeI s.data.toList 0 = R := ⟨_, rfl⟩
    rw [hN, hR]
    have HR := Lib.hid hR
    clear hR hd hN
    rcases Bool.eq_false_or_eq_true (letterI (s[0].toNat : Int)) with hL | hL
    · rw [if_pos hL]
      go_enter Tryz.func139, Tryz.ntmps139
      go_wp2_with (go_at_call 143; refine (rletter_any _ _).mono ?_; rintro e w' ⟨rfl, rfl⟩)
      clear hem hL
      go_loop [3] (fun i => ∃ k : Nat, k ≤ s.size ∧ i = .int .i64 k ∧ schemeI (s.data.toList.drop k) k = R) (fun i => s.size - (intOf i).toNat)
      case atStart => exact ⟨0, Nat.zero_le _, rfl, HR.out⟩
      case round =>
        obtain ⟨k, hk, rfl, hf⟩ := hrel
        by_cases hlt : k < s.size
        · rw [drop_at s k hlt, schemeI] at hf
          by_cases hb : s[k] = 58
          · have hb1 : ((s[k].toNat : Int) == 58) = true := by rw [hb]; rfl
            rw [if_pos hb] at hf
            subst hf
            clear hb HR
            go_wp2_with fail
            go_ret
            exact ⟨rfl, rfl⟩
          · have hb1 : ((s[k].toNat : Int) == 58) = false := by
              rw [beq_eq_false_iff_ne]; exact fun e => hb (UInt8.toNat_inj.1 (by simp; omega))
            rw [if_neg hb] at hf
            have ho : okC [43, 45, 46] s[k] = (letterI s[k].toNat || digitI s[k].toNat || [43, 45, 46].contains s[k]) := rfl
            obtain ⟨C, hC⟩ : ∃ C, [43, 45, 46].contains s[k] = C := ⟨_, rfl⟩
            have cI := fun w => in_any s[k] ⟨#[43, 45, 46]⟩ w (by decide)
            rw [show (⟨#[43, 45, 46]⟩ : ByteArray).data.toList = [43, 45, 46] from rfl, hC] at cI
            rw [hC] at ho
            have CI := Lib.hid cI
            have HF := Lib.hid hf
            have HO := Lib.hid ho
            clear hf ho hb cI hC
            go_wp2_with (first
              | (go_at_call 143; refine (rletter_any _ _).mono ?_; rintro e w' ⟨rfl, rfl⟩)
              | (go_at_call 144; refine (rdigit_any _ _).mono ?_; rintro e w' ⟨rfl, rfl⟩)
              | (go_at_call 146; refine (CI.out _).mono ?_; rintro e w' ⟨rfl, rfl⟩))
            all_goals first
              | (go_round
                 case rel => exact ⟨k + 1, by omega, by go_num, by (try simp only [Bool.not_eq_true', Bool.not_eq_false'] at *); rw [← HF.out, HO.out]; simp [*]⟩
                 case measure => simp [intOf]; omega)
              | (go_ret; exact ⟨ret_int (by (try simp only [Bool.not_eq_true', Bool.not_eq_false'] at *); rw [← HF.out, HO.out]; simp [*]), rfl⟩)
        · rw [drop_end s k (by omega), schemeI] at hf
          subst hf
          clear HR
          go_wp2_with fail
          go_ret
          exact ⟨rfl, rfl⟩
    · rw [if_neg (by rw [hL]; exact Bool.false_ne_true)]
      go_enter Tryz.func139, Tryz.ntmps139
      go_wp2_with (go_at_call 143; refine (rletter_any _ _).mono ?_; rintro e w' ⟨rfl, rfl⟩)
      go_ret
      exact ⟨rfl, rfl⟩
/-- the walk of port, for a text of digits -/
theorem digits_drop (d : List UInt8) (k : Nat) (h : d.all digitB = true) : (d.drop k).all digitB = true := by
  rw [List.all_eq_true] at h ⊢
  exact fun x hx => h x (List.drop_subset _ _ hx)
theorem numL_snoc (l : List UInt8) (b : UInt8) : numL (l ++ [b]) = numL l * 10 + (b.toNat - 48) := by simp [numL, numF]
theorem take_snoc (s : ByteArray) (k : Nat) (h : k < s.size) : s.data.toList.take (k + 1) = s.data.toList.take k ++ [s[k]] := by
  rw [List.take_succ_eq_append_getElem (by simpa using h)]; rfl
theorem numL_bd (l : List UInt8) (h : l.all digitB = true) (h5 : l.length ≤ 5) : numL l ≤ 99999 := by
  have h1 := (foldl_bd l 0 h).2
  have h2 : 10 ^ l.length ≤ 10 ^ 5 := Nat.pow_le_pow_right (by omega) h5
  unfold numL
  omega
theorem digits_take (d : List UInt8) (k : Nat) (h : d.all digitB = true) : (d.take k).all digitB = true := by
  rw [List.all_eq_true] at h ⊢
  exact fun x hx => h x (List.mem_of_mem_take hx)
theorem mem_at (s : ByteArray) (k : Nat) (h : k < s.size) : s[k] ∈ s.data.toList := List.drop_subset k _ (by rw [drop_at s k h]; exact List.mem_cons_self)
theorem str_beq (s : ByteArray) (l : List UInt8) : (s.toList == l) = decide (s.data.toList = l) := by
  rw [ByteArray.toList_eq]
  by_cases h : s.data.toList = l
  · rw [h]; simp
  · rw [decide_eq_false h, beq_eq_false_iff_ne]; exact h
set_option maxRecDepth 20000 in
set_option maxHeartbeats 2000000 in
theorem portA (sch s : ByteArray) (w : World) (hs : s.size ≤ 1000000) (hX : (sch.toList == [104, 116, 116, 112]) = true) (hY : (sch.toList == [104, 116, 116, 112, 115]) = false) (R : List UInt8) (hR : portOf sch.data.toList s.data.toList = R) :
    Calls Tryz.prog 65 #[.string sch, .string s] w fun e w' => ∃ t : ByteArray, e = .returned (.tuple #[.string t, .bool (decide (portOk s.data.toList))]) ∧ (portOk s.data.toList → t.data.toList = R) ∧ w = w' := by
  obtain ⟨OK, hOK⟩ : ∃ OK, decide (portOk s.data.toList) = OK := ⟨_, rfl⟩
  have hP : portOk s.data.toList ↔ OK = true := by rw [← hOK]; simp
  rw [hOK]
  simp only [hP]
  have HOK := Lib.hid hP
  have hx := hX
  have hy := hY
  rw [str_beq] at hx hy
  have hR0 : R = if (true = true ∧ numL s.data.toList = 80) ∨ (false = true ∧ numL s.data.toList = 443) then [] else zerosOff s.data.toList := by
    have e1 : (sch.data.toList = httpL) ↔ (true = true) := by simp only [decide_eq_true_eq, decide_eq_false_iff_not] at hx; simp [hx]
    have e2 : (sch.data.toList = httpsL) ↔ (false = true) := by simp only [decide_eq_true_eq, decide_eq_false_iff_not] at hy; simp [hy]
    rw [← hR, portOf]
    simp only [e1, e2]
  have HR := Lib.hid hR0
  clear hR hOK hP hx hy hR0
  go_enter Tryz.func65, Tryz.ntmps65
  go_wp2_with fail
  go_loopw [6] (fun iv wr => ∃ k : Nat, k ≤ s.size ∧ iv = .int .i64 k ∧ (s.data.toList.take k).all digitB = true ∧ wr = w) (fun iv _ => s.size - (intOf iv).toNat)
  case atStart => exact ⟨0, Nat.zero_le _, rfl, by simp, rfl⟩
  case round =>
    obtain ⟨k, hk, rfl, hd, rfl⟩ := hrel
    by_cases hlt : k < s.size
    · rcases Bool.eq_false_or_eq_true (digitI (s[k].toNat : Int)) with hg | hg
      · have hd2 : (s.data.toList.take (k + 1)).all digitB = true := by
          rw [take_snoc s k hlt, List.all_append, hd]
          simp only [List.all_cons, List.all_nil, Bool.and_true, Bool.true_and]; exact hg
        have HD := Lib.hid hd2
        clear hd2 hd
        go_wp2_with (go_at_call 108; refine (digit_any _ _).mono ?_; rintro e w' ⟨rfl, rfl⟩)
        go_roundw
        case rel => exact ⟨k + 1, by omega, by go_num, HD.out, trivial⟩
        case measure => simp [intOf]; omega
      · have hno : OK = false := by
          cases hO : OK with
          | false => rfl
          | true =>
            have h1 := (HOK.out.2 hO).1
            rw [List.all_eq_true] at h1
            have h2 := h1 s[k] (mem_at s k hlt)
            rw [digitB, hg] at h2; cases h2
        subst hno
        clear HR hd HOK
        go_wp2_with (go_at_call 108; refine (digit_any _ _).mono ?_; rintro e w' ⟨rfl, rfl⟩)
        go_ret2
        first | exact ⟨_, rfl⟩ | exact ⟨_, rfl, trivial⟩ | exact ⟨⟨_, rfl⟩, rfl⟩ | exact ⟨_, rfl, fun h => (nomatch h), rfl⟩
    · have hke : k = s.size := by omega
      subst hke
      rw [List.take_of_length_le (by simp)] at hd
      have HD := Lib.hid hd
      clear hd hlt hk
      by_cases h5 : 5 < s.size
      · have hno : OK = false := by
          cases hO : OK with
          | false => rfl
          | true =>
            have h1 := (HOK.out.2 hO).2.1
            rw [size_len] at h1; omega
        subst hno
        clear HR HOK
        go_wp2_with fail
        go_ret2
        first | exact ⟨_, rfl⟩ | exact ⟨_, rfl, trivial⟩ | exact ⟨⟨_, rfl⟩, rfl⟩ | exact ⟨_, rfl, fun h => (nomatch h), rfl⟩
      · go_wp2_with fail
        obtain ⟨wo, rfl⟩ : ∃ wo : World, wo = wr := ⟨_, rfl⟩
        go_loopw [7, 8] (fun nv iv wr => ∃ k : Nat, k ≤ s.size ∧ iv = .int .i64 k ∧ nv = .int .i64 (numL (s.data.toList.take k) : Nat) ∧ wr = wo) (fun _ iv _ => s.size - (intOf iv).toNat)
        case atStart => exact ⟨0, Nat.zero_le _, rfl, rfl, rfl⟩
        case round =>
          obtain ⟨k, hk, rfl, rfl, rfl⟩ := hrel
          have hbd := numL_bd _ (digits_take _ k HD.out) (by rw [List.length_take, size_len]; omega)
          by_cases hlt : k < s.size
          · have hsn := numL_snoc (s.data.toList.take k) s[k]
            rw [← take_snoc s k hlt] at hsn
            have hg : digitB s[k] = true := by
              have h1 := HD.out
              rw [List.all_eq_true] at h1
              exact h1 s[k] (mem_at s k hlt)
            simp only [digitB, digitI, decide_eq_true_eq] at hg
            obtain ⟨n, hn⟩ : ∃ n, numL (s.data.toList.take k) = n := ⟨_, rfl⟩
            rw [hn] at hsn hbd ⊢
            have HS := Lib.hid hsn
            clear hn hsn
            go_wp2_with fail
            go_roundw
            case rel => exact ⟨k + 1, by omega, by go_num, by rw [HS.out]; congr 1; omega, trivial⟩
            case measure => simp [intOf]; omega
          · have hke : k = s.size := by omega
            subst hke
            rw [List.take_of_length_le (by simp)] at hbd ⊢
            obtain ⟨n, hn⟩ : ∃ n, numL s.data.toList = n := ⟨_, rfl⟩
            have hOn : OK = true ↔ n ≤ 65535 := by
              rw [← HOK.out, ← hn]
              exact ⟨fun h => h.2.2, fun h => ⟨HD.out, by rw [size_len]; omega, h⟩⟩
            have hr := HR.out
            rw [hn] at hbd hr ⊢
            clear hn hlt hk HD HOK HR
            have cT := Lib.hid (Tryz.strings_TrimLeft_one s 48 (by decide) wr)
            have hz : (⟨(Lib.trimLeftB s.data.toList 48).toArray⟩ : ByteArray).data.toList = zerosOff s.data.toList := rfl
            obtain ⟨T, hT⟩ : ∃ T : ByteArray, ⟨(Lib.trimLeftB s.data.toList 48).toArray⟩ = T := ⟨_, rfl⟩
            rw [hT] at cT hz
            rw [← hz] at hr
            have HR := Lib.hid hr
            clear hz hT hr
            by_cases hn5 : n ≤ 65535
            · obtain rfl := hOn.2 hn5
              clear hOn
              by_cases hc : n = 80
              · subst hc
                go_wp2_with (go_at_call 114; with_reducible refine cT.out.mono ?_; rintro e w2 ⟨rfl, rfl⟩)
                go_ret2
                first | exact ⟨_, rfl, by rw [HR.out]; simp⟩ | exact ⟨_, rfl, fun _ => by rw [HR.out]; simp, rfl⟩ | exact ⟨_, rfl, fun h => (nomatch h), rfl⟩
              · have hcb : ((n : Int) == 80) = false := by rw [beq_eq_false_iff_ne]; omega
                go_wp2_with (go_at_call 114; with_reducible refine cT.out.mono ?_; rintro e w2 ⟨rfl, rfl⟩)
                go_ret2
                first | exact ⟨_, rfl, by rw [HR.out]; simp [hc]⟩ | exact ⟨_, rfl, fun h => (nomatch h), rfl⟩
            · have hno : OK = false := by
                cases hO : OK with
                | false => rfl
                | true => exact absurd (hOn.1 hO) hn5
              subst hno
              clear hOn
              go_wp2_with (go_at_call 114; with_reducible refine cT.out.mono ?_; rintro e w2 ⟨rfl, rfl⟩)
              go_ret2
              first | exact ⟨_, rfl⟩ | exact ⟨_, rfl, trivial⟩ | exact ⟨⟨_, rfl⟩, rfl⟩ | exact ⟨_, rfl, fun h => (nomatch h), rfl⟩
set_option maxRecDepth 20000 in
set_option maxHeartbeats 2000000 in
theorem portB (sch s : ByteArray) (w : World) (hs : s.size ≤ 1000000) (hX : (sch.toList == [104, 116, 116, 112]) = false) (hY : (sch.toList == [104, 116, 116, 112, 115]) = true) (R : List UInt8) (hR : portOf sch.data.toList s.data.toList = R) :
    Calls Tryz.prog 65 #[.string sch, .string s] w fun e w' => ∃ t : ByteArray, e = .returned (.tuple #[.string t, .bool (decide (portOk s.data.toList))]) ∧ (portOk s.data.toList → t.data.toList = R) ∧ w = w' := by
  obtain ⟨OK, hOK⟩ : ∃ OK, decide (portOk s.data.toList) = OK := ⟨_, rfl⟩
  have hP : portOk s.data.toList ↔ OK = true := by rw [← hOK]; simp
  rw [hOK]
  simp only [hP]
  have HOK := Lib.hid hP
  have hx := hX
  have hy := hY
  rw [str_beq] at hx hy
  have hR0 : R = if (false = true ∧ numL s.data.toList = 80) ∨ (true = true ∧ numL s.data.toList = 443) then [] else zerosOff s.data.toList := by
    have e1 : (sch.data.toList = httpL) ↔ (false = true) := by simp only [decide_eq_true_eq, decide_eq_false_iff_not] at hx; simp [hx]
    have e2 : (sch.data.toList = httpsL) ↔ (true = true) := by simp only [decide_eq_true_eq, decide_eq_false_iff_not] at hy; simp [hy]
    rw [← hR, portOf]
    simp only [e1, e2]
  have HR := Lib.hid hR0
  clear hR hOK hP hx hy hR0
  go_enter Tryz.func65, Tryz.ntmps65
  go_wp2_with fail
  go_loopw [6] (fun iv wr => ∃ k : Nat, k ≤ s.size ∧ iv = .int .i64 k ∧ (s.data.toList.take k).all digitB = true ∧ wr = w) (fun iv _ => s.size - (intOf iv).toNat)
  case atStart => exact ⟨0, Nat.zero_le _, rfl, by simp, rfl⟩
  case round =>
    obtain ⟨k, hk, rfl, hd, rfl⟩ := hrel
    by_cases hlt : k < s.size
    · rcases Bool.eq_false_or_eq_true (digitI (s[k].toNat : Int)) with hg | hg
      · have hd2 : (s.data.toList.take (k + 1)).all digitB = true := by
          rw [take_snoc s k hlt, List.all_append, hd]
          simp only [List.all_cons, List.all_nil, Bool.and_true, Bool.true_and]; exact hg
        have HD := Lib.hid hd2
        clear hd2 hd
        go_wp2_with (go_at_call 108; refine (digit_any _ _).mono ?_; rintro e w' ⟨rfl, rfl⟩)
        go_roundw
        case rel => exact ⟨k + 1, by omega, by go_num, HD.out, trivial⟩
        case measure => simp [intOf]; omega
      · have hno : OK = false := by
          cases hO : OK with
          | false => rfl
          | true =>
            have h1 := (HOK.out.2 hO).1
            rw [List.all_eq_true] at h1
            have h2 := h1 s[k] (mem_at s k hlt)
            rw [digitB, hg] at h2; cases h2
        subst hno
        clear HR hd HOK
        go_wp2_with (go_at_call 108; refine (digit_any _ _).mono ?_; rintro e w' ⟨rfl, rfl⟩)
        go_ret2
        first | exact ⟨_, rfl⟩ | exact ⟨_, rfl, trivial⟩ | exact ⟨⟨_, rfl⟩, rfl⟩ | exact ⟨_, rfl, fun h => (nomatch h), rfl⟩
    · have hke : k = s.size := by omega
      subst hke
      rw [List.take_of_length_le (by simp)] at hd
      have HD := Lib.hid hd
      clear hd hlt hk
      by_cases h5 : 5 < s.size
      · have hno : OK = false := by
          cases hO : OK with
          | false => rfl
          | true =>
            have h1 := (HOK.out.2 hO).2.1
            rw [size_len] at h1; omega
        subst hno
        clear HR HOK
        go_wp2_with fail
        go_ret2
        first | exact ⟨_, rfl⟩ | exact ⟨_, rfl, trivial⟩ | exact ⟨⟨_, rfl⟩, rfl⟩ | exact ⟨_, rfl, fun h => (nomatch h), rfl⟩
      · go_wp2_with fail
        obtain ⟨wo, rfl⟩ : ∃ wo : World, wo = wr := ⟨_, rfl⟩
        go_loopw [7, 8] (fun nv iv wr => ∃ k : Nat, k ≤ s.size ∧ iv = .int .i64 k ∧ nv = .int .i64 (numL (s.data.toList.take k) : Nat) ∧ wr = wo) (fun _ iv _ => s.size - (intOf iv).toNat)
        case atStart => exact ⟨0, Nat.zero_le _, rfl, rfl, rfl⟩
        case round =>
          obtain ⟨k, hk, rfl, rfl, rfl⟩ := hrel
          have hbd := numL_bd _ (digits_take _ k HD.out) (by rw [List.length_take, size_len]; omega)
          by_cases hlt : k < s.size
          · have hsn := numL_snoc (s.data.toList.take k) s[k]
            rw [← take_snoc s k hlt] at hsn
            have hg : digitB s[k] = true := by
              have h1 := HD.out
              rw [List.all_eq_true] at h1
              exact h1 s[k] (mem_at s k hlt)
            simp only [digitB, digitI, decide_eq_true_eq] at hg
            obtain ⟨n, hn⟩ : ∃ n, numL (s.data.toList.take k) = n := ⟨_, rfl⟩
            rw [hn] at hsn hbd ⊢
            have HS := Lib.hid hsn
            clear hn hsn
            go_wp2_with fail
            go_roundw
            case rel => exact ⟨k + 1, by omega, by go_num, by rw [HS.out]; congr 1; omega, trivial⟩
            case measure => simp [intOf]; omega
          · have hke : k = s.size := by omega
            subst hke
            rw [List.take_of_length_le (by simp)] at hbd ⊢
            obtain ⟨n, hn⟩ : ∃ n, numL s.data.toList = n := ⟨_, rfl⟩
            have hOn : OK = true ↔ n ≤ 65535 := by
              rw [← HOK.out, ← hn]
              exact ⟨fun h => h.2.2, fun h => ⟨HD.out, by rw [size_len]; omega, h⟩⟩
            have hr := HR.out
            rw [hn] at hbd hr ⊢
            clear hn hlt hk HD HOK HR
            have cT := Lib.hid (Tryz.strings_TrimLeft_one s 48 (by decide) wr)
            have hz : (⟨(Lib.trimLeftB s.data.toList 48).toArray⟩ : ByteArray).data.toList = zerosOff s.data.toList := rfl
            obtain ⟨T, hT⟩ : ∃ T : ByteArray, ⟨(Lib.trimLeftB s.data.toList 48).toArray⟩ = T := ⟨_, rfl⟩
            rw [hT] at cT hz
            rw [← hz] at hr
            have HR := Lib.hid hr
            clear hz hT hr
            by_cases hn5 : n ≤ 65535
            · obtain rfl := hOn.2 hn5
              clear hOn
              by_cases hc : n = 443
              · subst hc
                go_wp2_with (go_at_call 114; with_reducible refine cT.out.mono ?_; rintro e w2 ⟨rfl, rfl⟩)
                go_ret2
                first | exact ⟨_, rfl, by rw [HR.out]; simp⟩ | exact ⟨_, rfl, fun _ => by rw [HR.out]; simp, rfl⟩ | exact ⟨_, rfl, fun h => (nomatch h), rfl⟩
              · have hcb : ((n : Int) == 443) = false := by rw [beq_eq_false_iff_ne]; omega
                go_wp2_with (go_at_call 114; with_reducible refine cT.out.mono ?_; rintro e w2 ⟨rfl, rfl⟩)
                go_ret2
                first | exact ⟨_, rfl, by rw [HR.out]; simp [hc]⟩ | exact ⟨_, rfl, fun h => (nomatch h), rfl⟩
            · have hno : OK = false := by
                cases hO : OK with
                | false => rfl
                | true => exact absurd (hOn.1 hO) hn5
              subst hno
              clear hOn
              go_wp2_with (go_at_call 114; with_reducible refine cT.out.mono ?_; rintro e w2 ⟨rfl, rfl⟩)
              go_ret2
              first | exact ⟨_, rfl⟩ | exact ⟨_, rfl, trivial⟩ | exact ⟨⟨_, rfl⟩, rfl⟩ | exact ⟨_, rfl, fun h => (nomatch h), rfl⟩
set_option maxRecDepth 20000 in
set_option maxHeartbeats 2000000 in
theorem portC (sch s : ByteArray) (w : World) (hs : s.size ≤ 1000000) (hX : (sch.toList == [104, 116, 116, 112]) = false) (hY : (sch.toList == [104, 116, 116, 112, 115]) = false) (R : List UInt8) (hR : portOf sch.data.toList s.data.toList = R) :
    Calls Tryz.prog 65 #[.string sch, .string s] w fun e w' => ∃ t : ByteArray, e = .returned (.tuple #[.string t, .bool (decide (portOk s.data.toList))]) ∧ (portOk s.data.toList → t.data.toList = R) ∧ w = w' := by
  obtain ⟨OK, hOK⟩ : ∃ OK, decide (portOk s.data.toList) = OK := ⟨_, rfl⟩
  have hP : portOk s.data.toList ↔ OK = true := by rw [← hOK]; simp
  rw [hOK]
  simp only [hP]
  have HOK := Lib.hid hP
  have hx := hX
  have hy := hY
  rw [str_beq] at hx hy
  have hR0 : R = if (false = true ∧ numL s.data.toList = 80) ∨ (false = true ∧ numL s.data.toList = 443) then [] else zerosOff s.data.toList := by
    have e1 : (sch.data.toList = httpL) ↔ (false = true) := by simp only [decide_eq_true_eq, decide_eq_false_iff_not] at hx; simp [hx]
    have e2 : (sch.data.toList = httpsL) ↔ (false = true) := by simp only [decide_eq_true_eq, decide_eq_false_iff_not] at hy; simp [hy]
    rw [← hR, portOf]
    simp only [e1, e2]
  have HR := Lib.hid hR0
  clear hR hOK hP hx hy hR0
  go_enter Tryz.func65, Tryz.ntmps65
  go_wp2_with fail
  go_loopw [6] (fun iv wr => ∃ k : Nat, k ≤ s.size ∧ iv = .int .i64 k ∧ (s.data.toList.take k).all digitB = true ∧ wr = w) (fun iv _ => s.size - (intOf iv).toNat)
  case atStart => exact ⟨0, Nat.zero_le _, rfl, by simp, rfl⟩
  case round =>
    obtain ⟨k, hk, rfl, hd, rfl⟩ := hrel
    by_cases hlt : k < s.size
    · rcases Bool.eq_false_or_eq_true (digitI (s[k].toNat : Int)) with hg | hg
      · have hd2 : (s.data.toList.take (k + 1)).all digitB = true := by
          rw [take_snoc s k hlt, List.all_append, hd]
          simp only [List.all_cons, List.all_nil, Bool.and_true, Bool.true_and]; exact hg
        have HD := Lib.hid hd2
        clear hd2 hd
        go_wp2_with (go_at_call 108; refine (digit_any _ _).mono ?_; rintro e w' ⟨rfl, rfl⟩)
        go_roundw
        case rel => exact ⟨k + 1, by omega, by go_num, HD.out, trivial⟩
        case measure => simp [intOf]; omega
      · have hno : OK = false := by
          cases hO : OK with
          | false => rfl
          | true =>
            have h1 := (HOK.out.2 hO).1
            rw [List.all_eq_true] at h1
            have h2 := h1 s[k] (mem_at s k hlt)
            rw [digitB, hg] at h2; cases h2
        subst hno
        clear HR hd HOK
        go_wp2_with (go_at_call 108; refine (digit_any _ _).mono ?_; rintro e w' ⟨rfl, rfl⟩)
        go_ret2
        first | exact ⟨_, rfl⟩ | exact ⟨_, rfl, trivial⟩ | exact ⟨⟨_, rfl⟩, rfl⟩ | exact ⟨_, rfl, fun h => (nomatch h), rfl⟩
    · have hke : k = s.size := by omega
      subst hke
      rw [List.take_of_length_le (by simp)] at hd
      have HD := Lib.hid hd
      clear hd hlt hk
      by_cases h5 : 5 < s.size
      · have hno : OK = false := by
          cases hO : OK with
          | false => rfl
          | true =>
            have h1 := (HOK.out.2 hO).2.1
            rw [size_len] at h1; omega
        subst hno
        clear HR HOK
        go_wp2_with fail
        go_ret2
        first | exact ⟨_, rfl⟩ | exact ⟨_, rfl, trivial⟩ | exact ⟨⟨_, rfl⟩, rfl⟩ | exact ⟨_, rfl, fun h => (nomatch h), rfl⟩
      · go_wp2_with fail
        obtain ⟨wo, rfl⟩ : ∃ wo : World, wo = wr := ⟨_, rfl⟩
        go_loopw [7, 8] (fun nv iv wr => ∃ k : Nat, k ≤ s.size ∧ iv = .int .i64 k ∧ nv = .int .i64 (numL (s.data.toList.take k) : Nat) ∧ wr = wo) (fun _ iv _ => s.size - (intOf iv).toNat)
        case atStart => exact ⟨0, Nat.zero_le _, rfl, rfl, rfl⟩
        case round =>
          obtain ⟨k, hk, rfl, rfl, rfl⟩ := hrel
          have hbd := numL_bd _ (digits_take _ k HD.out) (by rw [List.length_take, size_len]; omega)
          by_cases hlt : k < s.size
          · have hsn := numL_snoc (s.data.toList.take k) s[k]
            rw [← take_snoc s k hlt] at hsn
            have hg : digitB s[k] = true := by
              have h1 := HD.out
              rw [List.all_eq_true] at h1
              exact h1 s[k] (mem_at s k hlt)
            simp only [digitB, digitI, decide_eq_true_eq] at hg
            obtain ⟨n, hn⟩ : ∃ n, numL (s.data.toList.take k) = n := ⟨_, rfl⟩
            rw [hn] at hsn hbd ⊢
            have HS := Lib.hid hsn
            clear hn hsn
            go_wp2_with fail
            go_roundw
            case rel => exact ⟨k + 1, by omega, by go_num, by rw [HS.out]; congr 1; omega, trivial⟩
            case measure => simp [intOf]; omega
          · have hke : k = s.size := by omega
            subst hke
            rw [List.take_of_length_le (by simp)] at hbd ⊢
            obtain ⟨n, hn⟩ : ∃ n, numL s.data.toList = n := ⟨_, rfl⟩
            have hOn : OK = true ↔ n ≤ 65535 := by
              rw [← HOK.out, ← hn]
              exact ⟨fun h => h.2.2, fun h => ⟨HD.out, by rw [size_len]; omega, h⟩⟩
            have hr := HR.out
            rw [hn] at hbd hr ⊢
            clear hn hlt hk HD HOK HR
            have cT := Lib.hid (Tryz.strings_TrimLeft_one s 48 (by decide) wr)
            have hz : (⟨(Lib.trimLeftB s.data.toList 48).toArray⟩ : ByteArray).data.toList = zerosOff s.data.toList := rfl
            obtain ⟨T, hT⟩ : ∃ T : ByteArray, ⟨(Lib.trimLeftB s.data.toList 48).toArray⟩ = T := ⟨_, rfl⟩
            rw [hT] at cT hz
            rw [← hz] at hr
            have HR := Lib.hid hr
            clear hz hT hr
            by_cases hn5 : n ≤ 65535
            · obtain rfl := hOn.2 hn5
              clear hOn
              by_cases hc : n = 0
              · subst hc
                go_wp2_with (go_at_call 114; with_reducible refine cT.out.mono ?_; rintro e w2 ⟨rfl, rfl⟩)
                go_ret2
                first | exact ⟨_, rfl, by rw [HR.out]; simp⟩ | exact ⟨_, rfl, fun _ => by rw [HR.out]; simp, rfl⟩ | exact ⟨_, rfl, fun h => (nomatch h), rfl⟩
              · have hcb : ((n : Int) == 0) = false := by rw [beq_eq_false_iff_ne]; omega
                go_wp2_with (go_at_call 114; with_reducible refine cT.out.mono ?_; rintro e w2 ⟨rfl, rfl⟩)
                go_ret2
                first | exact ⟨_, rfl, by rw [HR.out]; simp [hc]⟩ | exact ⟨_, rfl, fun h => (nomatch h), rfl⟩
            · have hno : OK = false := by
                cases hO : OK with
                | false => rfl
                | true => exact absurd (hOn.1 hO) hn5
              subst hno
              clear hOn
              go_wp2_with (go_at_call 114; with_reducible refine cT.out.mono ?_; rintro e w2 ⟨rfl, rfl⟩)
              go_ret2
              first | exact ⟨_, rfl⟩ | exact ⟨_, rfl, trivial⟩ | exact ⟨⟨_, rfl⟩, rfl⟩ | exact ⟨_, rfl, fun h => (nomatch h), rfl⟩
theorem port_any (sch s : ByteArray) (w : World) (hs : s.size ≤ 1000000) :
    Calls Tryz.prog 65 #[.string sch, .string s] w fun e w' => ∃ t : ByteArray, e = .returned (.tuple #[.string t, .bool (decide (portOk s.data.toList))]) ∧ (portOk s.data.toList → t.data.toList = portOf sch.data.toList s.data.toList) ∧ w = w' := by
  by_cases h1 : sch.data.toList = httpL
  · exact portA sch s w hs (by rw [str_beq, decide_eq_true h1]) (by rw [str_beq, h1]; rfl) _ rfl
  · by_cases h2 : sch.data.toList = httpsL
    · exact portB sch s w hs (by rw [str_beq, h2]; rfl) (by rw [str_beq, decide_eq_true h2]) _ rfl
    · exact portC sch s w hs (by rw [str_beq, decide_eq_false h1]) (by rw [str_beq, decide_eq_false h2]) _ rfl
end Go.Proofs.YtjdhaacmlpegoaaGreatDoor
