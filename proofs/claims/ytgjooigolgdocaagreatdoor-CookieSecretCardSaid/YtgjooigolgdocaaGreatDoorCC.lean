/- Cookies: the small functions: times, trimming, pairs, ages, control characters. -/
import Derived.Test.YtgjooigolgdocaaGreatDoorCB
import Derived.Test.YtgjooigolgdocaaGreatDoorUM
namespace Go.Proofs.YtgjooigolgdocaaGreatDoor
set_option linter.unusedVariables false
set_option linter.unusedSimpArgs false
open Go.RowKit

def clockI (now : Int) : Int := min (max now 0) 9007199254740992
theorem clock_bd (now : Int) : 0 ≤ clockI now ∧ clockI now ≤ 9007199254740992 := by unfold clockI; omega
theorem clock_any (x : Int) (w : World) : Calls Tryz.prog 40 #[.int .i64 x] w fun e w' => e = .returned (.int .i64 (clockI x)) ∧ w = w' := by
  go_enter Tryz.func40, Tryz.ntmps40
  go_wp2
  go_ret
  exact ⟨ret_int rfl, rfl⟩
theorem rtime_any (x : Int) (w : World) : Calls Tryz.prog 50 #[.int .i64 x] w fun e w' => e = .returned (.int .i64 (clockI x)) ∧ w = w' := by
  go_enter Tryz.func50, Tryz.ntmps50
  go_wp2
  go_ret
  exact ⟨ret_int rfl, rfl⟩

/-! trimming -/
def wsC (b : UInt8) : Bool := [32, 9].contains b
def ldrop (l : List UInt8) : List UInt8 := l.dropWhile wsC
def rdrop (l : List UInt8) : List UInt8 := (l.reverse.dropWhile wsC).reverse
def trimC (l : List UInt8) : List UInt8 := rdrop (ldrop l)
theorem rdrop_cons (b : UInt8) (l : List UInt8) : rdrop (b :: l) = if rdrop l = [] then (if wsC b then [] else [b]) else b :: rdrop l := by
  unfold rdrop
  rw [List.reverse_cons, List.dropWhile_append]
  by_cases h : l.reverse.dropWhile wsC = []
  · rw [h]
    simp only [List.isEmpty_nil, if_true, List.reverse_nil]
    rw [List.dropWhile_cons]
    cases wsC b <;> simp
  · have h2 : (l.reverse.dropWhile wsC).isEmpty = false := by simpa using h
    rw [h2, if_neg (by simp), if_neg (by simpa using h)]
    simp
theorem trim_comm : ∀ l : List UInt8, ldrop (rdrop l) = rdrop (ldrop l) := by
  intro l
  induction l with
  | nil => rfl
  | cons b l ih =>
    have e : ldrop (b :: l) = if wsC b then ldrop l else b :: l := by unfold ldrop; rw [List.dropWhile_cons]
    rw [rdrop_cons, e]
    cases hb : wsC b with
    | true =>
      rw [if_pos rfl, if_pos rfl]
      by_cases h : rdrop l = []
      · rw [if_pos h, ← ih, h]
      · rw [if_neg h]
        have e2 : ldrop (b :: rdrop l) = ldrop (rdrop l) := by unfold ldrop; rw [List.dropWhile_cons, if_pos hb]
        rw [e2, ih]
    | false =>
      rw [if_neg Bool.false_ne_true, if_neg Bool.false_ne_true, rdrop_cons, hb, if_neg Bool.false_ne_true]
      by_cases h : rdrop l = []
      · rw [if_pos h]
        unfold ldrop; rw [List.dropWhile_cons, if_neg (by simp [hb])]
      · rw [if_neg h]
        unfold ldrop; rw [List.dropWhile_cons, if_neg (by simp [hb])]
theorem trimC_is (l : List UInt8) : Lib.trimS l [32, 9] = trimC l := by
  show ldrop (rdrop l) = _
  rw [trim_comm]; rfl
theorem trimC_len (l : List UInt8) : (trimC l).length ≤ l.length := by
  unfold trimC rdrop ldrop
  rw [List.length_reverse]
  have h1 := (List.dropWhile_sublist (p := wsC) (l := (l.dropWhile wsC).reverse)).length_le
  have h2 := (List.dropWhile_sublist (p := wsC) (l := l)).length_le
  rw [List.length_reverse] at h1
  omega
theorem rdrop_snoc (l : List UInt8) (b : UInt8) : rdrop (l ++ [b]) = if wsC b then rdrop l else l ++ [b] := by
  unfold rdrop
  rw [List.reverse_append]
  simp only [List.reverse_singleton, List.singleton_append, List.dropWhile_cons]
  split <;> simp
theorem ws_cases (b : UInt8) : (wsC b = true ∧ ((b.toNat : Int) == 32) = true) ∨ (wsC b = true ∧ ((b.toNat : Int) == 32) = false ∧ ((b.toNat : Int) == 9) = true) ∨ (wsC b = false ∧ ((b.toNat : Int) == 32) = false ∧ ((b.toNat : Int) == 9) = false) := by
  by_cases h1 : b = 32
  · subst h1; exact .inl ⟨rfl, rfl⟩
  · have h1' : ((b.toNat : Int) == 32) = false := by
      rw [beq_eq_false_iff_ne]; intro e; exact h1 (UInt8.toNat_inj.1 (by have : (32 : UInt8).toNat = 32 := rfl; omega))
    by_cases h2 : b = 9
    · subst h2; exact .inr (.inl ⟨rfl, h1', rfl⟩)
    · refine .inr (.inr ⟨?_, h1', ?_⟩)
      · unfold wsC; simp [h1, h2]
      · rw [beq_eq_false_iff_ne]; intro e; exact h2 (UInt8.toNat_inj.1 (by have : (9 : UInt8).toNat = 9 := rfl; omega))
set_option maxRecDepth 20000 in
set_option maxHeartbeats 800000 in
theorem rtrimc_any (s : ByteArray) (w : World) (hs : s.size ≤ 1000000) :
    Calls Tryz.prog 46 #[.string s] w fun e w' => ∃ t : ByteArray, e = .returned (.string t) ∧ t.data.toList = trimC s.data.toList ∧ w = w' := by
  obtain ⟨R, hR⟩ : ∃ R, trimC s.data.toList = R := ⟨_, rfl⟩
  rw [hR]
  have HR := Lib.hid hR
  clear hR
  go_enter Tryz.func46, Tryz.ntmps46
  go_wp2
  go_loop [0] (fun v => ∃ t : ByteArray, t.size ≤ 1000000 ∧ v = .string t ∧ trimC t.data.toList = R) strLen
  case atStart => exact ⟨s, hs, rfl, HR.out⟩
  case round =>
    obtain ⟨t, ht, rfl, hr⟩ := hrel
    by_cases h0 : t.size = 0
    · have hE := empty_of t h0
      have hl : t.data.toList = [] := List.eq_nil_of_length_eq_zero (by rw [size_len]; exact h0)
      have hr2 : rdrop t.data.toList = R := by rw [← hr, hl]; rfl
      have HR2 := Lib.hid hr2
      have hz : (t.size : Int) = 0 := by omega
      clear hr hl hr2
      go_wp2_with fail
      go_loop [0] (fun v => ∃ t : ByteArray, t.size ≤ 1000000 ∧ v = .string t ∧ rdrop t.data.toList = R) strLen
      case atStart => exact ⟨t, ht, rfl, HR2.out⟩
      case round =>
        clear hE
        obtain ⟨x, hx, rfl, hr3⟩ := hrel
        by_cases hx0 : x.size = 0
        · have hE := empty_of x hx0
          have hxl : x.data.toList = [] := List.eq_nil_of_length_eq_zero (by rw [size_len]; exact hx0)
          have hr4 : x.data.toList = R := by rw [← hr3, hxl]; rfl
          have HR4 := Lib.hid hr4
          have hxz : (x.size : Int) = 0 := by omega
          clear hr3 hxl hr4
          go_wp2_with fail
          go_ret
          exact ⟨x, rfl, HR4.out, rfl⟩
        · have hE := nonempty_of x (by omega)
          obtain ⟨k, hk⟩ : ∃ k, x.size = k + 1 := ⟨x.size - 1, by omega⟩
          have hs3 := snoc_at x k hk
          have hkx : (x.size : Int) - 1 = k := by omega
          have hkp : (0 : Int) < (x.size : Int) := by omega
          have e := rdrop_snoc (x.data.toList.take k) x[k]
          rw [← hs3] at e
          rcases ws_cases x[k] with ⟨hw, h32⟩ | ⟨hw, h32, h9⟩ | ⟨hw, h32, h9⟩
          · have hr4 : rdrop (x.extract 0 k).data.toList = R := by
              rw [if_pos hw] at e
              rw [ext_from, ← e]; exact hr3
            have HR4 := Lib.hid hr4
            clear hr3 hs3 hr4 e hw
            go_wp2_with fail
            go_round
            case rel => exact ⟨x.extract 0 k, by simp; omega, rfl, HR4.out⟩
            case measure => simp [strLen]; omega
          · have hr4 : rdrop (x.extract 0 k).data.toList = R := by
              rw [if_pos hw] at e
              rw [ext_from, ← e]; exact hr3
            have HR4 := Lib.hid hr4
            clear hr3 hs3 hr4 e hw
            go_wp2_with fail
            go_round
            case rel => exact ⟨x.extract 0 k, by simp; omega, rfl, HR4.out⟩
            case measure => simp [strLen]; omega
          · have hr4 : x.data.toList = R := by
              rw [if_neg (by simp [hw])] at e
              rw [← e]; exact hr3
            have HR4 := Lib.hid hr4
            clear hr3 hs3 hr4 e hw
            go_wp2_with fail
            go_ret
            exact ⟨x, rfl, HR4.out, rfl⟩
    · have hE := nonempty_of t (by omega)
      have hd := drop_at t 0 (by omega)
      rw [List.drop_zero] at hd
      have hp : 0 < t.size := by omega
      have hpi : (0 : Int) < (t.size : Int) := by omega
      rcases ws_cases t[0] with ⟨hw, h32⟩ | ⟨hw, h32, h9⟩ | ⟨hw, h32, h9⟩
      · have hr2 : trimC (t.extract 1 t.size).data.toList = R := by
          rw [ext_to, ← hr, hd]
          unfold trimC ldrop
          rw [List.dropWhile_cons, if_pos hw]
          simp
        have HR2 := Lib.hid hr2
        clear hr hd hr2 hw
        go_wp2_with fail
        go_round
        case rel => exact ⟨t.extract 1 t.size, by simp; omega, rfl, HR2.out⟩
        case measure => simp [strLen]; omega
      · have hr2 : trimC (t.extract 1 t.size).data.toList = R := by
          rw [ext_to, ← hr, hd]
          unfold trimC ldrop
          rw [List.dropWhile_cons, if_pos hw]
          simp
        have HR2 := Lib.hid hr2
        clear hr hd hr2 hw
        go_wp2_with fail
        go_round
        case rel => exact ⟨t.extract 1 t.size, by simp; omega, rfl, HR2.out⟩
        case measure => simp [strLen]; omega
      · have hr2 : rdrop t.data.toList = R := by
          rw [← hr, hd]
          unfold trimC ldrop
          rw [List.dropWhile_cons, if_neg (by simp [hw])]
        have HR2 := Lib.hid hr2
        clear hr hd hr2 hw
        go_wp2_with fail
        go_loop [0] (fun v => ∃ t : ByteArray, t.size ≤ 1000000 ∧ v = .string t ∧ rdrop t.data.toList = R) strLen
        case atStart => exact ⟨t, ht, rfl, HR2.out⟩
        case round =>
          clear hE
          obtain ⟨x, hx, rfl, hr3⟩ := hrel
          by_cases hx0 : x.size = 0
          · have hE := empty_of x hx0
            have hxl : x.data.toList = [] := List.eq_nil_of_length_eq_zero (by rw [size_len]; exact hx0)
            have hr4 : x.data.toList = R := by rw [← hr3, hxl]; rfl
            have HR4 := Lib.hid hr4
            have hxz : (x.size : Int) = 0 := by omega
            clear hr3 hxl hr4
            go_wp2_with fail
            go_ret
            exact ⟨x, rfl, HR4.out, rfl⟩
          · have hE := nonempty_of x (by omega)
            obtain ⟨k, hk⟩ : ∃ k, x.size = k + 1 := ⟨x.size - 1, by omega⟩
            have hs3 := snoc_at x k hk
            have hkx : (x.size : Int) - 1 = k := by omega
            have hkp : (0 : Int) < (x.size : Int) := by omega
            have e := rdrop_snoc (x.data.toList.take k) x[k]
            rw [← hs3] at e
            rcases ws_cases x[k] with ⟨hw, h32⟩ | ⟨hw, h32, h9⟩ | ⟨hw, h32, h9⟩
            · have hr4 : rdrop (x.extract 0 k).data.toList = R := by
                rw [if_pos hw] at e
                rw [ext_from, ← e]; exact hr3
              have HR4 := Lib.hid hr4
              clear hr3 hs3 hr4 e hw
              go_wp2_with fail
              go_round
              case rel => exact ⟨x.extract 0 k, by simp; omega, rfl, HR4.out⟩
              case measure => simp [strLen]; omega
            · have hr4 : rdrop (x.extract 0 k).data.toList = R := by
                rw [if_pos hw] at e
                rw [ext_from, ← e]; exact hr3
              have HR4 := Lib.hid hr4
              clear hr3 hs3 hr4 e hw
              go_wp2_with fail
              go_round
              case rel => exact ⟨x.extract 0 k, by simp; omega, rfl, HR4.out⟩
              case measure => simp [strLen]; omega
            · have hr4 : x.data.toList = R := by
                rw [if_neg (by simp [hw])] at e
                rw [← e]; exact hr3
              have HR4 := Lib.hid hr4
              clear hr3 hs3 hr4 e hw
              go_wp2_with fail
              go_ret
              exact ⟨x, rfl, HR4.out, rfl⟩
/-- the same at a known result -/
theorem rtrimc_is (s T : ByteArray) (w : World) (hs : s.size ≤ 1000000) (hT : T.data.toList = trimC s.data.toList) :
    Calls Tryz.prog 46 #[.string s] w fun e w' => e = .returned (.string T) ∧ w = w' := by
  refine (rtrimc_any s w hs).mono ?_
  rintro e w' ⟨t, rfl, ht, h⟩
  exact ⟨by rw [ba_ext' (ht.trans hT.symm)], h⟩
theorem ctrim_is (s T : ByteArray) (w : World) (hs : s.size ≤ 1000000) (hT : T.data.toList = trimC s.data.toList) :
    Calls Tryz.prog 53 #[.string s, .string ⟨#[32, 9]⟩] w fun e w' => e = .returned (.string T) ∧ Below w.heap.size w w' := by
  refine (trimcs_any s ⟨#[32, 9]⟩ w hs (by decide) (by decide)).mono ?_
  rintro e w' ⟨rfl, h⟩
  refine ⟨?_, h⟩
  congr 2
  exact ba_ext' (by rw [hT, ← trimC_is])

/-! pairs -/
theorem pair_is (s N V : ByteArray) (F : Bool) (w : World) (hs : s.size ≤ 1000000) (hM : MaxAt w) (hN : N.data.toList = trimC (pre 61 s.data.toList)) (hV : V.data.toList = trimC (post 61 s.data.toList)) (hF : s.data.toList.contains 61 = F) :
    Calls Tryz.prog 36 #[.string s] w fun e w' => e = .returned (.tuple #[.string N, .string V, .bool F]) ∧ Below w.heap.size w w' := by
  obtain ⟨m, hm⟩ := hM
  have cC := Tryz.strings_Cut s ⟨#[61]⟩ m w (by omega) hm
  rw [show (⟨#[61]⟩ : ByteArray).data.toList = [61] from rfl, cut_eq, hF] at cC
  obtain ⟨A, hA⟩ : ∃ A : ByteArray, ⟨(pre 61 s.data.toList).toArray⟩ = A := ⟨_, rfl⟩
  obtain ⟨B, hB⟩ : ∃ B : ByteArray, ⟨(post 61 s.data.toList).toArray⟩ = B := ⟨_, rfl⟩
  have hA2 : A.data.toList = pre 61 s.data.toList := by rw [← hA]
  have hB2 : B.data.toList = post 61 s.data.toList := by rw [← hB]
  simp only [hA, hB] at cC
  have l1 : (pre 61 s.data.toList).length ≤ s.data.toList.length := (List.takeWhile_sublist _).length_le
  have l2 : (post 61 s.data.toList).length ≤ s.data.toList.length := by
    unfold post; rw [List.length_drop]
    have := (List.dropWhile_sublist (p := (· != (61 : UInt8))) (l := s.data.toList)).length_le
    omega
  rw [← hA2, size_len, size_len] at l1
  rw [← hB2, size_len, size_len] at l2
  have C1 := Lib.hid (fun w => ctrim_is A N w (by omega) (by rw [hA2]; exact hN))
  have C2 := Lib.hid (fun w => ctrim_is B V w (by omega) (by rw [hB2]; exact hV))
  have CC := Lib.hid cC
  clear cC hA hB hA2 hB2 hN hV hF hm
  go_enter Tryz.func36, Tryz.ntmps36
  go_wp2_with (first
    | (go_at_call 75; with_reducible refine CC.out.mono ?_; rintro e w' ⟨rfl, nn, rfl⟩)
    | (go_at_call 53; with_reducible refine (C1.out _).mono ?_; rintro e w1 ⟨rfl, hb1⟩)
    | (go_at_call 53; with_reducible refine (C2.out _).mono ?_; rintro e w2 ⟨rfl, hb2⟩))
  go_ret3
  exact ⟨rfl, ((below_drewN (Below.refl _ w) _).trans (hb1.mono (by simp))).trans (hb2.mono (by have := hb1.size; simp at this; exact this))⟩

/-! ages -/
def ageF (n : Int) (b : UInt8) : Int := min (n * 10 + ((b.toNat : Int) - 48)) 1000000000
/-- the seconds of a value, limited; none: it is none -/
def ageL (l : List UInt8) : Option Int :=
  if Lib.hasPrefix l [45] = true then (if l.drop 1 ≠ [] ∧ (l.drop 1).all digitB = true then some 0 else none)
  else (if l ≠ [] ∧ l.all digitB = true then some (l.foldl ageF 0) else none)
theorem ageF_bd (n : Int) (b : UInt8) (h0 : 0 ≤ n) (h : digitB b = true) : 0 ≤ ageF n b ∧ ageF n b ≤ 1000000000 := by
  simp only [digitB, digitI, decide_eq_true_eq] at h
  unfold ageF; omega
theorem foldl_age_bd : ∀ (l : List UInt8) (n : Int), 0 ≤ n → n ≤ 1000000000 → l.all digitB = true → 0 ≤ l.foldl ageF n ∧ l.foldl ageF n ≤ 1000000000 := by
  intro l
  induction l with
  | nil => intro n h0 h1 _; exact ⟨h0, h1⟩
  | cons b l ih =>
    intro n h0 h1 h
    simp only [List.all_cons, Bool.and_eq_true] at h
    have := ageF_bd n b h0 h.1
    exact ih _ this.1 this.2 h.2
theorem ageL_bd (l : List UInt8) (n : Int) (h : ageL l = some n) : 0 ≤ n ∧ n ≤ 1000000000 := by
  unfold ageL at h
  split at h
  · split at h
    · injection h with h; omega
    · cases h
  · split at h
    · next h2 =>
      injection h with h
      have := foldl_age_bd l 0 (by omega) (by omega) h2.2
      omega
    · cases h
theorem pre45 (s : ByteArray) : Lib.hasPrefix s.data.toList [45] = true → 0 < s.size := fun h => by
  have := hasPrefix_drop h
  rw [← size_len, this]; simp
abbrev digCut : ByteArray := ⟨#[48, 49, 50, 51, 52, 53, 54, 55, 56, 57]⟩
theorem digB_in : ∀ b : UInt8, digCut.data.toList.contains b = digitB b := by
  have : ∀ n : Fin 256, digCut.data.toList.contains (UInt8.ofNat n.1) = digitB (UInt8.ofNat n.1) := by decide +kernel
  intro b
  have h := this ⟨b.toNat, b.toNat_lt⟩
  simpa using h
theorem trimS_dig (l : List UInt8) : (Lib.trimS l digCut.data.toList).isEmpty = l.all digitB := by
  rw [Bool.eq_iff_iff, List.isEmpty_iff, trimS_nil]
  rw [show (fun b => digCut.data.toList.contains b) = digitB from funext digB_in]
theorem take_snoc' (s : ByteArray) (k : Nat) (h : k < s.size) : s.data.toList.take (k + 1) = s.data.toList.take k ++ [s[k]] := by
  rw [List.take_succ_eq_append_getElem (by simpa using h)]; rfl
theorem dig_at {s : ByteArray} (h : s.data.toList.all digitB = true) (k : Nat) (hk : k < s.size) : (48 : Int) ≤ s[k].toNat ∧ (s[k].toNat : Int) ≤ 57 := by
  have hm : s[k] ∈ s.data.toList := List.drop_subset k _ (by rw [drop_at s k hk]; exact List.mem_cons_self)
  have := List.all_eq_true.1 h _ hm
  simp only [digitB, digitI, decide_eq_true_eq] at this
  exact this
theorem age_step (s : ByteArray) (k : Nat) (hk : k < s.size) (n : Int) (hn : (s.data.toList.take k).foldl ageF 0 = n) : (s.data.toList.take (k + 1)).foldl ageF 0 = min (n * 10 + ((s[k].toNat : Int) - 48)) 1000000000 := by
  rw [take_snoc' s k hk, List.foldl_append, hn]; rfl
/-- the walk of the digits, in the package -/
theorem age_some (s D : ByteArray) (mi : Bool) (R : Int) (hR : (if mi then 0 else D.data.toList.foldl ageF 0) = R) (w : World) (hs : s.size ≤ 1000000) (hD : 0 < D.size) (hDs : D.size ≤ 1000000) (hdig : D.data.toList.all digitB = true)
    (cP : ∀ w, Calls Tryz.prog 56 #[.string s, .string ⟨#[45]⟩] w fun e w' => e = .returned (.tuple #[.string D, .bool mi]) ∧ w = w') :
    Calls Tryz.prog 39 #[.string s] w fun e w' => e = .returned (.tuple #[.int .i64 R, .bool true]) ∧ Below w.heap.size w w' := by
  have cT := fun w => trimcs_any D digCut w hDs (by decide) (by decide)
  obtain ⟨T, hT⟩ : ∃ T : ByteArray, ⟨(Lib.trimS D.data.toList digCut.data.toList).toArray⟩ = T := ⟨_, rfl⟩
  have hN := trimS_dig D.data.toList
  rw [hdig] at hN
  have hTE : T.toList.isEmpty = true := by rw [ByteArray.toList_eq, ← hT]; exact hN
  rw [hT] at cT
  have hE := nonempty_of D hD
  have CP := Lib.hid cP
  have CT := Lib.hid cT
  have HD := Lib.hid hdig
  clear cP cT hT hN hdig
  have HR := Lib.hid hR
  clear hR
  cases mi
  all_goals
    go_enter Tryz.func39, Tryz.ntmps39
    go_wp2_with (first
      | (go_at_call 56; with_reducible refine (CP.out _).mono ?_; rintro e w' ⟨rfl, rfl⟩)
      | (go_at_call 53; with_reducible refine (CT.out _).mono ?_; rintro e w1 ⟨rfl, hb1⟩))
    go_loop [6, 22] (fun v i => ∃ (k : Nat) (n : Int), k ≤ D.size ∧ i = .int .i64 k ∧ v = .int .i64 n ∧ 0 ≤ n ∧ n ≤ 1000000000 ∧ (D.data.toList.take k).foldl ageF 0 = n) (fun _ i => D.size - (intOf i).toNat)
    case atStart => exact ⟨0, 0, Nat.zero_le _, rfl, rfl, by omega, by omega, rfl⟩
    case round =>
      obtain ⟨k, n, hk, rfl, rfl, hn0, hn1, hf⟩ := hrel
      by_cases hlt : k < D.size
      · have hd := dig_at HD.out k hlt
        have hst := age_step D k hlt n hf
        have HS := Lib.hid hst
        obtain ⟨hd1, hd2⟩ := hd
        have hlti : (k : Int) < D.size := by omega
        clear hf hst
        go_wp2_with fail
        go_round
        case rel => exact ⟨k + 1, _, by omega, by go_num, rfl, by omega, by omega, HS.out.trans (by first | rfl | (congr 1 <;> omega))⟩
        case measure => simp [intOf]; omega
      · obtain rfl : k = D.size := by omega
        rw [List.take_of_length_le (by rw [size_len]; exact Nat.le_refl _)] at hf
        have HF := Lib.hid hf
        clear hf
        go_wp2_with fail
        go_ret2
        exact ⟨by rw [← HR.out]; first | rfl | (simp only [Bool.false_eq_true, if_false]; rw [HF.out]; rfl), hb1⟩
theorem age_no (s D : ByteArray) (mi : Bool) (w : World) (hs : s.size ≤ 1000000) (hDs : D.size ≤ 1000000) (hdig : ¬ (D.data.toList ≠ [] ∧ D.data.toList.all digitB = true))
    (cP : ∀ w, Calls Tryz.prog 56 #[.string s, .string ⟨#[45]⟩] w fun e w' => e = .returned (.tuple #[.string D, .bool mi]) ∧ w = w') :
    Calls Tryz.prog 39 #[.string s] w fun e w' => e = .returned (.tuple #[.int .i64 0, .bool false]) ∧ Below w.heap.size w w' := by
  have CP := Lib.hid cP
  clear cP
  by_cases h0 : D.size = 0
  · have hE := empty_of D h0
    clear hdig h0
    go_enter Tryz.func39, Tryz.ntmps39
    go_wp2_with (go_at_call 56; with_reducible refine (CP.out _).mono ?_; rintro e w' ⟨rfl, rfl⟩)
    go_ret2
    exact ⟨rfl, Below.refl _ _⟩
  · have hE := nonempty_of D (by omega)
    have hd2 : D.data.toList.all digitB = false := by
      cases e : D.data.toList.all digitB with
      | false => rfl
      | true => exact absurd ⟨list_ne' h0, e⟩ hdig
    have cT := fun w => trimcs_any D digCut w hDs (by decide) (by decide)
    obtain ⟨T, hT⟩ : ∃ T : ByteArray, ⟨(Lib.trimS D.data.toList digCut.data.toList).toArray⟩ = T := ⟨_, rfl⟩
    have hN := trimS_dig D.data.toList
    rw [hd2] at hN
    have hTE : T.toList.isEmpty = false := by rw [ByteArray.toList_eq, ← hT]; exact hN
    rw [hT] at cT
    have CT := Lib.hid cT
    clear cT hT hN hdig hd2 h0
    go_enter Tryz.func39, Tryz.ntmps39
    go_wp2_with (first
      | (go_at_call 56; with_reducible refine (CP.out _).mono ?_; rintro e w' ⟨rfl, rfl⟩)
      | (go_at_call 53; with_reducible refine (CT.out _).mono ?_; rintro e w1 ⟨rfl, hb1⟩))
    go_ret2
    exact ⟨rfl, hb1⟩
theorem cage_is (s : ByteArray) (o : Option Int) (ho : ageL s.data.toList = o) (w : World) (hs : s.size ≤ 1000000) :
    Calls Tryz.prog 39 #[.string s] w fun e w' => e = .returned (.tuple #[.int .i64 (o.getD 0), .bool o.isSome]) ∧ Below w.heap.size w w' := by
  obtain ⟨D, hD⟩ : ∃ D : ByteArray, ⟨(Lib.trimPrefix s.data.toList [45]).toArray⟩ = D := ⟨_, rfl⟩
  have cP := fun w => Tryz.strings_CutPrefix s ⟨#[45]⟩ w
  rw [show (⟨#[45]⟩ : ByteArray).data.toList = [45] from rfl, hD] at cP
  have hDl : D.data.toList = Lib.trimPrefix s.data.toList [45] := by rw [← hD]
  have hDs : D.size ≤ 1000000 := by
    rw [← size_len, hDl]
    unfold Lib.trimPrefix
    have := size_len s
    split
    · rw [List.length_drop]; omega
    · omega
  have cP2 := fun w => (cP w).mono fun e w' ⟨h1, h2⟩ => (⟨h1, h2.symm⟩ : _ ∧ w = w')
  clear cP hD
  unfold ageL at ho
  cases hp : Lib.hasPrefix s.data.toList [45] with
  | true =>
    rw [hp] at ho cP2
    have hDl2 : D.data.toList = s.data.toList.drop 1 := by rw [hDl]; unfold Lib.trimPrefix; rw [if_pos hp]; rfl
    rw [if_pos rfl, ← hDl2] at ho
    by_cases hc : D.data.toList ≠ [] ∧ D.data.toList.all digitB = true
    · rw [if_pos hc] at ho
      subst ho
      exact age_some s D true 0 rfl w hs (by rw [← size_len]; exact List.length_pos_iff.2 hc.1) hDs hc.2 cP2
    · rw [if_neg hc] at ho
      subst ho
      exact age_no s D true w hs hDs hc cP2
  | false =>
    rw [hp] at ho cP2
    have hDl2 : D.data.toList = s.data.toList := by rw [hDl]; unfold Lib.trimPrefix; rw [if_neg (by simp [hp])]
    rw [if_neg Bool.false_ne_true, ← hDl2] at ho
    by_cases hc : D.data.toList ≠ [] ∧ D.data.toList.all digitB = true
    · rw [if_pos hc] at ho
      subst ho
      exact age_some s D false _ rfl w hs (by rw [← size_len]; exact List.length_pos_iff.2 hc.1) hDs hc.2 cP2
    · rw [if_neg hc] at ho
      subst ho
      exact age_no s D false w hs hDs hc cP2
theorem all_take_snoc {s : ByteArray} {k : Nat} (hk : k < s.size) : (s.data.toList.take (k + 1)).all digitB = ((s.data.toList.take k).all digitB && digitB s[k]) := by
  rw [take_snoc' s k hk, List.all_append]; simp
theorem all_bad {s : ByteArray} {k : Nat} (hk : k < s.size) (h : digitB s[k] = false) : s.data.toList.all digitB = false := by
  cases e : s.data.toList.all digitB with
  | false => rfl
  | true =>
    have hm : s[k] ∈ s.data.toList := List.drop_subset k _ (by rw [drop_at s k hk]; exact List.mem_cons_self)
    rw [List.all_eq_true.1 e _ hm] at h; cases h
set_option maxRecDepth 20000 in
set_option maxHeartbeats 1000000 in
theorem rage_is (s : ByteArray) (o : Option Int) (ho : ageL s.data.toList = o) (w : World) (hs : s.size ≤ 1000000) :
    Calls Tryz.prog 49 #[.string s] w fun e w' => e = .returned (.tuple #[.int .i64 (o.getD 0), .bool o.isSome]) ∧ w = w' := by
  have cP := fun w => starts_any s ⟨#[45]⟩ w hs (by decide)
  rw [show (⟨#[45]⟩ : ByteArray).data.toList = [45] from rfl] at cP
  unfold ageL at ho
  obtain ⟨V, hV⟩ : ∃ V, o.getD 0 = V := ⟨_, rfl⟩
  obtain ⟨S, hS⟩ : ∃ S, o.isSome = S := ⟨_, rfl⟩
  rw [hV, hS]
  cases hp : Lib.hasPrefix s.data.toList [45] with
  | true =>
    rw [hp] at ho cP
    rw [if_pos rfl, ← ext_to s 1] at ho
    have h1 := pre45 s hp
    have h1i : (0 : Int) < s.size := by omega
    have htz : (s.extract 1 s.size).size ≤ 1000000 := by rw [ByteArray.size_extract]; omega
    obtain ⟨t, ht⟩ : ∃ t, s.extract 1 s.size = t := ⟨_, rfl⟩
    rw [ht] at ho htz
    have HO : Hid (Ending.returned (.tuple #[.int .i64 ((if t.data.toList ≠ [] ∧ t.data.toList.all digitB = true then some 0 else none : Option Int).getD 0), .bool (if t.data.toList ≠ [] ∧ t.data.toList.all digitB = true then some (0 : Int) else none).isSome]) = Ending.returned (.tuple #[.int .i64 V, .bool S])) := by rw [ho, hV, hS]; exact rfl
    have CP := Lib.hid cP
    clear cP ho hV hS hp
    go_enter Tryz.func49, Tryz.ntmps49
    go_wp2_with (go_at_call 51; with_reducible refine (CP.out _).mono ?_; rintro e w' ⟨rfl, rfl⟩)
    go_loop [5, 6] (fun v i => ∃ (k : Nat) (n : Int), k ≤ t.size ∧ i = .int .i64 k ∧ v = .int .i64 n ∧ 0 ≤ n ∧ n ≤ 1000000000 ∧ (t.data.toList.take k).foldl ageF 0 = n ∧ (t.data.toList.take k).all digitB = true) (fun _ i => t.size - (intOf i).toNat)
    case atStart => exact ⟨0, 0, Nat.zero_le _, rfl, rfl, by omega, by omega, rfl, rfl⟩
    case round =>
      obtain ⟨k, n, hk, rfl, rfl, hn0, hn1, hf, hall⟩ := hrel
      by_cases hlt : k < t.size
      · have hst := age_step t k hlt n hf
        have hal := all_take_snoc hlt
        have hbad := all_bad hlt
        have hlti : (k : Int) < t.size := by omega
        have cD := fun w => rdigit_any (t[k].toNat : Int) w
        have hdd : digitB t[k] = digitI (t[k].toNat : Int) := rfl
        obtain ⟨d, hd⟩ : ∃ d, digitI (t[k].toNat : Int) = d := ⟨_, rfl⟩
        rw [hd] at cD hdd
        have CD := Lib.hid cD
        rw [hdd] at hal hbad
        rw [hall] at hal
        cases d
        · have HB := Lib.hid (hbad rfl)
          clear hf hst hall hal hbad cD hd hdd
          go_wp2_with (go_at_call 82; with_reducible refine (CD.out _).mono ?_; rintro e w' ⟨rfl, rfl⟩)
          go_ret2
          exact ⟨by rw [← HO.out, HB.out]; simp, rfl⟩
        · have hdr : (48 : Int) ≤ t[k].toNat ∧ (t[k].toNat : Int) ≤ 57 := by simpa [digitI] using hd
          obtain ⟨hd1, hd2⟩ := hdr
          have HS := Lib.hid hst
          have HA := Lib.hid hal
          clear hf hst hall hal hbad cD hd hdd
          go_wp2_with (go_at_call 82; with_reducible refine (CD.out _).mono ?_; rintro e w' ⟨rfl, rfl⟩)
          go_round
          case rel => exact ⟨k + 1, _, by omega, by go_num, rfl, by omega, by omega, HS.out.trans (by first | rfl | (congr 1 <;> omega)), by rw [HA.out]; rfl⟩
          case measure => simp [intOf]; omega
      · obtain rfl : k = t.size := by omega
        rw [List.take_of_length_le (by rw [size_len]; exact Nat.le_refl _)] at hf hall
        have HF := Lib.hid hf
        have HA := Lib.hid hall
        clear hf hall
        by_cases h0 : t.size = 0
        · have hE := empty_of t h0
          have HL := Lib.hid (list_nil' h0)
          go_wp2_with fail
          go_ret2
          exact ⟨by rw [← HO.out, HL.out]; first | rfl | (rw [← HF.out, HL.out]; rfl), rfl⟩
        · have hE := nonempty_of t (by omega)
          have HL := Lib.hid (list_ne' h0)
          go_wp2_with fail
          go_ret2
          exact ⟨by rw [← HO.out, if_pos ⟨HL.out, HA.out⟩]; first | rfl | (rw [HF.out]; rfl), rfl⟩
  | false =>
    rw [hp] at ho cP
    rw [if_neg Bool.false_ne_true] at ho
    obtain ⟨t, ht⟩ : ∃ t, s = t := ⟨_, rfl⟩
    subst ht
    have HO : Hid (Ending.returned (.tuple #[.int .i64 ((if s.data.toList ≠ [] ∧ s.data.toList.all digitB = true then some (s.data.toList.foldl ageF 0) else none : Option Int).getD 0), .bool (if s.data.toList ≠ [] ∧ s.data.toList.all digitB = true then some (s.data.toList.foldl ageF 0) else none).isSome]) = Ending.returned (.tuple #[.int .i64 V, .bool S])) := by rw [ho, hV, hS]; exact rfl
    have CP := Lib.hid cP
    obtain ⟨t, rfl⟩ : ∃ t, t = s := ⟨_, rfl⟩
    clear cP ho hV hS hp
    go_enter Tryz.func49, Tryz.ntmps49
    go_wp2_with (go_at_call 51; with_reducible refine (CP.out _).mono ?_; rintro e w' ⟨rfl, rfl⟩)
    go_loop [5, 6] (fun v i => ∃ (k : Nat) (n : Int), k ≤ t.size ∧ i = .int .i64 k ∧ v = .int .i64 n ∧ 0 ≤ n ∧ n ≤ 1000000000 ∧ (t.data.toList.take k).foldl ageF 0 = n ∧ (t.data.toList.take k).all digitB = true) (fun _ i => t.size - (intOf i).toNat)
    case atStart => exact ⟨0, 0, Nat.zero_le _, rfl, rfl, by omega, by omega, rfl, rfl⟩
    case round =>
      obtain ⟨k, n, hk, rfl, rfl, hn0, hn1, hf, hall⟩ := hrel
      by_cases hlt : k < t.size
      · have hst := age_step t k hlt n hf
        have hal := all_take_snoc hlt
        have hbad := all_bad hlt
        have hlti : (k : Int) < t.size := by omega
        have cD := fun w => rdigit_any (t[k].toNat : Int) w
        have hdd : digitB t[k] = digitI (t[k].toNat : Int) := rfl
        obtain ⟨d, hd⟩ : ∃ d, digitI (t[k].toNat : Int) = d := ⟨_, rfl⟩
        rw [hd] at cD hdd
        have CD := Lib.hid cD
        rw [hdd] at hal hbad
        rw [hall] at hal
        cases d
        · have HB := Lib.hid (hbad rfl)
          clear hf hst hall hal hbad cD hd hdd
          go_wp2_with (go_at_call 82; with_reducible refine (CD.out _).mono ?_; rintro e w' ⟨rfl, rfl⟩)
          go_ret2
          exact ⟨by rw [← HO.out, HB.out]; simp, rfl⟩
        · have hdr : (48 : Int) ≤ t[k].toNat ∧ (t[k].toNat : Int) ≤ 57 := by simpa [digitI] using hd
          obtain ⟨hd1, hd2⟩ := hdr
          have HS := Lib.hid hst
          have HA := Lib.hid hal
          clear hf hst hall hal hbad cD hd hdd
          go_wp2_with (go_at_call 82; with_reducible refine (CD.out _).mono ?_; rintro e w' ⟨rfl, rfl⟩)
          go_round
          case rel => exact ⟨k + 1, _, by omega, by go_num, rfl, by omega, by omega, HS.out.trans (by first | rfl | (congr 1 <;> omega)), by rw [HA.out]; rfl⟩
          case measure => simp [intOf]; omega
      · obtain rfl : k = t.size := by omega
        rw [List.take_of_length_le (by rw [size_len]; exact Nat.le_refl _)] at hf hall
        have HF := Lib.hid hf
        have HA := Lib.hid hall
        clear hf hall
        by_cases h0 : t.size = 0
        · have hE := empty_of t h0
          have HL := Lib.hid (list_nil' h0)
          go_wp2_with fail
          go_ret2
          exact ⟨by rw [← HO.out, HL.out]; first | rfl | (rw [← HF.out, HL.out]; rfl), rfl⟩
        · have hE := nonempty_of t (by omega)
          have HL := Lib.hid (list_ne' h0)
          go_wp2_with fail
          go_ret2
          exact ⟨by rw [← HO.out, if_pos ⟨HL.out, HA.out⟩]; first | rfl | (rw [HF.out]; rfl), rfl⟩
end Go.Proofs.YtgjooigolgdocaaGreatDoor
