/- Cache: headers. -/
import Derived.Test.YtkobhknggamejaaGreatDoorHB
namespace Go.Proofs.YtkobhknggamejaaGreatDoor
set_option linter.unusedVariables false
set_option linter.unusedSimpArgs false
open Go.RowKit

/-- a header: its name and its value -/
abbrev Hd := ByteArray × ByteArray
abbrev hdC (h : Hd) : List Value := [.string h.1, .string h.2]
theorem hdC_len (h : Hd) : (hdC h).length = 2 := rfl
def hitH (name : List UInt8) (h : Hd) : Bool := lowL h.1.data.toList == lowL name
/-- the value of the first header with a name -/
def hdrL (hs : List Hd) (name : List UInt8) : Option ByteArray := (hs.find? (hitH name)).map (·.2)
/-- headers that are not too long for the walks -/
def HdSz (hs : List Hd) : Prop := hs.length ≤ 1000000 ∧ ∀ h ∈ hs, h.1.size ≤ 100000 ∧ h.2.size ≤ 100000
theorem low_size (s : ByteArray) : (bs (lowL s.data.toList)).size = s.size := by
  rw [← size_len, bs_list, ← size_len]; simp [lowL]
theorem ralike_is (a b : ByteArray) (R : Bool) (hR : (lowL a.data.toList == lowL b.data.toList) = R) (w : World) (ha : a.size ≤ 1000000) (hb : b.size ≤ 1000000) :
    Calls Tryz.prog 40 #[.string a, .string b] w fun e w' => e = .returned (.bool R) ∧ Below w.heap.size w w' := by
  obtain ⟨A, hA⟩ : ∃ A, bs (lowL a.data.toList) = A := ⟨_, rfl⟩
  obtain ⟨B, hB⟩ : ∃ B, bs (lowL b.data.toList) = B := ⟨_, rfl⟩
  have C1 := Lib.hid (fun w => smallc_is a A (by rw [← hA]; rfl) w ha)
  have C2 := Lib.hid (fun w => smallc_is b B (by rw [← hB]; rfl) w hb)
  have hRR : (A.toList == B.toList) = R := by rw [← hR, ByteArray.toList_eq, ByteArray.toList_eq, ← hA, ← hB]; rfl
  have HR := Lib.hid hRR
  clear hR hRR hA hB
  go_enter Tryz.func40, Tryz.ntmps40
  go_wp2_with (first
    | (go_at_call 46; with_reducible refine (C1.out _).mono ?_; rintro e w1 ⟨rfl, hb1⟩)
    | (go_at_call 46; with_reducible refine (C2.out _).mono ?_; rintro e w2 ⟨rfl, hb2⟩))
  go_ret
  exact ⟨ret_bool HR.out, hb1.trans (hb2.mono hb1.size)⟩
theorem find_drop {α : Type} (p : α → Bool) (l : List α) (k : Nat) (h : k < l.length) (x : α) (hx : l[k] = x) (F : Option α) (hF : (l.drop k).find? p = F) : if p x then F = some x else (l.drop (k + 1)).find? p = F := by
  subst hx
  rw [List.drop_eq_getElem_cons h, List.find?_cons] at hF
  cases hp : p l[k] with
  | true => rw [hp] at hF; rw [if_pos rfl]; exact hF.symm
  | false => rw [hp] at hF; rw [if_neg (by simp)]; exact hF
/-- what Header answers -/
def HdrQ (w : World) (F : Option ByteArray) (e : Ending) (w' : World) : Prop := e = .returned (.tuple #[.string (F.getD ⟨#[]⟩), .bool F.isSome]) ∧ Below w.heap.size w w'
set_option maxRecDepth 20000 in
set_option maxHeartbeats 1000000 in
theorem hdr_is (hs : List Hd) (v : Value) (name : ByteArray) (w : World) (hv : SlK hdC 2 w v hs) (hz : HdSz hs) (hn : name.size ≤ 100000) :
    Calls Tryz.prog 12 #[v, .string name] w (HdrQ w (hdrL hs name.data.toList)) := by
  obtain ⟨F, hF⟩ : ∃ F, hs.find? (hitH name.data.toList) = F := ⟨_, rfl⟩
  unfold hdrL
  rw [hF]
  obtain ⟨B, hB⟩ : ∃ B, bs (lowL name.data.toList) = B := ⟨_, rfl⟩
  have C2 := Lib.hid (fun w => lowh_is name B (by rw [← hB]; rfl) w (by omega))
  have HB := Lib.hid hB
  have HF := Lib.hid hF
  have HZ := Lib.hid hz.2
  have hl := hz.1
  obtain ⟨sa, sc, rfl, _⟩ := hv.shape
  clear hF hz hB
  go_enter Tryz.func12, Tryz.ntmps12
  go_wp2_with fail
  go_loopw [10] (fun iv wr => ∃ k : Nat, k ≤ hs.length ∧ iv = .int .i64 k ∧ Hid ((hs.drop k).find? (hitH name.data.toList) = F) ∧ Below w.heap.size w wr) (fun iv _ => hs.length - (intOf iv).toNat)
  case atStart => exact ⟨0, Nat.zero_le _, rfl, Lib.hid HF.out, Below.refl _ _⟩
  case round =>
    obtain ⟨k, hk, rfl, HD, hbw⟩ := hrel
    have hwz := hbw.size
    by_cases hlt : k < hs.length
    · have hki : (k : Int) < (hs.length : Int) := by omega
      rcases hv with ⟨rfl, _⟩ | ⟨_, b0, off, cap, he, hc1, hc2, hc3, hcell⟩
      · simp at hlt
      injection he with e1 e2 e3
      subst e1 e3
      have cc : ∀ j u, (hdC hs[k])[j]? = some u → wr.cell? ⟨b0, off + k * 2 + j, none⟩ = some u := fun j u hu => (hbw.cell (p := ⟨b0, off + k * 2 + j, none⟩) hc3).trans (hcell k hlt j u hu)
      have hsz := HZ.out _ (List.getElem_mem hlt)
      have hfd := find_drop _ hs k hlt _ rfl F HD.out
      obtain ⟨y, hy⟩ : ∃ y, hs[k] = y := ⟨_, rfl⟩
      rw [hy] at cc hsz hfd
      clear hy hcell
      obtain ⟨yn, yv⟩ := y
      have hyn : yn.size ≤ 100000 := hsz.1
      have c0 := cc 0 _ rfl
      have c1 := cc 1 _ rfl
      simp only [Nat.add_zero] at c0
      clear cc hsz
      have hal := (Below.refl _ wr).alloc (Nat.le_refl _) (.cells (hdC (yn, yv)).toArray 68)
      have KA := AtL.new wr (hdC (yn, yv)) 68
      have hBA := hbw.trans (hal.mono hwz)
      have hza := hBA.size
      by_cases hq : lowL yn.data.toList = lowL name.data.toList
      · have C1 := Lib.hid (fun w => lowh_is yn B (by rw [← HB.out]; exact hq.symm) w (by omega))
        have hp : hitH name.data.toList (yn, yv) = true := by unfold hitH; rw [hq]; exact beq_self_eq_true _
        rw [hp, if_pos rfl] at hfd
        have HFD := Lib.hid hfd
        clear hfd hp hq
        go_wp2_with (first
          | (go_at_call 39; with_reducible refine (C1.out _).mono ?_; rintro e w1 ⟨rfl, hb1⟩; have hB1 := hBA.trans (hb1.mono hza); have K1 := KA.next hb1; have hz1 := hB1.size)
          | (go_at_call 39; with_reducible refine (C2.out _).mono ?_; rintro e w2 ⟨rfl, hb2⟩; have hB2 := hB1.trans (hb2.mono hz1); have K2 := K1.next hb2; have z0 := K2.c 0 rfl; have z1 := K2.c 1 rfl; have kl2 := K2.lt))
        go_ret2
        rw [HFD.out]
        exact ⟨rfl, hB2⟩
      · obtain ⟨A, hA⟩ : ∃ A, bs (lowL yn.data.toList) = A := ⟨_, rfl⟩
        have C1 := Lib.hid (fun w => lowh_is yn A (by rw [← hA]; rfl) w (by omega))
        have hne : ¬ A.toList = B.toList := by rw [ByteArray.toList_eq, ByteArray.toList_eq, ← hA, ← HB.out]; exact hq
        have hne2 : (A.toList == B.toList) = false := beq_eq_false_iff_ne.2 hne
        have hp : hitH name.data.toList (yn, yv) = false := by unfold hitH; exact beq_eq_false_iff_ne.2 hq
        rw [hp, if_neg (by simp)] at hfd
        have HFD := Lib.hid hfd
        clear hfd hp hq hA
        go_wp2_with (first
          | (go_at_call 39; with_reducible refine (C1.out _).mono ?_; rintro e w1 ⟨rfl, hb1⟩; have hB1 := hBA.trans (hb1.mono hza); have hz1 := hB1.size)
          | (go_at_call 39; with_reducible refine (C2.out _).mono ?_; rintro e w2 ⟨rfl, hb2⟩; have hB2 := hB1.trans (hb2.mono hz1)))
        go_roundw
        case rel => exact ⟨k + 1, by omega, by go_num, HFD, hB2⟩
        case measure => simp [intOf]; omega
    · obtain rfl : k = hs.length := by omega
      have hn2 := HD.out
      rw [List.drop_eq_nil_of_le (Nat.le_refl _), List.find?_nil] at hn2
      subst hn2
      go_wp2_with fail
      go_ret2
      exact ⟨rfl, hbw⟩
set_option maxRecDepth 20000 in
set_option maxHeartbeats 1000000 in
theorem rhdr_is (hs : List Hd) (v : Value) (name : ByteArray) (w : World) (hv : SlK hdC 2 w v hs) (hz : HdSz hs) (hn : name.size ≤ 100000) :
    Calls Tryz.prog 13 #[v, .string name] w (HdrQ w (hdrL hs name.data.toList)) := by
  obtain ⟨F, hF⟩ : ∃ F, hs.find? (hitH name.data.toList) = F := ⟨_, rfl⟩
  unfold hdrL
  rw [hF]
  have HF := Lib.hid hF
  have HZ := Lib.hid hz.2
  have hl := hz.1
  obtain ⟨sa, sc, rfl, _⟩ := hv.shape
  clear hF hz
  go_enter Tryz.func13, Tryz.ntmps13
  go_wp2_with fail
  go_loopw [6] (fun iv wr => ∃ k : Nat, k ≤ hs.length ∧ iv = .int .i64 k ∧ Hid ((hs.drop k).find? (hitH name.data.toList) = F) ∧ Below w.heap.size w wr) (fun iv _ => hs.length - (intOf iv).toNat)
  case atStart => exact ⟨0, Nat.zero_le _, rfl, Lib.hid HF.out, Below.refl _ _⟩
  case round =>
    obtain ⟨k, hk, rfl, HD, hbw⟩ := hrel
    have hwz := hbw.size
    by_cases hlt : k < hs.length
    · have hki : (k : Int) < (hs.length : Int) := by omega
      have hk0 : (0 : Int) ≤ (k : Int) := by omega
      rcases hv with ⟨rfl, _⟩ | ⟨_, b0, off, cap, he, hc1, hc2, hc3, hcell⟩
      · simp at hlt
      injection he with e1 e2 e3
      subst e1 e3
      have cc : ∀ j u, (hdC hs[k])[j]? = some u → wr.cell? ⟨b0, off + k * 2 + j, none⟩ = some u := fun j u hu => (hbw.cell (p := ⟨b0, off + k * 2 + j, none⟩) hc3).trans (hcell k hlt j u hu)
      have hsz := HZ.out _ (List.getElem_mem hlt)
      have hfd := find_drop _ hs k hlt _ rfl F HD.out
      obtain ⟨y, hy⟩ : ∃ y, hs[k] = y := ⟨_, rfl⟩
      rw [hy] at cc hsz hfd
      clear hy hcell
      obtain ⟨yn, yv⟩ := y
      have hyn : yn.size ≤ 100000 := hsz.1
      have c0 := cc 0 _ rfl
      have c1 := cc 1 _ rfl
      simp only [Nat.add_zero] at c0
      clear cc hsz
      have hb0 : b0 < wr.heap.size := Nat.lt_of_lt_of_le hc3 hwz
      have c11 := c1
      cases hq : (lowL yn.data.toList == lowL name.data.toList) with
      | true =>
        have C1 := Lib.hid (fun w => ralike_is yn name true hq w (by omega) (by omega))
        have hp : hitH name.data.toList (yn, yv) = true := hq
        rw [hp, if_pos rfl] at hfd
        have HFD := Lib.hid hfd
        clear hfd hp hq
        go_wp2_with (go_at_call 40; with_reducible refine (C1.out _).mono ?_; rintro e w1 ⟨rfl, hb1⟩; have hB1 := hbw.trans (hb1.mono hwz); have z1 := (brl hb1 _ _ hb0).trans c1)
        go_ret2
        rw [HFD.out]
        exact ⟨rfl, hB1⟩
      | false =>
        have C1 := Lib.hid (fun w => ralike_is yn name false hq w (by omega) (by omega))
        have hp : hitH name.data.toList (yn, yv) = false := hq
        rw [hp, if_neg (by simp)] at hfd
        have HFD := Lib.hid hfd
        clear hfd hp hq
        go_wp2_with (go_at_call 40; with_reducible refine (C1.out _).mono ?_; rintro e w1 ⟨rfl, hb1⟩; have hB1 := hbw.trans (hb1.mono hwz))
        go_roundw
        case rel => exact ⟨k + 1, by omega, by go_num, HFD, hB1⟩
        case measure => simp [intOf]; omega
    · obtain rfl : k = hs.length := by omega
      have hn2 := HD.out
      rw [List.drop_eq_nil_of_le (Nat.le_refl _), List.find?_nil] at hn2
      subst hn2
      go_wp2_with fail
      go_ret2
      exact ⟨rfl, hbw⟩
/-- the same with the value and the word written out -/
theorem hdr_at (hs : List Hd) (v : Value) (name : ByteArray) (w : World) (hv : SlK hdC 2 w v hs) (hz : HdSz hs) (hn : name.size ≤ 100000) (V : ByteArray) (B : Bool) (hV : (hdrL hs name.data.toList).getD ⟨#[]⟩ = V) (hB : (hdrL hs name.data.toList).isSome = B) :
    Calls Tryz.prog 12 #[v, .string name] w fun e w' => e = .returned (.tuple #[.string V, .bool B]) ∧ Below w.heap.size w w' := by
  subst hV hB
  exact hdr_is hs v name w hv hz hn
theorem rhdr_at (hs : List Hd) (v : Value) (name : ByteArray) (w : World) (hv : SlK hdC 2 w v hs) (hz : HdSz hs) (hn : name.size ≤ 100000) (V : ByteArray) (B : Bool) (hV : (hdrL hs name.data.toList).getD ⟨#[]⟩ = V) (hB : (hdrL hs name.data.toList).isSome = B) :
    Calls Tryz.prog 13 #[v, .string name] w fun e w' => e = .returned (.tuple #[.string V, .bool B]) ∧ Below w.heap.size w w' := by
  subst hV hB
  exact rhdr_is hs v name w hv hz hn
theorem hdr_size (hs : List Hd) (name : List UInt8) (hz : HdSz hs) : ((hdrL hs name).getD ⟨#[]⟩).size ≤ 100000 := by
  unfold hdrL
  cases h : hs.find? (hitH name) with
  | none => exact Nat.zero_le _
  | some x => exact (hz.2 x (List.mem_of_find?_eq_some h)).2
theorem rvalue_is (hs : List Hd) (v : Value) (name : ByteArray) (w : World) (hv : SlK hdC 2 w v hs) (hz : HdSz hs) (hn : name.size ≤ 100000) (V : ByteArray) (hV : (hdrL hs name.data.toList).getD ⟨#[]⟩ = V) :
    Calls Tryz.prog 48 #[v, .string name] w fun e w' => e = .returned (.string V) ∧ Below w.heap.size w w' := by
  obtain ⟨B, hB⟩ : ∃ B, (hdrL hs name.data.toList).isSome = B := ⟨_, rfl⟩
  have C := Lib.hid (rhdr_at hs v name w hv hz hn V B hV hB)
  obtain ⟨sa, sc, rfl, _⟩ := hv.shape
  clear hV hB hv hz
  go_enter Tryz.func48, Tryz.ntmps48
  go_wp2_with (go_at_call 13; with_reducible refine C.out.mono ?_; rintro e w1 ⟨rfl, hb1⟩)
  go_ret
  exact ⟨rfl, hb1⟩
theorem rhas_is (hs : List Hd) (v : Value) (name : ByteArray) (w : World) (hv : SlK hdC 2 w v hs) (hz : HdSz hs) (hn : name.size ≤ 100000) (B : Bool) (hB : (hdrL hs name.data.toList).isSome = B) :
    Calls Tryz.prog 52 #[v, .string name] w fun e w' => e = .returned (.bool B) ∧ Below w.heap.size w w' := by
  obtain ⟨V, hV⟩ : ∃ V, (hdrL hs name.data.toList).getD ⟨#[]⟩ = V := ⟨_, rfl⟩
  have C := Lib.hid (rhdr_at hs v name w hv hz hn V B hV hB)
  obtain ⟨sa, sc, rfl, _⟩ := hv.shape
  clear hV hB hv hz
  go_enter Tryz.func52, Tryz.ntmps52
  go_wp2_with (go_at_call 13; with_reducible refine C.out.mono ?_; rintro e w1 ⟨rfl, hb1⟩)
  go_ret
  exact ⟨rfl, hb1⟩
/-- the words of the header Vary -/
def varyL (hs : List Hd) : List (List UInt8) := wordsL ((hdrL hs [118, 97, 114, 121]).getD ⟨#[]⟩).data.toList
theorem vary_is (hs : List Hd) (v : Value) (w : World) (hM : MaxAt w) (hv : SlK hdC 2 w v hs) (hz : HdSz hs) (L : List (List UInt8)) (hL : varyL hs = L) :
    Calls Tryz.prog 50 #[v] w (WordsQ w L) := by
  obtain ⟨B, hB⟩ : ∃ B, (hdrL hs [118, 97, 114, 121]).isSome = B := ⟨_, rfl⟩
  unfold varyL at hL
  have hsz := hdr_size hs [118, 97, 114, 121] hz
  obtain ⟨V, hV⟩ : ∃ V, (hdrL hs [118, 97, 114, 121]).getD ⟨#[]⟩ = V := ⟨_, rfl⟩
  rw [hV] at hL hsz
  have C := Lib.hid (hdr_at hs v ⟨#[118, 97, 114, 121]⟩ w hv hz (by decide) V B hV hB)
  have CW := Lib.hid (fun w hM => words_is V w hsz hM L hL)
  obtain ⟨sa, sc, rfl, _⟩ := hv.shape
  clear hV hB hv hz hL
  go_enter Tryz.func50, Tryz.ntmps50
  go_wp2_with (first
    | (go_at_call 12; with_reducible refine C.out.mono ?_; rintro e w1 ⟨rfl, hb1⟩; have hM1 := hM.below hb1 (Nat.le_refl _))
    | (go_at_call 41; with_reducible refine (CW.out _ hM1).mono ?_; rintro e w2 hq; obtain ⟨ps, a, c, rfl, hown, hl, hb2⟩ := wordsq_open hq; clear hq; have HL := Lib.hid hl; clear hl))
  go_ret
  exact ⟨_, ps, rfl, own_mono hown hb1.size, HL.out, hb1.trans (hb2.mono hb1.size)⟩
end Go.Proofs.YtkobhknggamejaaGreatDoor
