/- UrlEscape: the law returns true for all texts. -/
import Derived.Test.YtgbinadjbikhhaaDoorLT
import Derived.Test.YtgbinadjbikhhaaDoorLT2
import Derived.Test.YtgbinadjbikhhaaDoorLU
import Derived.Test.YtgbinadjbikhhaaDoorLB
import Derived.Lib.OthersKept
namespace Go.Proofs.YtgbinadjbikhhaaDoor
set_option linter.unusedVariables false
set_option linter.unusedSimpArgs false
open Go.RowKit

theorem few2 (s t : ByteArray) (b : Nat) (w : World) (hc : w.cell? ⟨b, 0, none⟩ = some (.string s)) (hd : w.cell? ⟨b, 1, none⟩ = some (.string t)) :
    Calls Tryd.prog 12 #[.slice (some ⟨b, 0, none⟩) 2 2] w fun e w' => e = .returned (.bool (decide (s.size ≤ 400) && decide (t.size ≤ 400))) ∧ w = w' := by
  have := few_any [s, t] b 2 w (fun j h => by
    match j, h with
    | 0, _ => exact hc
    | 1, _ => exact hd) (by simp)
  refine Calls.mono this ?_
  rintro e w' ⟨rfl, rfl⟩
  exact ⟨by simp, rfl⟩
/-- what stands in an escaped text -/
theorem plain_byte (x : UInt8) (h : okC plainL x = true ∨ x = 37) : letterI (x.toNat : Int) = true ∨ (letterI (x.toNat : Int) = false ∧ digitI (x.toNat : Int) = true) ∨ (letterI (x.toNat : Int) = false ∧ digitI (x.toNat : Int) = false ∧ ((x.toNat : Int) = 45 ∨ (x.toNat : Int) = 46 ∨ (x.toNat : Int) = 95 ∨ (x.toNat : Int) = 126 ∨ (x.toNat : Int) = 37)) := by
  cases hL : letterI (x.toNat : Int) with
  | true => exact .inl rfl
  | false =>
    cases hG : digitI (x.toNat : Int) with
    | true => exact .inr (.inl ⟨rfl, rfl⟩)
    | false =>
      refine .inr (.inr ⟨rfl, rfl, ?_⟩)
      rcases h with h | rfl
      · unfold okC letterB digitB at h
        rw [hL, hG] at h
        simp [plainL] at h
        rcases h with rfl | rfl | rfl | rfl <;> simp
      · simp
theorem plain_small (x : UInt8) (h : okC plainL x = true ∨ x = 37) : x.toNat < 128 := by
  rcases plain_byte x h with h | ⟨-, h⟩ | ⟨-, -, h⟩
  · simp [letterI] at h; omega
  · simp [digitI] at h; omega
  · omega
set_option maxRecDepth 20000 in
set_option maxHeartbeats 8000000 in
theorem urlescape_law (s keep : ByteArray) (w : World) (hM : MaxAt w) : Calls Tryd.prog 6 #[.string s, .string keep] w fun e w' => e = .returned (.bool true) ∧ Below w.heap.size w w' := by
  have cF := fit_any w hM
  have cW := fun b w hc hd => few2 s keep b w hc hd
  by_cases h4 : s.size ≤ 400 ∧ keep.size ≤ 400
  · obtain ⟨h4, h5⟩ := h4
    simp only [h4, h5, decide_true, Bool.and_self] at cW
    obtain ⟨T, hT⟩ : ∃ C : ByteArray, ⟨(conv (plainL ++ keep.data.toList) false s.data.toList).toArray⟩ = C := ⟨_, rfl⟩
    obtain ⟨U, hU⟩ : ∃ C : ByteArray, ⟨(unescL s.data.toList).toArray⟩ = C := ⟨_, rfl⟩
    obtain ⟨P, hP⟩ : ∃ C : ByteArray, ⟨(conv plainL false s.data.toList).toArray⟩ = C := ⟨_, rfl⟩
    have hPl : P.data.toList = conv plainL false s.data.toList := by rw [← hP]
    have hPs : P.size ≤ 1200 := by
      have := conv_len plainL false s.data.toList
      rw [size_of hPl]; rw [size_len] at this; omega
    have cE : ∀ w, Calls Tryd.prog 22 #[.string s, .string keep] w fun e w' => e = .returned (.string T) ∧ Below w.heap.size w w' := fun w => by
      refine (escape_any s keep w (by omega) (by omega)).mono ?_
      rintro e w' ⟨t, rfl, ht, hb⟩
      exact ⟨by rw [strV_of ht, strV, hT], hb⟩
    have cRE : ∀ w, Calls Tryd.prog 23 #[.string s, .string keep] w fun e w' => e = .returned (.string T) ∧ Below w.heap.size w w' := fun w => by
      refine (rescape_any s keep w (by omega) (by omega)).mono ?_
      rintro e w' ⟨t, rfl, ht, hb⟩
      exact ⟨by rw [strV_of ht, strV, hT], hb⟩
    have cU : ∀ w, Calls Tryd.prog 24 #[.string s] w fun e w' => e = .returned (.string U) ∧ Below w.heap.size w w' := fun w => by
      refine (unescape_any s w (by omega)).mono ?_
      rintro e w' ⟨t, rfl, ht, hb⟩
      exact ⟨by rw [strV_of ht, strV, hU], hb⟩
    have cRU : ∀ w, Calls Tryd.prog 25 #[.string s] w fun e w' => e = .returned (.string U) ∧ Below w.heap.size w w' := fun w => by
      refine (runescape_any s w (by omega)).mono ?_
      rintro e w' ⟨t, rfl, ht, hb⟩
      exact ⟨by rw [strV_of ht, strV, hU], hb⟩
    have cP : ∀ w, Calls Tryd.prog 22 #[.string s, .string ⟨#[]⟩] w fun e w' => e = .returned (.string P) ∧ Below w.heap.size w w' := fun w => by
      refine (escape_any s ⟨#[]⟩ w (by omega) (by decide)).mono ?_
      rintro e w' ⟨t, rfl, ht, hb⟩
      rw [show (⟨#[]⟩ : ByteArray).data.toList = [] from rfl, List.append_nil] at ht
      exact ⟨by rw [strV_of ht, strV, hP], hb⟩
    have cB : ∀ w, Calls Tryd.prog 24 #[.string P] w fun e w' => e = .returned (.string s) ∧ Below w.heap.size w w' := fun w => by
      refine (unescape_any P w (by omega)).mono ?_
      rintro e w' ⟨t, rfl, ht, hb⟩
      rw [hPl, unesc_conv plainL (by decide)] at ht
      exact ⟨by rw [strV_of ht, ← strV_of rfl], hb⟩
    have hmem : ∀ k (h : k < P.size), okC plainL P[k] = true ∨ P[k] = 37 := fun k h => conv_mem plainL false s.data.toList _ (by rw [← hPl]; exact mem_at P k h)
    have CF := Lib.hid cF
    have CW := Lib.hid cW
    have CE := Lib.hid cE
    have CRE := Lib.hid cRE
    have CU := Lib.hid cU
    have CRU := Lib.hid cRU
    have CP := Lib.hid cP
    have CB := Lib.hid cB
    have HM := Lib.hid hmem
    clear cF cW cE cRE cU cRU cP cB hT hU hP hPl hmem
    go_enter Tryd.func6, Tryd.ntmps6
    go_wp2_with (first
      | (go_at_call 11; with_reducible refine CF.out.mono ?_; rintro e' w1 ⟨rfl, hb1⟩)
      | (go_at_call 12; with_reducible refine (CW.out _ _ (by simp) (by simp)).mono ?_; rintro e' w2 ⟨rfl, rfl⟩; have hb2 := hb1.alloc hb1.size (.cells #[.string s, .string keep] 9))
      | (go_at_call 23; with_reducible refine (CRE.out _).mono ?_; rintro e' w4 ⟨rfl, hb5⟩; have hb6 := hb4.trans (hb5.mono hb4.size))
      | (go_at_call 22; with_reducible refine (CE.out _).mono ?_; rintro e' w3 ⟨rfl, hb3⟩; have hb4 := hb2.trans (hb3.mono hb2.size))
      | (go_at_call 24; with_reducible refine (CU.out _).mono ?_; rintro e' w5 ⟨rfl, hb7⟩; have hb8 := hb6.trans (hb7.mono hb6.size))
      | (go_at_call 25; with_reducible refine (CRU.out _).mono ?_; rintro e' w6 ⟨rfl, hb9⟩; have hb10 := hb8.trans (hb9.mono hb8.size))
      | (go_at_call 22; with_reducible refine (CP.out _).mono ?_; rintro e' w7 ⟨rfl, hb11⟩; have hb12 := hb10.trans (hb11.mono hb10.size)))
    clear hb1 hb2 hb3 hb4 hb5 hb6 hb7 hb8 hb9 hb10 hb11
    have hz7 := hb12.size
    go_loopw [] (fun wr => ∃ pos : Nat, pos ≤ P.size ∧ wr.heap[w7.heap.size]? = some (.stringIter P pos) ∧ Below w.heap.size w wr) (fun wr => P.size - wr.iterPos w7.heap.size)
    case atStart =>
      refine ⟨0, Nat.zero_le _, ?_, hb12.alloc hz7 _⟩
      have := World.iter_heap w7 P 0
      simpa using this
    case round =>
      obtain ⟨pos, hpos, hit, hbw⟩ := hrel
      have hsz : w7.heap.size < wr.heap.size := (Array.getElem?_eq_some_iff.1 hit).1
      by_cases hp : pos < P.size
      · have hm := plain_byte P[pos] (HM.out pos hp)
        have hsm := plain_small P[pos] (HM.out pos hp)
        have hpi : (pos : Int) < (P.size : Int) := by omega
        have hnx : ∀ ty, (Instr.next (.pointer (some ⟨w7.heap.size, 0, none⟩)) true ty).run Tryd.prog wr = _ := fun ty => Lib.run_next_ascii_at wr w7.heap.size P pos ty hit hp hsm
        have hit2 := Lib.iterAt_heap wr w7.heap.size P pos (pos + 1) hit
        have hbw2 := Lib.below_iterAt hbw (k := w7.heap.size) (by omega) P (pos + 1)
        have cL := fun w => rletter_any (P[pos].toNat : Int) w
        have cG := fun w => rdigit_any (P[pos].toNat : Int) w
        rcases hm with h | ⟨h, h'⟩ | ⟨h, h', hx⟩
        · rw [h] at cL
          have L1 := Lib.hid cL
          clear cL cG h hsm
          go_wp2_with (first
            | (go_at_call 26; with_reducible refine (L1.out _).mono ?_; rintro e w' ⟨rfl, rfl⟩))
          go_roundw
          case rel => exact ⟨pos + 1, by omega, hit2, hbw2⟩
          case measure => simp only [World.iterPos, hit2, hit]; omega
        · rw [h] at cL
          rw [h'] at cG
          have L1 := Lib.hid cL
          have G1 := Lib.hid cG
          clear cL cG h h' hsm
          go_wp2_with (first
            | (go_at_call 26; with_reducible refine (L1.out _).mono ?_; rintro e w' ⟨rfl, rfl⟩)
            | (go_at_call 27; with_reducible refine (G1.out _).mono ?_; rintro e w' ⟨rfl, rfl⟩))
          go_roundw
          case rel => exact ⟨pos + 1, by omega, hit2, hbw2⟩
          case measure => simp only [World.iterPos, hit2, hit]; omega
        · rw [h] at cL
          rw [h'] at cG
          clear h h' hsm
          rcases hx with hx | hx | hx | hx | hx
          all_goals
            rw [hx] at cL cG
            have L1 := Lib.hid cL
            have G1 := Lib.hid cG
            clear cL cG
            go_wp2_with (first
              | (go_at_call 26; with_reducible refine (L1.out _).mono ?_; rintro e w' ⟨rfl, rfl⟩)
              | (go_at_call 27; with_reducible refine (G1.out _).mono ?_; rintro e w' ⟨rfl, rfl⟩))
            go_roundw
            case rel => exact ⟨pos + 1, by omega, hit2, hbw2⟩
            case measure => simp only [World.iterPos, hit2, hit]; omega
      · have hnx : ∀ ty, (Instr.next (.pointer (some ⟨w7.heap.size, 0, none⟩)) true ty).run Tryd.prog wr = _ := fun ty => Lib.run_next_end_at wr w7.heap.size P pos ty hit hp
        go_wp2_with (go_at_call 24; with_reducible refine (CB.out _).mono ?_; rintro e' w8 ⟨rfl, hb13⟩)
        go_ret
        exact ⟨rfl, hbw.trans (hb13.mono hbw.size)⟩
  · have h6 : (decide (s.size ≤ 400) && decide (keep.size ≤ 400)) = false := by
      simp; intro h; omega
    simp only [h6] at cW
    have CF := Lib.hid cF
    have CW := Lib.hid cW
    clear cF cW h6
    go_enter Tryd.func6, Tryd.ntmps6
    go_wp2_with (first
      | (go_at_call 11; with_reducible refine CF.out.mono ?_; rintro e' w1 ⟨rfl, hb1⟩)
      | (go_at_call 12; with_reducible refine (CW.out _ _ (by simp) (by simp)).mono ?_; rintro e' w2 ⟨rfl, rfl⟩))
    go_ret
    exact ⟨rfl, hb1.alloc hb1.size _⟩
end Go.Proofs.YtgbinadjbikhhaaDoor
