/- The walk of MetricsFit. -/
import Derived.Test.YtcpklmolofbopaaDoorT
namespace Go.Proofs.YtcpklmolofbopaaDoor
open Go.RowKit

theorem fit_plain (l : List UInt8) (n wd : Int) (hwd : 0 ≤ wd) : ∃ r, fitFrom (chars l) n 0 wd l.length = r ∧ r ≤ l.length ∧ width (l.take r) n ≤ wd ∧ r ∈ offs l ∧
    ∀ k, k + 1 < (offs l).length → (offs l)[k]? = some r → ∃ o, (offs l)[k + 1]? = some o ∧ wd < width (l.take o) n := by
  obtain ⟨r, h1, h2, h3, h4, h5⟩ := fit_spec l n wd hwd l.length 0 (by omega) (.zero l) (by rw [List.take_zero]; exact hwd)
  rw [List.take_zero] at h1
  refine ⟨r, h1, h2.le, h3, h5, fun k hk he => ?_⟩
  rw [offs_eq] at hk he ⊢
  have h := offFrom_next l l.length 0 (by omega) (.zero l) k hk
  have e1 : (offFrom l 0)[k] = r := by
    rw [List.getElem?_eq_getElem (by omega)] at he; exact Option.some.inj he
  rw [e1] at h
  refine ⟨nxt l r, ?_, ?_⟩
  · rw [List.getElem?_eq_getElem hk, h.2]
  · rcases h4 with h4 | h4
    · omega
    · exact h4.2

set_option maxHeartbeats 2000000 in
theorem fitlaw_pos (s : ByteArray) (n wd : Int) (w : World) (hs : s.size ≤ 400) (hwd : 0 ≤ wd) :
    Calls Tryd.prog 9 #[.string s, .int .i64 n, .int .i64 wd] w fun e w' => e = .returned (.bool true) ∧ Below w.heap.size w w' := by
  have hi : (s.size : Int) ≤ 400 := by omega
  have hl := size_len s
  obtain ⟨r, hr, hrl, hrw, hrm, hnx⟩ := fit_plain s.data.toList n wd hwd
  rw [hl] at hr hrl
  have hlen := offs_len s.data.toList
  have hV : (chars s.data.toList).map offV ++ [.int .i64 (s.size : Int)] = (offs s.data.toList).map intV := by simp [offs, offV, intV]
  have hle := offs_le s.data.toList
  have hcl : (chars s.data.toList).length + 1 = (offs s.data.toList).length := by simp [offs]
  have cA := fun wx => fit_any s n wd wx (by omega)
  rw [hr] at cA
  obtain ⟨O, hO⟩ : ∃ O, offs s.data.toList = O := ⟨_, rfl⟩
  rw [hO] at hlen hV hle hcl hrm hnx
  have cW := fun q (hq : q ≤ s.size) wx => width_pre s n q hq wx (by omega)
  have cB := cW r hrl
  obtain ⟨W, hW⟩ : ∃ W, width (s.data.toList.take r) n = W := ⟨_, rfl⟩
  rw [hW] at cB hrw
  have HV := Lib.hid hV
  have HLE := Lib.hid hle
  have HCL := Lib.hid hcl
  have HM := Lib.hid hrm
  have HN := Lib.hid hnx
  have A := Lib.hid cA
  have B := Lib.hid cB
  have C := Lib.hid cW
  have hr0 : (0 : Int) ≤ (r : Int) ∧ (r : Int) ≤ s.size := by omega
  clear hO hV hle hcl hrm hnx cA cW cB hr hW
  go_enter Tryd.func9, Tryd.ntmps9
  go_wp2_with (first
    | (go_at_call 12; refine (fit_true _).mono ?_; rintro e w1 ⟨rfl, hb1⟩)
    | (go_at_call 28; with_reducible refine (A.out _).mono ?_; rintro e w2 ⟨rfl, hb2'⟩)
    | (go_at_call 29; refine (chars_any s _ (by omega)).mono ?_; rintro e w3 ⟨v1, v2, rfl, ho1, ho2, hb3⟩; rw [HV.out] at ho2; obtain ⟨a2, cap2, rfl, hcap2, hmx2, hrd2⟩ := own_reads ho2; clear ho1 ho2))
  go_loopw [32] (fun iv wr => ∃ k : Nat, k ≤ O.length ∧ iv = .int .i64 k ∧ r ∈ O.drop k ∧ Below w3.heap.size w3 wr) (fun iv _ => O.length - (intOf iv).toNat)
  case atStart => exact ⟨0, Nat.zero_le _, rfl, HM.out, Below.refl _ _⟩
  case round =>
    obtain ⟨k, hk, rfl, hr, hbw⟩ := hrel
    have HR := Lib.hid hr
    clear hr
    by_cases hlt : k < O.length
    · have hkb : (k : Int) < (chars s.data.toList).length + 1 := by have := HCL.out; omega
      rcases hrd2 with ⟨_, h0⟩ | ⟨b2, rfl, hb2, hbb2, hcell2⟩
      · omega
      obtain ⟨o, ho⟩ : ∃ o, O[k] = o := ⟨_, rfl⟩
      have hos : o ≤ s.size := by have := HLE.out O[k] (List.getElem_mem hlt); omega
      have hd : O.drop k = o :: O.drop (k + 1) := by rw [← ho]; exact List.drop_eq_getElem_cons hlt
      have HD := Lib.hid hd
      have ce : wr.cell? ⟨b2, k, none⟩ = some (.int .i64 (o : Int)) := by
        rw [hbw.cell (p := ⟨b2, k, none⟩) hbb2, ← ho]
        refine hcell2 k _ ?_
        simp [intV, hlt]
      have hk0 : (0 : Int) ≤ (k : Int) := by omega
      have ho0 : (0 : Int) ≤ (o : Int) ∧ (o : Int) ≤ s.size := by omega
      by_cases hor : o = r
      · subst hor
        have hcl := HCL.out
        by_cases hlast : k + 1 < O.length
        · obtain ⟨o2, ho2, hw2⟩ := HN.out k hlast (by rw [List.getElem?_eq_getElem hlt, ho])
          have ce2 : w3.cell? ⟨b2, k + 1, none⟩ = some (.int .i64 (o2 : Int)) := hcell2 (k + 1) _ (by simp [intV, ho2])
          have hos2 : o2 ≤ s.size := by have := HLE.out o2 (List.mem_of_getElem? ho2); omega
          have cD := C.out o2 hos2
          obtain ⟨W2, hW2⟩ : ∃ W, width (s.data.toList.take o2) n = W := ⟨_, rfl⟩
          rw [hW2] at cD hw2
          have D := Lib.hid cD
          have hcb : ((chars s.data.toList).length : Int) ≤ 400 := by omega
          have hn1 : ¬ (k : Int) = (chars s.data.toList).length := by omega
          have hn2 : (k : Int) + 1 < (chars s.data.toList).length + 1 := by omega
          have ho20 : (0 : Int) ≤ (o2 : Int) ∧ (o2 : Int) ≤ s.size := by omega
          clear hcell2 HD hd ho cD hW2 ho2 hcl
          go_wp2_with (first | (go_at_call 22; with_reducible refine (D.out _).mono ?_; rintro e w5 ⟨rfl, hb5⟩) | (go_at_call 22; with_reducible refine (B.out _).mono ?_; rintro e w4 ⟨rfl, hb4⟩; have ce4 : w4.cell? ⟨b2, k + 1, none⟩ = some (.int .i64 (o2 : Int)) := (hb4.cell (p := ⟨b2, k + 1, none⟩) (Nat.lt_of_lt_of_le hbb2 hbw.size)).trans ((hbw.cell (p := ⟨b2, k + 1, none⟩) hbb2).trans ce2)))
          go_ret
          have z1 := hb1.size
          have z2 := hb2'.size
          have z3 := hb3.size
          have z4 := hbw.size
          have z5 := hb4.size
          exact ⟨rfl, ((((hb1.trans (hb2'.mono z1)).trans (hb3.mono (by omega))).trans (hbw.mono (by omega))).trans (hb4.mono (by omega))).trans (hb5.mono (by omega))⟩
        · have hn1 : ((chars s.data.toList).length : Int) = k := by omega
          clear hcell2 HD hd ho hcl
          go_wp2_with (go_at_call 22; with_reducible refine (B.out _).mono ?_; rintro e w4 ⟨rfl, hb4⟩)
          go_ret
          have z1 := hb1.size
          have z2 := hb2'.size
          have z3 := hb3.size
          have z4 := hbw.size
          exact ⟨rfl, (((hb1.trans (hb2'.mono z1)).trans (hb3.mono (by omega))).trans (hbw.mono (by omega))).trans (hb4.mono (by omega))⟩
      · have hor2 : ¬ (o : Int) = (r : Int) := by omega
        clear hcell2
        go_wp2_with fail
        go_roundw
        case rel => exact ⟨k + 1, by omega, by go_num, by have := HR.out; rw [HD.out] at this; rcases List.mem_cons.1 this with h | h; exact absurd h.symm hor; exact h, hbw⟩
        case measure => simp [intOf]; omega
    · have := HR.out
      rw [List.drop_eq_nil_of_le (by omega)] at this
      cases this
theorem fit_law (s : ByteArray) (n wd : Int) (w : World) : Calls Tryd.prog 9 #[.string s, .int .i64 n, .int .i64 wd] w fun e w' => e = .returned (.bool true) ∧ Below w.heap.size w w' := by
  by_cases hs : s.size ≤ 400
  · by_cases hwd : 0 ≤ wd
    · exact fitlaw_pos s n wd w hs hwd
    · have hl := size_len s
      have cA := fun wx => fit_any s n wd wx (by omega)
      rw [show fitFrom (chars s.data.toList) n 0 wd s.size = 0 by rw [← hl]; exact fit_neg _ _ _ (by omega)] at cA
      have A := Lib.hid cA
      have hi : (s.size : Int) ≤ 400 := by omega
      have hw0 : wd < 0 := by omega
      clear cA
      go_enter Tryd.func9, Tryd.ntmps9
      go_wp2_with (first
        | (go_at_call 12; refine (fit_true _).mono ?_; rintro e w1 ⟨rfl, hb1⟩)
        | (go_at_call 28; with_reducible refine (A.out _).mono ?_; rintro e w2 ⟨rfl, hb2⟩))
      go_ret
      exact ⟨rfl, hb1.trans (hb2.mono hb1.size)⟩
  · have hi : 400 < (s.size : Int) := by omega
    go_enter Tryd.func9, Tryd.ntmps9
    go_wp2_with (go_at_call 12; refine (fit_true _).mono ?_; rintro e w1 ⟨rfl, hb1⟩)
    go_ret
    exact ⟨rfl, hb1⟩
end Go.Proofs.YtcpklmolofbopaaDoor
