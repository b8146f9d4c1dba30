/- The walks of MetricsOffset and MetricsNarrow. -/
import Derived.Test.YtcpklmolofbopaaDoorS
import Derived.Test.YtcpklmolofbopaaDoorR
namespace Go.Proofs.YtcpklmolofbopaaDoor
open Go.RowKit

theorem fit_mem (l : List UInt8) (n wd : Int) : let i := fitFrom (chars l) n 0 wd l.length; i ≤ l.length ∧ (i = 0 ∨ i ∈ offs l) := by
  intro i
  rcases Int.lt_or_le wd 0 with h | h
  · have : i = 0 := fit_neg l n wd h
    omega
  · obtain ⟨r, h1, h2, _, _, h5⟩ := fit_spec l n wd h l.length 0 (by omega) (.zero l) (by rw [List.take_zero]; exact h)
    rw [List.take_zero] at h1
    have e : i = r := h1
    rw [e]
    exact ⟨h2.le, .inr h5⟩
theorem width_pre (s : ByteArray) (n : Int) (q : Nat) (hq : q ≤ s.size) (w : World) (hs : s.size ≤ 2097152) :
    Calls Tryd.prog 22 #[.string (s.extract 0 q), .int .i64 n] w fun e w' => e = .returned (.int .i64 (width (s.data.toList.take q) n)) ∧ Below w.heap.size w w' := by
  have := width_any (s.extract 0 q) n w (by simp only [ByteArray.size_extract]; omega)
  rwa [extract_sub, show sub s.data.toList 0 q = s.data.toList.take q by simp [sub]] at this

set_option maxHeartbeats 1000000 in
theorem offset_small (s : ByteArray) (n x : Int) (w : World) (hs : s.size ≤ 100) (hx : -9223372036854775808 ≤ x ∧ x ≤ 9223372036854775807) :
    Calls Tryd.prog 10 #[.string s, .int .i64 n, .int .i64 x] w fun e w' => e = .returned (.bool true) ∧ Below w.heap.size w w' := by
  have hi : (s.size : Int) ≤ 100 := by omega
  have hl := size_len s
  obtain ⟨hf1, hf2⟩ := fit_mem s.data.toList n x
  have hback := offset_back s.data.toList n _ hf2
  have cA := fun wx => offset_any s n x wx (by omega)
  have cB := fun wx => roffset_any s n x wx (by omega) hx
  have cC := fun wx => fit_any s n x wx (by omega)
  rw [← offset_eq] at cB
  rw [hl] at hf1 hback
  obtain ⟨i, hI⟩ : ∃ i, fitFrom (chars s.data.toList) n 0 x s.size = i := ⟨_, rfl⟩
  rw [hI] at hf1 hback cC
  have cD := fun wx => width_pre s n i hf1 wx (by omega)
  have b1 := take_cut_bd s.data.toList n i (by
    rcases hf2 with h | h
    · rw [hl, hI] at h; rw [h]; exact .zero _
    · rw [hl, hI] at h; exact offs_cut _ _ h)
  have b2 := width_bd s.data.toList n (by omega)
  obtain ⟨W, hW⟩ : ∃ W, width (s.data.toList.take i) n = W := ⟨_, rfl⟩
  rw [hW] at hback cD b1
  have cE := fun wx => offset_any s n W wx (by omega)
  obtain ⟨hk1, hk2⟩ := hback
  obtain ⟨k, hk⟩ : ∃ k, offset s.data.toList n W = k := ⟨_, rfl⟩
  obtain ⟨o, ho⟩ : ∃ k, offset s.data.toList n x = k := ⟨_, rfl⟩
  rw [hk] at hk1 hk2 cE
  rw [ho] at cA cB
  have cF := fun wx => width_pre s n k hk1 wx (by omega)
  rw [hk2] at cF
  have A := Lib.hid cA
  have B := Lib.hid cB
  have C := Lib.hid cC
  have D := Lib.hid cD
  have E := Lib.hid cE
  have F := Lib.hid cF
  have hm : min (i : Int) (s.size : Int) = (i : Int) := by omega
  have hif : (i : Int) ≤ (s.size : Int) := by omega
  have hkf : (k : Int) ≤ (s.size : Int) := by omega
  clear hf2 hI hW hk ho hk2 cA cB cC cD cE cF
  go_enter Tryd.func10, Tryd.ntmps10
  go_wp2_with (first
    | (go_at_call 12; refine (fit_true _).mono ?_; rintro e w1 ⟨rfl, hb1⟩)
    | (go_at_call 30; with_reducible refine (A.out _).mono ?_; rintro e w2 ⟨rfl, hb2⟩)
    | (go_at_call 31; with_reducible refine (B.out _).mono ?_; rintro e w3 ⟨rfl, hb3⟩)
    | (go_at_call 28; with_reducible refine (C.out _).mono ?_; rintro e w4 ⟨rfl, hb4⟩)
    | (go_at_call 22; with_reducible refine (D.out _).mono ?_; rintro e w5 ⟨rfl, hb5⟩)
    | (go_at_call 30; with_reducible refine (E.out _).mono ?_; rintro e w6 ⟨rfl, hb6⟩)
    | (go_at_call 22; with_reducible refine (F.out _).mono ?_; rintro e w7 ⟨rfl, hb7⟩))
  go_ret
  have z1 := hb1.size
  have z2 := hb2.size
  have z3 := hb3.size
  have z4 := hb4.size
  have z5 := hb5.size
  have z6 := hb6.size
  exact ⟨rfl, (((((hb1.trans (hb2.mono z1)).trans (hb3.mono (by omega))).trans (hb4.mono (by omega))).trans (hb5.mono (by omega))).trans (hb6.mono (by omega))).trans (hb7.mono (by omega))⟩
theorem offset_law (s : ByteArray) (n x : Int) (w : World) (hx : -9223372036854775808 ≤ x ∧ x ≤ 9223372036854775807) : Calls Tryd.prog 10 #[.string s, .int .i64 n, .int .i64 x] w fun e w' => e = .returned (.bool true) ∧ Below w.heap.size w w' := by
  by_cases hs : s.size ≤ 100
  · exact offset_small s n x w hs hx
  · have hi : 100 < (s.size : Int) := by omega
    go_enter Tryd.func10, Tryd.ntmps10
    go_wp2_with (go_at_call 12; refine (fit_true _).mono ?_; rintro e w1 ⟨rfl, hb1⟩)
    go_ret
    exact ⟨rfl, hb1⟩

set_option maxHeartbeats 1000000 in
theorem narrow_small (s : ByteArray) (n a b : Int) (w : World) (hs : s.size ≤ 400) :
    Calls Tryd.prog 7 #[.string s, .int .i64 n, .agg #[.int .i64 a, .int .i64 b]] w fun e w' => e = .returned (.bool true) ∧ Below w.heap.size w w' := by
  have hi : (s.size : Int) ≤ 400 := by omega
  have hl := size_len s
  have hn := narrow s.data.toList n (min a b) (max a b) (by omega) s.size 0 0 (Nat.le_refl _) (by omega) (.zero _) (.zero _)
  have cA := fun wx => lines_all s n (min a b) wx (by omega)
  have cB := fun wx => lines_all s n (max a b) wx (by omega)
  obtain ⟨G1, hG1⟩ : ∃ G, rgo s.data.toList n (min a b) s.size 0 = G := ⟨_, rfl⟩
  obtain ⟨G2, hG2⟩ : ∃ G, rgo s.data.toList n (max a b) s.size 0 = G := ⟨_, rfl⟩
  have l1 : G1.length ≤ s.size := by rw [← hG1]; exact rgo_len _ _ _ _ _
  rw [hG1] at cA hn
  rw [hG2] at cB hn
  have A := Lib.hid cA
  have B := Lib.hid cB
  clear cA cB hG1 hG2
  go_enter Tryd.func7, Tryd.ntmps7
  go_wp2_with (go_at_call 12; refine (fit_true _).mono ?_; rintro e w1 ⟨rfl, hb1⟩; obtain ⟨kc1, kf1⟩ := bcell hb1; have d0 : w1.cell? ⟨w.heap.size, 0, none⟩ = some (.int .i64 a) := (by rw [kc1 _ _ (by simp)]; simp); have d1 : w1.cell? ⟨w.heap.size, 1, none⟩ = some (.int .i64 b) := (by rw [kc1 _ _ (by simp)]; simp); clear kc1 kf1)
  go_quiet (fail)
  go_wp2_with (first
    | (go_at_call 20; with_reducible refine (A.out _).mono ?_; rintro e w2 ⟨v2, rfl, ho2, hb2⟩; obtain ⟨a2, cap2, rfl, hcap2, hmx2, hrd2⟩ := own_reads ho2; clear ho2 hrd2)
    | (go_at_call 20; with_reducible refine (B.out _).mono ?_; rintro e w3 ⟨v3, rfl, ho3, hb3⟩; obtain ⟨a3, cap3, rfl, hcap3, hmx3, hrd3⟩ := own_reads ho3; clear ho3 hrd3))
  go_ret
  have z1 := hb1.size
  have z2 := hb2.size
  simp at z1
  refine ⟨rfl, ?_⟩
  · exact (((((Below.refl _ w).alloc (Nat.le_refl _) _).trans (hb1.mono (by simp))).trans ((below_drewN (Below.refl _ w1) nq))).trans (hb2.mono (by show _ ≤ w1.heap.size; omega))).trans (hb3.mono (by have : w1.heap.size ≤ w2.heap.size := z2; omega))
theorem narrow_law (s : ByteArray) (n a b : Int) (w : World) : Calls Tryd.prog 7 #[.string s, .int .i64 n, .agg #[.int .i64 a, .int .i64 b]] w fun e w' => e = .returned (.bool true) ∧ Below w.heap.size w w' := by
  by_cases hs : s.size ≤ 400
  · exact narrow_small s n a b w hs
  · have hi : 400 < (s.size : Int) := by omega
    go_enter Tryd.func7, Tryd.ntmps7
    go_wp2_with (go_at_call 12; refine (fit_true _).mono ?_; rintro e w1 ⟨rfl, hb1⟩)
    go_ret
    exact ⟨rfl, ((Below.refl _ w).alloc (Nat.le_refl _) _).trans (hb1.mono (by simp))⟩
end Go.Proofs.YtcpklmolofbopaaDoor
