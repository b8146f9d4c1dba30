/- The walk of MetricsLines. -/
import Derived.Test.YtcpklmolofbopaaDoorQ
import Derived.Test.YtcpklmolofbopaaDoorL
import Derived.Deep.QuietTactic
import Derived.BigQuiet
namespace Go.Proofs.YtcpklmolofbopaaDoor
open Go.RowKit

/-- Lines, for every string: the reference's lines -/
theorem lines_all (s : ByteArray) (n wd : Int) (w : World) (hs : s.size ≤ 2097152) :
    Calls Tryd.prog 20 #[.string s, .int .i64 n, .int .i64 wd] w fun e w' => ∃ v, e = .returned v ∧
      w'.ownsRow w.heap.size 35 4 v (rgo s.data.toList n wd s.size 0).length (lnsV (rgo s.data.toList n wd s.size 0)) ∧ Below w.heap.size w w' := by
  by_cases h0 : s.data.toList = []
  · have h1 : s.toList.isEmpty = true := by rw [List.isEmpty_iff, ByteArray.toList_eq]; exact h0
    have h2 : s.size = 0 := by rw [← size_len, h0]; rfl
    refine (lines_empty s n wd w h1).mono ?_
    rintro e w' ⟨rfl, rfl⟩
    rw [h2]
    exact ⟨_, rfl, World.ownsRow_nil _ _ _ _, Below.refl _ _⟩
  · have h1 : s.toList.isEmpty = false := by
      cases h : s.toList.isEmpty with
      | false => rfl
      | true => rw [List.isEmpty_iff, ByteArray.toList_eq] at h; exact absurd h h0
    have := lines_some s n wd w hs h1
    rw [lines_eq _ _ _ h0, size_len] at this
    exact this

theorem lnsV_at (l : List Ln) : ∀ (k : Nat) (h : k < l.length) (j : Nat), j < 4 → (lnsV l)[k * 4 + j]? = (lnV l[k])[j]? := by
  induction l with
  | nil => intro k h; simp at h
  | cons x t ih =>
    intro k h j hj
    have e : lnsV (x :: t) = lnV x ++ lnsV t := by simp [lnsV]
    rw [e]
    cases k with
    | zero =>
      rw [List.getElem?_append_left (by simp [lnV]; omega)]
      simp
    | succ k =>
      rw [List.getElem?_append_right (by simp [lnV]; omega)]
      have := ih k (by simpa using h) j hj
      rw [show (k + 1) * 4 + j - (lnV x).length = k * 4 + j by simp [lnV]; omega]
      simpa using this

set_option maxHeartbeats 1000000 in
theorem lines_law_small (s : ByteArray) (n wd : Int) (w : World) (hs : s.size ≤ 100) : Calls Tryd.prog 5 #[.string s, .int .i64 n, .int .i64 wd] w fun e w' => e = .returned (.bool true) ∧ Below w.heap.size w w' := by
  have hi : (s.size : Int) ≤ 100 := by omega
  obtain ⟨G, hG⟩ : ∃ G, rgo s.data.toList n wd s.size 0 = G := ⟨_, rfl⟩
  have hGl : G.length ≤ s.size := by rw [← hG]; exact rgo_len _ _ _ _ _
  have cA := fun wx => lines_all s n wd wx (by omega)
  have cB := fun wx => rlines_any s n wd wx (by omega)
  rw [hG] at cA cB
  have CA := Lib.hid cA
  have CB := Lib.hid cB
  clear cA cB hG
  go_enter Tryd.func5, Tryd.ntmps5
  go_wp2_with (first
    | (go_at_call 12; refine (fit_true _).mono ?_; rintro e w1 ⟨rfl, hb1⟩)
    | (go_at_call 20; refine (CA.out _).mono ?_; rintro e w2 ⟨v2, rfl, ho2, hb2⟩)
    | (go_at_call 21; refine (CB.out _).mono ?_; rintro e w3 ⟨v3, rfl, ho3, hb3⟩; have ho4 := own_below ho2 hb3 (Nat.le_refl _); obtain ⟨a2, cap2, rfl, hcap2, hmx2, hrd2⟩ := own_reads ho4; obtain ⟨a3, cap3, rfl, hcap3, hmx3, hrd3⟩ := own_reads ho3; clear ho2 ho3 ho4))
  have hbt : Below w.heap.size w w3 := (hb1.trans (hb2.mono hb1.size)).trans (hb3.mono (by have := hb1.size; have := hb2.size; omega))
  go_loopw [31] (fun i wr => ∃ k : Nat, k ≤ G.length ∧ i = .int .i64 k ∧ Below w3.heap.size w3 wr) (fun i _ => G.length - (intOf i).toNat)
  case atStart => exact ⟨0, Nat.zero_le _, rfl, Below.refl _ _⟩
  case round =>
    obtain ⟨k, hk, rfl, hbw⟩ := hrel
    by_cases hlt : k < G.length
    · rcases hrd2 with ⟨_, h0⟩ | ⟨b2, rfl, hb2', hbb2, hcell2⟩
      · omega
      rcases hrd3 with ⟨_, h0⟩ | ⟨b3, rfl, hb3', hbb3, hcell3⟩
      · omega
      obtain ⟨x, hx⟩ : ∃ x, G[k] = x := ⟨_, rfl⟩
      have cc : ∀ j : Nat, j < 4 → (lnsV G)[k * 4 + j]? = (lnV x)[j]? := fun j hj => by rw [lnsV_at G k hlt j hj, hx]
      have kk2 : ∀ j u, j < 4 → (lnV x)[j]? = some u → wr.cell? ⟨b2, k * 4 + j, none⟩ = some u := fun j u hj hu => by
        rw [hbw.cell (p := ⟨b2, k * 4 + j, none⟩) hbb2]; exact hcell2 _ _ ((cc j hj).trans hu)
      have kk3 : ∀ j u, j < 4 → (lnV x)[j]? = some u → wr.cell? ⟨b3, k * 4 + j, none⟩ = some u := fun j u hj hu => by
        rw [hbw.cell (p := ⟨b3, k * 4 + j, none⟩) hbb3]; exact hcell3 _ _ ((cc j hj).trans hu)
      have p0 := kk2 0 _ (by omega) rfl
      have p1 := kk2 1 _ (by omega) rfl
      have p2 := kk2 2 _ (by omega) rfl
      have p3 := kk2 3 _ (by omega) rfl
      have q0 := kk3 0 _ (by omega) rfl
      have q1 := kk3 1 _ (by omega) rfl
      have q2 := kk3 2 _ (by omega) rfl
      have q3 := kk3 3 _ (by omega) rfl
      rw [Nat.add_zero] at p0 q0
      have hz2 : b2 < wr.heap.size := by have := hbw.size; omega
      have hz3 : b3 < wr.heap.size := by have := hbw.size; omega
      have hk0 : (0 : Int) ≤ (k : Int) := by omega
      have hk1 : (k : Int) < (G.length : Int) := by omega
      clear hcell2 hcell3 cc kk2 kk3 hx
      go_wp2_with fail
      go_quiet (fail)
      go_wp2_with fail
      go_roundw
      case rel => exact ⟨k + 1, by omega, by go_num, below_drewN (hbw.alloc hbw.size _) nq⟩
      case measure => simp [intOf]; omega
    · go_wp2_with fail
      go_ret
      exact ⟨rfl, hbt.trans (hbw.mono hbt.size)⟩
theorem lines_law (s : ByteArray) (n wd : Int) (w : World) : Calls Tryd.prog 5 #[.string s, .int .i64 n, .int .i64 wd] w fun e w' => e = .returned (.bool true) ∧ Below w.heap.size w w' := by
  by_cases hs : s.size ≤ 100
  · exact lines_law_small s n wd w hs
  · have hi : 100 < (s.size : Int) := by omega
    go_enter Tryd.func5, Tryd.ntmps5
    go_wp2_with (go_at_call 12; refine (fit_true _).mono ?_; rintro e w1 ⟨rfl, hb1⟩)
    go_ret
    exact ⟨rfl, hb1⟩
end Go.Proofs.YtcpklmolofbopaaDoor
