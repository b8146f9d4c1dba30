/- Cache: Drop, Size. -/
import Derived.Test.YtkobhknggamejaaGreatDoorHZ
import Derived.Test.YtkobhknggamejaaGreatDoorHX
import Derived.Test.YtkobhknggamejaaGreatDoorHW
import Derived.Test.YtkobhknggamejaaGreatDoorHV
namespace Go.Proofs.YtkobhknggamejaaGreatDoor
set_option linter.unusedVariables false
set_option linter.unusedSimpArgs false
open Go.RowKit

theorem drop1_is (x : Ee) (url : ByteArray) (C : Nat) (W : World) (hU : AtL W C [.string url]) (hr : Rd W x.1 x.2) :
    Calls Tryz.prog 64 #[eeA x, .pointer (some ⟨C, 0, none⟩)] W fun e W' => e = .returned (.bool (urlB x.2.u url)) ∧ Below W.heap.size W W' := by
  have hal := (Below.refl _ W).alloc (Nat.le_refl _) (.cells (eeC x).toArray 40)
  have A0 := AtL.new W (eeC x) 40
  have U1 := hU.next hal
  obtain ⟨⟨a1, n1, k1, e1⟩, a2, n2, k2, e2⟩ := hr.shp
  obtain ⟨⟨u, vv, st, hh, bo, ti⟩, xe⟩ := x
  have HU : Hid (u = xe.u) := Lib.hid hr.u
  have e1 : vv = .slice a1 n1 k1 := e1
  have e2 : hh = .slice a2 n2 k2 := e2
  subst e1 e2
  have c0 := U1.c 0 rfl
  have cl := U1.lt
  have d0 := hU.c 0 rfl
  have dl := hU.lt
  clear hr hU U1
  go_enter Tryz.func64, Tryz.ntmps64
  go_wp2_with fail
  go_ret
  exact ⟨ret_bool (by unfold urlB; rw [← HU.out]), hal⟩
abbrev dropL (l : List Ee) (url : ByteArray) : List Ee := l.filter (fun x => !urlB x.2.u url)
set_option maxRecDepth 20000 in
set_option maxHeartbeats 1000000 in
theorem drop_is (jb B : Nat) (v : Value) (l : List Ee) (w : World) (hJ : CaIn w jb B v l) (hl : l.length ≤ 1000) (url : ByteArray) :
    Calls Tryz.prog 34 #[.pointer (some ⟨jb, 0, none⟩), .string url] w fun e w' => e = .returned (.int .i64 ((l.length : Int) - ((dropL l url).length : Int))) ∧ CaTo w jb B v (dropL l url) w' := by
  have hjl := hJ.at_.lt
  have hB0 : Below w.heap.size w (w.alloc (.cells [.string url].toArray 9)) := (Below.refl _ w).alloc (Nat.le_refl _) _
  have U0 := AtL.new w [.string url] 9
  have J0 := hJ.below hB0 (Nat.le_refl _)
  have ho := hown_lt hJ.own
  have CDel := Lib.hid (eedel (fun x => urlB x.2.u url) 64 #[.pointer (some ⟨w.heap.size, 0, none⟩)] (enters_of Tryz.func64 (by kernel_rfl) rfl) l v _ B (fun x hx => (J0.rd x hx).shp) J0.own
    (fun W d hd hr => drop1_is d url _ W (U0.row (hr jb) U0.lt (by omega) (fun e => by have := ho _ e; omega)) ((J0.rd d hd).row (hr jb) (Nat.le_refl _) (J0.far d hd))) (by omega))
  have j0 := J0.at_.c 0 rfl
  have jl := J0.at_.lt
  have HJ := Lib.hid hJ
  have HJ0 := Lib.hid J0
  have hfl : (dropL l url).length ≤ l.length := List.length_filter_le _ _
  obtain ⟨ta, tc, hve, _⟩ := hJ.reads.shape
  subst hve
  clear hJ J0
  go_enter Tryz.func34, Tryz.ntmps34
  go_wp2_with (go_at_call 58; refine CDel.out.mono ?_; rintro e w1 hq1; obtain ⟨a1, c1, rfl, hown1, hob1, hr1⟩ := delq_open hq1; clear hq1; have hrj := hr1 jb; have RI := HJ0.out.row.less hown1 (fun y hy => (List.mem_filter.1 hy).1) hrj hob1; have J1 := HJ0.out.at_.row (hr1 (jb + 1)) HJ0.out.at_.lt (by omega) HJ0.out.ne; have j1 := J1.c 0 rfl; have f1 := J1.f 0 rfl; have jl1 := J1.lt; have RS := RI.store J1; have hR3 : RowBut w.heap.size jb (Value.slice ta l.length tc).ownBlock w (w1.setCell ⟨jb, 0, none⟩ (.slice a1 (dropL l url).length c1)) := (((RowBut.refl w.heap.size jb (Value.slice ta l.length tc).ownBlock w).below hB0 (Nat.le_refl _)).trans (hrj.mono hB0.size)).setCell ⟨jb, 0, none⟩ (Or.inl rfl) _; have hT3 : RowTo (.slice ta l.length tc) (.slice a1 (dropL l url).length c1) w.heap.size := fun g e => .inl (by rw [← hob1]; exact e); clear j0)
  go_ret
  refine ⟨ret_int ?_, ⟨_, RS, hT3⟩, hR3⟩
  show wrap64 ((l.length : Int) - ((dropL l url).length : Int)) = _
  exact IntWalk.wrap64_in _ (by omega)
def sumB (es : List En) : Nat := (es.map (·.bo.size)).sum
theorem sumB_snoc (l : List En) (k : Nat) (h : k < l.length) : sumB (l.take (k + 1)) = sumB (l.take k) + l[k].bo.size := by
  unfold sumB
  rw [List.take_succ_eq_append_getElem h, List.map_append, List.sum_append]
  simp only [List.map_cons, List.map_nil, List.sum_cons, List.sum_nil, Nat.add_zero]
theorem sumB_le (l : List En) (m : Nat) (h : ∀ e ∈ l, e.bo.size ≤ m) : ∀ k, sumB (l.take k) ≤ k * m := by
  intro k
  induction k with
  | zero => simp [sumB]
  | succ k ih =>
    by_cases hk : k < l.length
    · rw [sumB_snoc l k hk, Nat.succ_mul]
      have := h _ (List.getElem_mem hk)
      omega
    · rw [List.take_of_length_le (by omega)] at ih ⊢
      rw [Nat.succ_mul]; omega
set_option maxRecDepth 20000 in
set_option maxHeartbeats 1000000 in
theorem size_is (jb B : Nat) (v : Value) (l : List Ee) (w : World) (hJ : CaIn w jb B v l) (hl : l.length ≤ 1000) (hz : ∀ x ∈ l, x.2.bo.size ≤ 1000000) (S : Nat) (hS : sumB (l.map (·.2)) = S) :
    Calls Tryz.prog 33 #[.pointer (some ⟨jb, 0, none⟩)] w fun e w' => e = .returned (.int .i64 S) ∧ Below w.heap.size w w' := by
  have HS := Lib.hid hS
  have hbd := sumB_le (l.map (·.2)) 1000000 (fun e he => by obtain ⟨x, hx, rfl⟩ := List.mem_map.1 he; exact hz x hx)
  have hsn := sumB_snoc (l.map (·.2))
  have HBD := Lib.hid hbd
  have HSN := Lib.hid hsn
  have HZ := Lib.hid (fun x hx => hJ.rd x hx)
  obtain ⟨sa, sc, rfl, _⟩ := hJ.reads.shape
  have HC := Lib.hid (ee_cells hJ.reads rfl)
  have j0 := hJ.at_.c 0 rfl
  have jl := hJ.at_.lt
  clear hbd hsn hS hJ hz
  go_enter Tryz.func33, Tryz.ntmps33
  go_wp2_with fail
  go_loopw [3, 11] (fun nv iv wr => ∃ (kk S0 : Nat), kk ≤ l.length ∧ iv = .int .i64 kk ∧ nv = .int .i64 S0 ∧ Hid (sumB ((l.map (·.2)).take kk) = S0) ∧ Below w.heap.size w wr) (fun _ iv _ => l.length - (intOf iv).toNat)
  case atStart => exact ⟨0, 0, Nat.zero_le _, rfl, rfl, Lib.hid rfl, Below.refl _ _⟩
  case round =>
    obtain ⟨kk, S0, hk, rfl, rfl, HS0, hbw⟩ := hrel
    by_cases hlt : kk < l.length
    · obtain ⟨b0, off, rfl, hb0, hcell⟩ := HC.out (by omega)
      have cc : ∀ j u, (eeC l[kk])[j]? = some u → wr.cell? ⟨b0, off + kk * 6 + j, none⟩ = some u := fun j u hu => (brl hbw _ _ hb0).trans (hcell kk hlt j u hu)
      have hrd := HZ.out _ (List.getElem_mem hlt)
      have hs1 := HSN.out kk (by simpa using hlt)
      have hb1 := HBD.out (kk + 1)
      have hb2 := HBD.out kk
      simp only [List.getElem_map] at hs1
      rw [HS0.out] at hb2
      rw [HS0.out] at hs1
      obtain ⟨y, hy⟩ : ∃ y, l[kk] = y := ⟨_, rfl⟩
      rw [hy] at cc hrd hs1
      obtain ⟨⟨a1, n1, k1, f1⟩, a2, n2, k2, f2⟩ := hrd.shp
      obtain ⟨⟨u, vv, st, hh, bo, ti⟩, ex⟩ := y
      have f1 : vv = .slice a1 n1 k1 := f1
      have f2 : hh = .slice a2 n2 k2 := f2
      have hbo : bo = ex.bo := hrd.bo
      rw [← hbo] at hs1
      subst f1 f2
      obtain ⟨c0, c1, c2, c3, c4, c5⟩ := e6_mk cc
      rw [hs1] at hb1
      have HS1 := Lib.hid hs1
      have hki : (kk : Int) < (l.length : Int) := by omega
      have hsb : (S0 : Int) + (bo.size : Int) ≤ 1001000000 := by omega
      clear cc hcell hrd hbo hs1 hy hb1
      go_wp2_with fail
      go_roundw
      case rel => exact ⟨kk + 1, S0 + bo.size, by omega, by go_num, by go_num, HS1, hbw.alloc hbw.size _⟩
      case measure => simp [intOf]; omega
    · obtain rfl : kk = l.length := by omega
      have hm := HS0.out
      rw [List.take_of_length_le (by simp)] at hm
      have HM := Lib.hid (hm.symm.trans HS.out)
      clear hm
      go_wp2_with fail
      go_ret
      exact ⟨ret_int (by rw [HM.out]), hbw⟩
end Go.Proofs.YtkobhknggamejaaGreatDoor
