/- Fetch: the laws' check of headers. -/
import Derived.Test.YtjdhaacmlpegoaaGreatDoorB7
namespace Go.Proofs.YtjdhaacmlpegoaaGreatDoor
set_option linter.unusedVariables false
set_option linter.unusedSimpArgs false
open Go.RowKit

abbrev okH44 (h : Hd) : Bool := decide (h.1.size + h.2.size ≤ 300)
def attrB44 (l : List Hd) : Bool := l.all okH44 && decide (l.length ≤ 8)
theorem attrB44_sz {l : List Hd} (h : attrB44 l = true) : HdSz l ∧ l.length ≤ 8 := by
  unfold attrB44 at h
  rw [Bool.and_eq_true, List.all_eq_true, decide_eq_true_eq] at h
  have h1 : ∀ x ∈ l, x.1.size + x.2.size ≤ 300 := fun x hx => of_decide_eq_true (h.1 x hx)
  exact ⟨⟨by omega, fun x hx => by have := h1 x hx; omega⟩, h.2⟩
set_option maxRecDepth 20000 in
theorem attrs44_is (l : List Hd) (v : Value) (w : World) (hv : SlK hdC 2 w v l) (hz : WtH l) (R : Bool) (hR : attrB44 l = R) :
    Calls Tryz.prog 22 #[v] w fun e w' => e = .returned (.bool R) ∧ Below w.heap.size w w' := by
  have HR := Lib.hid hR
  have HZ := Lib.hid hz
  have hle : l.length ≤ 9223372036854775807 := by
    rcases hv with ⟨rfl, _⟩ | ⟨_, b0, off, cap, he, hc1, hc2, hc3, hcell⟩
    · exact Nat.zero_le _
    · unfold maxLen at hc2; omega
  have HC : Hid (0 < l.length → ∃ b0 off cap : Nat, v = .slice (some ⟨b0, off, none⟩) l.length cap ∧ b0 < w.heap.size ∧ ∀ kk (h : kk < l.length) j u, (hdC l[kk])[j]? = some u → w.cell? ⟨b0, off + kk * 2 + j, none⟩ = some u) := Lib.hid (by
    intro h0
    rcases hv with ⟨rfl, _⟩ | ⟨_, b0, off, cap, he, hc1, hc2, hc3, hcell⟩
    · simp at h0
    · exact ⟨b0, off, cap, he, hc3, hcell⟩)
  obtain ⟨sa, sc, rfl, _⟩ := hv.shape
  clear hv hR hz
  go_enter Tryz.func22, Tryz.ntmps22
  go_wp2_with fail
  go_loopw [7] (fun iv wr => ∃ k : Nat, k ≤ l.length ∧ iv = .int .i64 k ∧ Hid ((l.take k).all okH44 = true) ∧ Below w.heap.size w wr) (fun iv _ => l.length - (intOf iv).toNat)
  case atStart => exact ⟨0, Nat.zero_le _, rfl, Lib.hid rfl, Below.refl _ _⟩
  case round =>
    obtain ⟨kk, hk, rfl, HA, hbw⟩ := hrel
    by_cases hlt : kk < l.length
    · obtain ⟨b0, off, cap, he, hb0, hcell⟩ := HC.out (by omega)
      injection he with e1 e2 e3
      subst e1 e3
      have cc : ∀ j u, (hdC l[kk])[j]? = some u → wr.cell? ⟨b0, off + kk * 2 + j, none⟩ = some u := fun j u hu => (brl hbw _ _ hb0).trans (hcell kk hlt j u hu)
      have hzz := HZ.out _ (List.getElem_mem hlt)
      have hst : (l.take (kk + 1)).all okH44 = okH44 l[kk] := by
        rw [List.take_succ_eq_append_getElem hlt, List.all_append, HA.out]; simp
      have hmem : l[kk] ∈ l := List.getElem_mem hlt
      obtain ⟨y, hy⟩ : ∃ y, l[kk] = y := ⟨_, rfl⟩
      rw [hy] at cc hzz hst hmem
      clear hy hcell e2
      obtain ⟨yn, yv⟩ := y
      have hz1 : yn.size ≤ 140737488355328 := hzz.1
      have hz2 : yv.size ≤ 140737488355328 := hzz.2
      have c0 := cc 0 _ rfl
      have c1 := cc 1 _ rfl
      simp only [Nat.add_zero] at c0
      have HST := Lib.hid hst
      have HMEM := Lib.hid hmem
      clear cc hzz hst hmem
      have hki : (kk : Int) < (l.length : Int) := by omega
      have hal : Below w.heap.size w (wr.alloc (.cells #[.string yn, .string yv] 70)) := hbw.alloc hbw.size _
      by_cases hbig : yn.size + yv.size ≤ 300
      · have g1 : ¬ (300 : Int) < (yn.size : Int) + (yv.size : Int) := by omega
        go_wp2_with fail
        go_roundw
        case rel => exact ⟨kk + 1, by omega, by go_num, Lib.hid (by rw [HST.out]; exact decide_eq_true hbig), hal⟩
        case measure => simp [intOf]; omega
      · have g1 : (300 : Int) < (yn.size : Int) + (yv.size : Int) := by omega
        go_wp2_with fail
        go_ret
        refine ⟨ret_bool ?_, hal⟩
        rw [← HR.out]
        unfold attrB44
        have : l.all okH44 = false := by
          rw [Bool.eq_false_iff]
          intro h
          exact hbig (of_decide_eq_true (List.all_eq_true.1 h _ HMEM.out))
        rw [this]; rfl
    · obtain rfl : kk = l.length := by omega
      have hall : l.all okH44 = true := by have := HA.out; rwa [List.take_length] at this
      have HALL := Lib.hid hall
      clear hall
      go_wp2_with fail
      go_ret
      refine ⟨ret_bool ?_, hbw⟩
      rw [← HR.out]
      unfold attrB44
      rw [HALL.out, Bool.true_and, Bool.eq_iff_iff, decide_eq_true_eq, decide_eq_true_eq]
      omega
end Go.Proofs.YtjdhaacmlpegoaaGreatDoor
