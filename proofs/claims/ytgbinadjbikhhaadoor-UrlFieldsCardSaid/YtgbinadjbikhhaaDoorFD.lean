/- Slices of fields; same. -/
import Derived.Test.YtgbinadjbikhhaaDoorFC
import Derived.Test.YtgbinadjbikhhaaDoorLU
import Derived.Deep.QuietTactic
import Derived.BigQuiet
namespace Go.Proofs.YtgbinadjbikhhaaDoor
set_option linter.unusedVariables false
set_option linter.unusedSimpArgs false
open Go.RowKit

/-- a slice that reads as a list of fields -/
def SlA (w : World) (v : Value) (l : List BFld) : Prop :=
  (v = .slice none 0 0 ∧ l = []) ∨ ∃ a cap, v = .slice (some a) l.length cap ∧ l.length ≤ cap ∧ cap ≤ maxLen ∧ (l = [] ∨ a.block < w.heap.size) ∧ ∀ j (h : j < l.length), w.cell? (a.add (j * 2)) = some (.string l[j].1) ∧ w.cell? ⟨(a.add (j * 2)).block, (a.add (j * 2)).off + 1, none⟩ = some (.string l[j].2)
theorem SlA.below {w w' : World} {v : Value} {l : List BFld} {B : Nat} (h : SlA w v l) (hb : Below B w w') (hB : w.heap.size ≤ B) : SlA w' v l := by
  rcases h with h | ⟨a, cap, h1, h2, h3, h4, h5⟩
  · exact .inl h
  · refine .inr ⟨a, cap, h1, h2, h3, h4.imp id (fun h => Nat.lt_of_lt_of_le h hb.size), fun j hj => ?_⟩
    have h4' : a.block < w.heap.size := h4.resolve_left (by rintro rfl; simp at hj)
    have e1 : ((a.add (j * 2))).block = a.block := by unfold Addr.add; split <;> rfl
    exact ⟨(hb.cell (by rw [e1]; omega)).trans (h5 j hj).1, (hb.cell (p := ⟨(a.add (j * 2)).block, (a.add (j * 2)).off + 1, none⟩) (by show (a.add (j * 2)).block < B; rw [e1]; omega)).trans (h5 j hj).2⟩
theorem attrs_get (l : List BFld) : ∀ j (h : j < l.length), (attrsV l)[j * 2]? = some (.string l[j].1) ∧ (attrsV l)[j * 2 + 1]? = some (.string l[j].2) := by
  induction l with
  | nil => intro j h; simp at h
  | cons p l ih =>
    intro j h
    have e : attrsV (p :: l) = .string p.1 :: .string p.2 :: attrsV l := rfl
    rw [e]
    cases j with
    | zero => exact ⟨rfl, rfl⟩
    | succ j =>
      have := ih j (by simpa using h)
      rw [show (j + 1) * 2 = j * 2 + 1 + 1 by omega]
      exact ⟨this.1, this.2⟩
theorem SlA.of_own {w : World} {b e : Nat} {v : Value} {l : List BFld} (h : w.ownsRow b e 2 v l.length (attrsV l)) : SlA w v l := by
  obtain ⟨a, cap, hv, hc, hm, ha⟩ := own_reads h
  rcases ha with ⟨rfl, h0⟩ | ⟨g, rfl, hg, hgw, hcell⟩
  · have hl : l = [] := List.eq_nil_of_length_eq_zero h0
    subst hl
    refine .inl ⟨?_, rfl⟩
    have h2 := h.2
    rcases h2 with ⟨rfl, _⟩ | ⟨g, c, cur, rfl, _⟩
    · rfl
    · cases hv
  · subst hv
    refine .inr ⟨⟨g, 0, none⟩, cap, rfl, hc, hm, .inr hgw, fun j hj => ?_⟩
    have ea : (⟨g, 0, none⟩ : Addr).add (j * 2) = ⟨g, j * 2, none⟩ := by unfold Addr.add; split <;> simp_all
    rw [ea]
    have := attrs_get l j hj
    exact ⟨hcell _ _ this.1, hcell _ _ this.2⟩
set_option maxRecDepth 20000 in
set_option maxHeartbeats 2000000 in
theorem samef_any (v1 v2 : Value) (l1 l2 : List BFld) (w : World) (h1 : SlA w v1 l1) (h2 : SlA w v2 l2) (hn : l1.length ≤ 2000000) (hn2 : l2.length ≤ 2000000) :
    Calls Tryd.prog 37 #[v1, v2] w fun e w' => e = .returned (.bool (decide (flds l1 = flds l2))) ∧ Below w.heap.size w w' := by
  obtain ⟨R, hR⟩ : ∃ R, decide (flds l1 = flds l2) = R := ⟨_, rfl⟩
  rw [hR]
  by_cases hlen : l1.length = l2.length
  · rcases h1 with ⟨rfl, rfl⟩ | ⟨a1, c1, rfl, hc1, hm1, hb1, hx1⟩
    · obtain rfl : l2 = [] := List.eq_nil_of_length_eq_zero hlen.symm
      have HR := Lib.hid hR
      clear hR hlen
      rcases h2 with ⟨rfl, -⟩ | ⟨a2, c2, rfl, hc2, hm2, hb2, hx2⟩
      · go_enter Tryd.func37, Tryd.ntmps37
        go_wp2_with fail
        refine wp_loop_rounds 1 ?_
        rw [rounds_succ]
        go_wp2_with fail
        go_ret
        exact ⟨ret_bool (by rw [← HR.out]; rfl), Below.refl _ _⟩
      · clear hx2
        go_enter Tryd.func37, Tryd.ntmps37
        go_wp2_with fail
        refine wp_loop_rounds 1 ?_
        rw [rounds_succ]
        go_wp2_with fail
        go_ret
        exact ⟨ret_bool (by rw [← HR.out]; rfl), Below.refl _ _⟩
    · rcases h2 with ⟨rfl, rfl⟩ | ⟨a2, c2, rfl, hc2, hm2, hb2, hx2⟩
      · obtain rfl : l1 = [] := List.eq_nil_of_length_eq_zero hlen
        have HR := Lib.hid hR
        clear hR hlen hx1
        go_enter Tryd.func37, Tryd.ntmps37
        go_wp2_with fail
        refine wp_loop_rounds 1 ?_
        rw [rounds_succ]
        go_wp2_with fail
        go_ret
        exact ⟨ret_bool (by rw [← HR.out]; rfl), Below.refl _ _⟩
      · have hle : (l2.length : Int) = (l1.length : Int) := by omega
        have HR := Lib.hid hR
        have HX1 := Lib.hid hx1
        have HX2 := Lib.hid hx2
        have HL := Lib.hid hlen
        rw [hlen] at hc1 hn ⊢
        clear hR hx1 hx2 hlen hle
        go_enter Tryd.func37, Tryd.ntmps37
        go_wp2_with fail
        go_loopw [13] (fun iv wr => ∃ k n : Nat, k ≤ l2.length ∧ iv = .int .i64 k ∧ wr = w.drewN n ∧ decide (flds (l1.drop k) = flds (l2.drop k)) = R) (fun iv _ => l2.length - (intOf iv).toNat)
        case atStart => exact ⟨0, 0, Nat.zero_le _, rfl, rfl, HR.out⟩
        case round =>
          obtain ⟨k, n, hk, rfl, rfl, hd⟩ := hrel
          by_cases hlt : k < l2.length
          · have hlt1 : k < l1.length := by rw [HL.out]; exact hlt
            obtain ⟨c1a, c1b⟩ := HX1.out k hlt1
            obtain ⟨c2a, c2b⟩ := HX2.out k hlt
            rw [List.drop_eq_getElem_cons hlt1, List.drop_eq_getElem_cons hlt] at hd
            obtain ⟨p, hp⟩ : ∃ p, l1[k] = p := ⟨_, rfl⟩
            obtain ⟨q, hq⟩ : ∃ q, l2[k] = q := ⟨_, rfl⟩
            rw [hp, hq] at hd
            rw [hp] at c1a c1b
            rw [hq] at c2a c2b
            obtain ⟨x1, y1⟩ := p
            obtain ⟨x2, y2⟩ := q
            simp only at c1a c1b c2a c2b
            have HD := Lib.hid hd
            have hki : (k : Int) < (l2.length : Int) := by omega
            clear hd hp hq
            by_cases hx : x1.data.toList = x2.data.toList
            · have gx : x1.toList = x2.toList := by rw [ByteArray.toList_eq, ByteArray.toList_eq, hx]
              by_cases hy : y1.data.toList = y2.data.toList
              · have gy : y1.toList = y2.toList := by rw [ByteArray.toList_eq, ByteArray.toList_eq, hy]
                have HN := Lib.hid (show decide (flds (l1.drop (k + 1)) = flds (l2.drop (k + 1))) = R by
                  rw [← HD.out]
                  refine decide_eq_decide.2 ⟨fun h => ?_, fun h => ?_⟩
                  · simp only [flds, List.map_cons, hx, hy] at h ⊢; rw [h]
                  · simp only [flds, List.map_cons, hx, hy, List.cons.injEq, true_and] at h ⊢; exact h)
                clear hx hy
                go_wp2_with fail
                go_region
                all_goals
                  go_wp2_with fail
                  go_roundw
                  case rel => exact ⟨k + 1, _, by omega, by go_num, rfl, HN.out⟩
                  case measure => simp [intOf]; omega
              · have gy : ¬ y1.toList = y2.toList := by rw [ByteArray.toList_eq, ByteArray.toList_eq]; exact hy
                have gy2 : (y1.toList == y2.toList) = false := beq_eq_false_iff_ne.2 gy
                have HN := Lib.hid (show R = false by
                  rw [← HD.out]
                  refine decide_eq_false fun h => hy ?_
                  simp only [flds, List.map_cons, List.cons.injEq, Prod.mk.injEq] at h
                  exact h.1.2)
                clear hx hy
                go_wp2_with fail
                go_region
                all_goals
                  go_wp2_with fail
                  go_ret
                  exact ⟨ret_bool HN.out.symm, below_drewN (Below.refl _ w) _⟩
            · have gx : ¬ x1.toList = x2.toList := by rw [ByteArray.toList_eq, ByteArray.toList_eq]; exact hx
              have gx2 : (x1.toList == x2.toList) = false := beq_eq_false_iff_ne.2 gx
              have HN := Lib.hid (show R = false by
                rw [← HD.out]
                refine decide_eq_false fun h => hx ?_
                simp only [flds, List.map_cons, List.cons.injEq, Prod.mk.injEq] at h
                exact h.1.1)
              clear hx
              go_wp2_with fail
              go_region
              all_goals
                go_wp2_with fail
                go_ret
                exact ⟨ret_bool HN.out.symm, below_drewN (Below.refl _ w) _⟩
          · have HD := Lib.hid hd
            obtain rfl : k = l2.length := by omega
            clear hd
            go_wp2_with fail
            go_ret
            exact ⟨ret_bool (by rw [← HD.out, List.drop_eq_nil_of_le (by rw [HL.out]; exact Nat.le_refl _), List.drop_eq_nil_of_le (Nat.le_refl _)]; rfl), below_drewN (Below.refl _ w) _⟩
  · have hf : R = false := by
      rw [← hR]
      refine decide_eq_false fun h => hlen ?_
      have := congrArg List.length h
      simpa [flds] using this
    subst hf
    have hle : ¬ (l1.length : Int) = (l2.length : Int) := by omega
    have hle2 : ((l1.length : Int) == (l2.length : Int)) = false := beq_eq_false_iff_ne.2 hle
    have hle3 : ((l1.length : Int) != (l2.length : Int)) = true := bne_iff_ne.2 hle
    clear hR
    have fin : ∀ (s1 s2 : Option Addr) (c1 c2 : Nat), Calls Tryd.prog 37 #[.slice s1 l1.length c1, .slice s2 l2.length c2] w fun e w' => e = .returned (.bool false) ∧ Below w.heap.size w w' := fun s1 s2 c1 c2 => by
      clear h1 h2
      go_enter Tryd.func37, Tryd.ntmps37
      go_wp2_with fail
      go_ret
      exact ⟨rfl, Below.refl _ _⟩
    rcases h1 with ⟨rfl, rfl⟩ | ⟨a1, c1, rfl, -⟩ <;> rcases h2 with ⟨rfl, rfl⟩ | ⟨a2, c2, rfl, -⟩
    · exact fin none none 0 0
    · exact fin none (some a2) 0 c2
    · exact fin (some a1) none c1 0
    · exact fin (some a1) (some a2) c1 c2
end Go.Proofs.YtgbinadjbikhhaaDoor
