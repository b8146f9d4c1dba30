/- Cache: the laws' check of sizes: attrs, few. -/
import Derived.Test.YtkobhknggamejaaGreatDoorHN
namespace Go.Proofs.YtkobhknggamejaaGreatDoor
set_option linter.unusedVariables false
set_option linter.unusedSimpArgs false
open Go.RowKit

abbrev okH (h : Hd) : Bool := decide (h.1.size + h.2.size ≤ 200)
def attrB (l : List Hd) : Bool := l.all okH && decide (l.length ≤ 10)
/-- sizes that no machine passes -/
def WtH (l : List Hd) : Prop := ∀ h ∈ l, h.1.size ≤ 140737488355328 ∧ h.2.size ≤ 140737488355328
theorem attrB_sz {l : List Hd} (h : attrB l = true) : HdSz l ∧ l.length ≤ 10 ∧ ∀ x ∈ l, x.1.size + x.2.size ≤ 200 := by
  unfold attrB at h
  rw [Bool.and_eq_true, List.all_eq_true, decide_eq_true_eq] at h
  have h1 : ∀ x ∈ l, x.1.size + x.2.size ≤ 200 := fun x hx => of_decide_eq_true (h.1 x hx)
  exact ⟨⟨by omega, fun x hx => by have := h1 x hx; omega⟩, h.2, h1⟩
set_option maxRecDepth 20000 in
theorem attrs_is (l : List Hd) (v : Value) (w : World) (hv : SlK hdC 2 w v l) (hz : WtH l) (R : Bool) (hR : attrB l = R) :
    Calls Tryz.prog 11 #[v] w fun e w' => e = .returned (.bool R) ∧ Below w.heap.size w w' := by
  have HR := Lib.hid hR
  have HZ := Lib.hid hz
  have hle : l.length ≤ 9223372036854775807 := by
    rcases hv with ⟨rfl, _⟩ | ⟨_, b0, off, cap, he, hc1, hc2, hc3, hcell⟩
    · exact Nat.zero_le _
    · unfold maxLen at hc2; omega
  have HC : Hid (0 < l.length → ∃ b0 off cap : Nat, v = .slice (some ⟨b0, off, none⟩) l.length cap ∧ b0 < w.heap.size ∧ ∀ kk (h : kk < l.length) j u, (hdC l[kk])[j]? = some u → w.cell? ⟨b0, off + kk * 2 + j, none⟩ = some u) := Lib.hid (by
    intro h0
    rcases hv with ⟨rfl, _⟩ | ⟨_, b0, off, cap, he, hc1, hc2, hc3, hcell⟩
    · simp at h0
    · exact ⟨b0, off, cap, he, hc3, hcell⟩)
  obtain ⟨sa, sc, rfl, _⟩ := hv.shape
  clear hv hR hz
  go_enter Tryz.func11, Tryz.ntmps11
  go_wp2_with fail
  go_loopw [7] (fun iv wr => ∃ k : Nat, k ≤ l.length ∧ iv = .int .i64 k ∧ Hid ((l.take k).all okH = true) ∧ Below w.heap.size w wr) (fun iv _ => l.length - (intOf iv).toNat)
  case atStart => exact ⟨0, Nat.zero_le _, rfl, Lib.hid rfl, Below.refl _ _⟩
  case round =>
    obtain ⟨kk, hk, rfl, HA, hbw⟩ := hrel
    by_cases hlt : kk < l.length
    · obtain ⟨b0, off, cap, he, hb0, hcell⟩ := HC.out (by omega)
      injection he with e1 e2 e3
      subst e1 e3
      have cc : ∀ j u, (hdC l[kk])[j]? = some u → wr.cell? ⟨b0, off + kk * 2 + j, none⟩ = some u := fun j u hu => (brl hbw _ _ hb0).trans (hcell kk hlt j u hu)
      have hzz := HZ.out _ (List.getElem_mem hlt)
      have hst : (l.take (kk + 1)).all okH = okH l[kk] := by
        rw [List.take_succ_eq_append_getElem hlt, List.all_append, HA.out]; simp
      have hmem : l[kk] ∈ l := List.getElem_mem hlt
      obtain ⟨y, hy⟩ : ∃ y, l[kk] = y := ⟨_, rfl⟩
      rw [hy] at cc hzz hst hmem
      clear hy hcell e2
      obtain ⟨yn, yv⟩ := y
      have hz1 : yn.size ≤ 140737488355328 := hzz.1
      have hz2 : yv.size ≤ 140737488355328 := hzz.2
      have c0 := cc 0 _ rfl
      have c1 := cc 1 _ rfl
      simp only [Nat.add_zero] at c0
      have HST := Lib.hid hst
      have HMEM := Lib.hid hmem
      clear cc hzz hst hmem
      have hki : (kk : Int) < (l.length : Int) := by omega
      have hal : Below w.heap.size w (wr.alloc (.cells #[.string yn, .string yv] 68)) := hbw.alloc hbw.size _
      by_cases hbig : yn.size + yv.size ≤ 200
      · have g1 : ¬ (200 : Int) < (yn.size : Int) + (yv.size : Int) := by omega
        go_wp2_with fail
        go_roundw
        case rel => exact ⟨kk + 1, by omega, by go_num, Lib.hid (by rw [HST.out]; exact decide_eq_true hbig), hal⟩
        case measure => simp [intOf]; omega
      · have g1 : (200 : Int) < (yn.size : Int) + (yv.size : Int) := by omega
        go_wp2_with fail
        go_ret
        refine ⟨ret_bool ?_, hal⟩
        rw [← HR.out]
        unfold attrB
        have : l.all okH = false := by
          rw [Bool.eq_false_iff]
          intro h
          exact hbig (of_decide_eq_true (List.all_eq_true.1 h _ HMEM.out))
        rw [this]; rfl
    · obtain rfl : kk = l.length := by omega
      have hall : l.all okH = true := by have := HA.out; rwa [List.take_length] at this
      have HALL := Lib.hid hall
      clear hall
      go_wp2_with fail
      go_ret
      refine ⟨ret_bool ?_, hbw⟩
      rw [← HR.out]
      unfold attrB
      rw [HALL.out, Bool.true_and, Bool.eq_iff_iff, decide_eq_true_eq, decide_eq_true_eq]
      omega
def okE (e : En) : Bool := attrB e.va && (attrB e.hd && decide (e.bo.size ≤ 500))
def fewA (es : List En) (rq : List Hd) : Bool := es.all okE && (decide (es.length ≤ 12) && attrB rq)
def WtE (e : En) : Prop := WtH e.va ∧ WtH e.hd ∧ e.bo.size ≤ 140737488355328
theorem okE_sz {e : En} (h : okE e = true) : HdSz e.va ∧ HdSz e.hd ∧ e.bo.size ≤ 500 := by
  unfold okE at h
  rw [Bool.and_eq_true, Bool.and_eq_true, decide_eq_true_eq] at h
  exact ⟨(attrB_sz h.1).1, (attrB_sz h.2.1).1, h.2.2⟩
theorem fewA_sz {es : List En} {rq : List Hd} (h : fewA es rq = true) : (∀ e ∈ es, okE e = true) ∧ es.length ≤ 12 ∧ attrB rq = true := by
  unfold fewA at h
  rw [Bool.and_eq_true, Bool.and_eq_true, decide_eq_true_eq, List.all_eq_true] at h
  exact ⟨h.1, h.2⟩
set_option maxRecDepth 20000 in
set_option maxHeartbeats 2000000 in
theorem few_is (l : List Ee) (v : Value) (url : ByteArray) (rq : List Hd) (vr : Value) (now : Int) (w : World) (hv : SlK eeC 6 w v l) (hr : ∀ x ∈ l, Rd w x.1 x.2) (hq : SlK hdC 2 w vr rq) (hz : ∀ x ∈ l, WtE x.2) (hzq : WtH rq) (R : Bool) (hR : fewA (l.map (·.2)) rq = R) :
    Calls Tryz.prog 20 #[.agg #[v], .agg #[.string url, vr, .int .i64 now]] w fun e w' => e = .returned (.bool R) ∧ Below w.heap.size w w' := by
  have HR := Lib.hid hR
  have hle : l.length ≤ 9223372036854775807 := by
    rcases hv with ⟨rfl, _⟩ | ⟨_, b0, off, cap, he, hc1, hc2, hc3, hcell⟩
    · exact Nat.zero_le _
    · unfold maxLen at hc2; omega
  have HC : Hid (0 < l.length → ∃ b0 off cap : Nat, v = .slice (some ⟨b0, off, none⟩) l.length cap ∧ b0 < w.heap.size ∧ ∀ kk (h : kk < l.length) j u, (eeC l[kk])[j]? = some u → w.cell? ⟨b0, off + kk * 6 + j, none⟩ = some u) := Lib.hid (by
    intro h0
    rcases hv with ⟨rfl, _⟩ | ⟨_, b0, off, cap, he, hc1, hc2, hc3, hcell⟩
    · simp at h0
    · exact ⟨b0, off, cap, he, hc3, hcell⟩)
  have hB0 : Below w.heap.size w ((w.alloc (.cells [v].toArray 35)).alloc (.cells [.string url, vr, .int .i64 now].toArray 37)) := ((Below.refl _ w).alloc (Nat.le_refl _) _).alloc (by simp) _
  have J0 := (AtL.new w [v] 35).alloc (.cells [.string url, vr, .int .i64 now].toArray 37)
  have Q0 := AtL.new (w.alloc (.cells [v].toArray 35)) [.string url, vr, .int .i64 now] 37
  rw [show (w.alloc (.cells [v].toArray 35)).heap.size = w.heap.size + 1 by simp] at Q0
  have hq0 := hq.below hB0 (Nat.le_refl _)
  have HRD := Lib.hid (fun x hx => (hr x hx).below hB0 (Nat.le_refl _))
  have HZ := Lib.hid hz
  have hcell0 : 0 < l.length → ∃ b0 off cap : Nat, v = .slice (some ⟨b0, off, none⟩) l.length cap ∧ ∀ kk (h : kk < l.length) j u, (eeC l[kk])[j]? = some u → ((w.alloc (.cells [v].toArray 35)).alloc (.cells [.string url, vr, .int .i64 now].toArray 37)).cell? ⟨b0, off + kk * 6 + j, none⟩ = some u := fun h0 => by
    obtain ⟨b0, off, cap, he, hb, hc⟩ := HC.out h0
    exact ⟨b0, off, cap, he, fun kk h j u hu => (brl hB0 _ _ hb).trans (hc kk h j u hu)⟩
  have CQ := Lib.hid (fun w hv => attrs_is rq vr w hv hzq _ rfl)
  obtain ⟨sa, sc, rfl, _⟩ := hv.shape
  obtain ⟨qa, qc, rfl, _⟩ := hq.shape
  clear hv hr hq hz hR HC
  have HC := Lib.hid hcell0
  clear hcell0 hzq
  go_enter Tryz.func20, Tryz.ntmps20
  go_wp2_with fail
  obtain ⟨w1, hw1⟩ : ∃ w1 : World, (w.alloc (.cells [.slice sa l.length sc].toArray 35)).alloc (.cells [.string url, .slice qa rq.length qc, .int .i64 now].toArray 37) = w1 := ⟨_, rfl⟩
  obtain ⟨J, hJ⟩ : ∃ J, w.heap.size = J := ⟨_, rfl⟩
  obtain ⟨Q, hQ⟩ : ∃ Q, w.heap.size + 1 = Q := ⟨_, rfl⟩
  rw [hw1] at hB0 J0 Q0 hq0 HRD HC
  rw [hJ] at J0
  rw [hQ] at Q0
  rw [hw1, hQ, hJ]
  have HJ := Lib.hid hJ
  clear hw1 hJ hQ
  go_loopw [10] (fun iv wr => ∃ k : Nat, k ≤ l.length ∧ iv = .int .i64 k ∧ Hid (((l.take k).map (·.2)).all okE = true) ∧ Below w1.heap.size w1 wr) (fun iv _ => l.length - (intOf iv).toNat)
  case atStart => exact ⟨0, Nat.zero_le _, rfl, Lib.hid rfl, Below.refl _ _⟩
  case round =>
    obtain ⟨kk, hk, rfl, HA, hbw⟩ := hrel
    have J2 := J0.below hbw J0.lt
    have Q2 := Q0.below hbw Q0.lt
    have j0 := J2.c 0 rfl
    have jl := J2.lt
    have q1 := Q2.c 1 rfl
    have ql := Q2.lt
    by_cases hlt : kk < l.length
    · obtain ⟨b0, off, cap, he, hcell⟩ := HC.out (by omega)
      injection he with e1 e2 e3
      subst e1 e3
      have cc : ∀ j u, (eeC l[kk])[j]? = some u → wr.cell? ⟨b0, off + kk * 6 + j, none⟩ = some u := fun j u hu => (brl hbw _ _ (cell_lt (hcell kk hlt j u hu))).trans (hcell kk hlt j u hu)
      have hmem : l[kk] ∈ l := List.getElem_mem hlt
      have hst : ((l.take (kk + 1)).map (·.2)).all okE = okE l[kk].2 := by
        rw [List.take_succ_eq_append_getElem hlt, List.map_append, List.all_append, HA.out]; simp
      obtain ⟨y, hy⟩ : ∃ y, l[kk] = y := ⟨_, rfl⟩
      rw [hy] at cc hmem hst
      have hrd := (HRD.out y hmem).below hbw (Nat.le_refl _)
      have hzz := HZ.out y hmem
      obtain ⟨⟨a1, n1, k1, f1⟩, a2, n2, k2, f2⟩ := hrd.shp
      clear hy hcell e2
      obtain ⟨⟨u, vv, st, hh, bo, ti⟩, ex⟩ := y
      have hva : SlK hdC 2 wr vv ex.va := hrd.va
      have hhd : SlK hdC 2 wr hh ex.hd := hrd.hd
      have hbo : bo = ex.bo := hrd.bo
      have hz1 : WtH ex.va := hzz.1
      have hz2 : WtH ex.hd := hzz.2.1
      have hz3 : ex.bo.size ≤ 140737488355328 := hzz.2.2
      rw [← hbo] at hz3
      have f1 : vv = .slice a1 n1 k1 := f1
      have f2 : hh = .slice a2 n2 k2 := f2
      subst f1 f2
      have c0 := cc 0 _ rfl
      have c1 := cc 1 _ rfl
      have c2 := cc 2 _ rfl
      have c3 := cc 3 _ rfl
      have c4 := cc 4 _ rfl
      have c5 := cc 5 _ rfl
      simp only [Nat.add_zero] at c0
      have hki : (kk : Int) < (l.length : Int) := by omega
      have X8 := AtL.new wr [.string u, .slice a1 n1 k1, .int .i64 st, .slice a2 n2 k2, .string bo, .int .i64 ti] 40
      have hal := (Below.refl _ wr).alloc (Nat.le_refl _) (.cells [.string u, .slice a1 n1 k1, .int .i64 st, .slice a2 n2 k2, .string bo, .int .i64 ti].toArray 40)
      have hva8 := hva.below hal (Nat.le_refl _)
      have hhd8 := hhd.below hal (Nat.le_refl _)
      have hbw8 := hbw.trans (hal.mono hbw.size)
      have HOE : Hid (okE ex = (attrB ex.va && (attrB ex.hd && decide (bo.size ≤ 500)))) := Lib.hid (by unfold okE; rw [hbo])
      have HST : Hid (((l.take (kk + 1)).map (·.2)).all okE = okE ex) := Lib.hid hst
      have HMEM := Lib.hid hmem
      cases hA1 : attrB ex.va with
      | false =>
        have C1 := Lib.hid (fun w hv => attrs_is ex.va (.slice a1 n1 k1) w hv hz1 false hA1)
        have C2 : Hid (∀ (w : World) (_ : SlK hdC 2 w (.slice a2 n2 k2) ex.hd), True) := Lib.hid (fun _ _ => trivial)
        have HOK : Hid (okE ex = false) := Lib.hid (by rw [HOE.out, hA1]; rfl)
        clear hA1 hrd hva hhd hbo hz1 hz2 hzz hst hmem cc
        go_wp2_with (first
          | (go_at_call 11; with_reducible refine (C1.out _ hva8).mono ?_; rintro e w9 ⟨rfl, hb9⟩; have hbwF := hbw8.trans (hb9.mono hbw8.size)))
        go_ret
        refine ⟨ret_bool ?_, hB0.trans (hbwF.mono hB0.size)⟩
        rw [← HR.out]
        unfold fewA
        have : (l.map (·.2)).all okE = false := by
          rw [Bool.eq_false_iff]
          intro h
          have h2 := List.all_eq_true.1 h _ (List.mem_map_of_mem HMEM.out)
          rw [show okE ex = false from HOK.out] at h2
          cases h2
        rw [this]; rfl
      | true =>
        have C1 := Lib.hid (fun w hv => attrs_is ex.va (.slice a1 n1 k1) w hv hz1 true hA1)
        cases hA2 : attrB ex.hd with
        | false =>
          have C2 := Lib.hid (fun w hv => attrs_is ex.hd (.slice a2 n2 k2) w hv hz2 false hA2)
          have HOK : Hid (okE ex = false) := Lib.hid (by rw [HOE.out, hA1, hA2]; rfl)
          clear hA1 hA2 hrd hva hhd hbo hz1 hz2 hzz hst hmem cc
          go_wp2_with (first
            | (go_at_call 11; with_reducible refine (C1.out _ hva8).mono ?_; rintro e w9 ⟨rfl, hb9⟩; have X9 := X8.next hb9; have x93 := X9.c 3 rfl; have x94 := X9.c 4 rfl; have xl9 := X9.lt; have hhd9 := hhd8.below hb9 (Nat.le_refl _); have hbw9 := hbw8.trans (hb9.mono hbw8.size))
            | (go_at_call 11; with_reducible refine (C2.out _ hhd9).mono ?_; rintro e w10 ⟨rfl, hb10⟩; have X10 := X9.next hb10; have x104 := X10.c 4 rfl; have xl10 := X10.lt; have hbw10 := hbw9.trans (hb10.mono hbw9.size))
            )
          have hbwF := hbw10
          go_ret
          refine ⟨ret_bool ?_, hB0.trans (hbwF.mono hB0.size)⟩
          rw [← HR.out]
          unfold fewA
          have : (l.map (·.2)).all okE = false := by
            rw [Bool.eq_false_iff]
            intro h
            have h2 := List.all_eq_true.1 h _ (List.mem_map_of_mem HMEM.out)
            rw [show okE ex = false from HOK.out] at h2
            cases h2
          rw [this]; rfl
        | true =>
          have C2 := Lib.hid (fun w hv => attrs_is ex.hd (.slice a2 n2 k2) w hv hz2 true hA2)
          by_cases h5 : bo.size ≤ 500
          · have HOK : Hid (okE ex = true) := Lib.hid (by rw [HOE.out, hA1, hA2]; exact decide_eq_true h5)
            clear hA1 hA2 hrd hva hhd hbo hz1 hz2 hzz hst hmem cc
            have g5 : ¬ (500 : Int) < (bo.size : Int) := by omega
            go_wp2_with (first
              | (go_at_call 11; with_reducible refine (C1.out _ hva8).mono ?_; rintro e w9 ⟨rfl, hb9⟩; have X9 := X8.next hb9; have x93 := X9.c 3 rfl; have x94 := X9.c 4 rfl; have xl9 := X9.lt; have hhd9 := hhd8.below hb9 (Nat.le_refl _); have hbw9 := hbw8.trans (hb9.mono hbw8.size))
              | (go_at_call 11; with_reducible refine (C2.out _ hhd9).mono ?_; rintro e w10 ⟨rfl, hb10⟩; have X10 := X9.next hb10; have x104 := X10.c 4 rfl; have xl10 := X10.lt; have hbw10 := hbw9.trans (hb10.mono hbw9.size))
              )
            go_roundw
            case rel => exact ⟨kk + 1, by omega, by go_num, Lib.hid (by rw [HST.out]; exact HOK.out), hbw10⟩
            case measure => simp [intOf]; omega
          · have HOK : Hid (okE ex = false) := Lib.hid (by rw [HOE.out, hA1, hA2]; exact decide_eq_false h5)
            clear hA1 hA2 hrd hva hhd hbo hz1 hz2 hzz hst hmem cc
            have g5 : (500 : Int) < (bo.size : Int) := by omega
            go_wp2_with (first
              | (go_at_call 11; with_reducible refine (C1.out _ hva8).mono ?_; rintro e w9 ⟨rfl, hb9⟩; have X9 := X8.next hb9; have x93 := X9.c 3 rfl; have x94 := X9.c 4 rfl; have xl9 := X9.lt; have hhd9 := hhd8.below hb9 (Nat.le_refl _); have hbw9 := hbw8.trans (hb9.mono hbw8.size))
              | (go_at_call 11; with_reducible refine (C2.out _ hhd9).mono ?_; rintro e w10 ⟨rfl, hb10⟩; have X10 := X9.next hb10; have x104 := X10.c 4 rfl; have xl10 := X10.lt; have hbw10 := hbw9.trans (hb10.mono hbw9.size))
              )
            have hbwF := hbw10
            go_ret
            refine ⟨ret_bool ?_, hB0.trans (hbwF.mono hB0.size)⟩
            rw [← HR.out]
            unfold fewA
            have : (l.map (·.2)).all okE = false := by
              rw [Bool.eq_false_iff]
              intro h
              have h2 := List.all_eq_true.1 h _ (List.mem_map_of_mem HMEM.out)
              rw [show okE ex = false from HOK.out] at h2
              cases h2
            rw [this]; rfl
    · obtain rfl : kk = l.length := by omega
      have hall : (l.map (·.2)).all okE = true := by have := HA.out; rwa [List.take_length] at this
      have HALL := Lib.hid hall
      have hqr := hq0.below hbw (Nat.le_refl _)
      clear hall
      by_cases h12 : l.length ≤ 12
      · have g12 : (l.length : Int) ≤ 12 := by omega
        have HOK : Hid (attrB rq = R) := Lib.hid (by
          rw [← HR.out]; unfold fewA
          rw [HALL.out, show decide ((l.map (·.2)).length ≤ 12) = true from decide_eq_true (by simpa using h12)]; simp)
        go_wp2_with (go_at_call 11; with_reducible refine (CQ.out _ hqr).mono ?_; rintro e w9 ⟨rfl, hb9⟩)
        go_ret
        exact ⟨ret_bool HOK.out, hB0.trans ((hbw.trans (hb9.mono hbw.size)).mono hB0.size)⟩
      · have g12 : ¬ (l.length : Int) ≤ 12 := by omega
        have HOK : Hid (false = R) := Lib.hid (by
          rw [← HR.out]; unfold fewA
          rw [show decide ((l.map (·.2)).length ≤ 12) = false from decide_eq_false (by simpa using h12)]; simp)
        go_wp2_with fail
        go_ret
        exact ⟨ret_bool HOK.out, hB0.trans (hbw.mono hB0.size)⟩
end Go.Proofs.YtkobhknggamejaaGreatDoor
