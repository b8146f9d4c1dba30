/- The walk of the reference's Clean. -/
import Derived.Test.YtjdhaacmlpegoaaGreatDoorB1
namespace Go.Proofs.YtjdhaacmlpegoaaGreatDoor
set_option linter.unusedVariables false
set_option linter.unusedSimpArgs false
open Go.RowKit

/-- what is kept of the first k segments -/
def foldK (l : List (List UInt8)) (k : Nat) : List (List UInt8) := (l.take k).foldl kstep []
theorem foldK_succ (l : List (List UInt8)) (k : Nat) (h : k < l.length) : foldK l (k + 1) = kstep (foldK l k) l[k] := by
  unfold foldK
  rw [List.take_succ_eq_append_getElem h, List.foldl_append]; rfl
theorem keptL_fold (l : List (List UInt8)) : keptL l = foldK l l.length ++ (if (l.getLast?.map isDot).getD false = true then [[]] else []) := by
  unfold keptL kpt foldK; simp
def lastK (Q : List ByteArray) (k : Nat) : ByteArray := if k = 0 then ⟨#[]⟩ else Q.getD (k - 1) ⟨#[]⟩
theorem lastK_succ (Q : List ByteArray) (k : Nat) (h : k < Q.length) : lastK Q (k + 1) = Q[k] := by
  unfold lastK
  rw [if_neg (by omega), Nat.add_sub_cancel, List.getD_eq_getElem?_getD, List.getElem?_eq_getElem h]; rfl
theorem lastK_dot (Q : List ByteArray) : ((lists Q).getLast?.map isDot).getD false = isDot (lastK Q Q.length).data.toList := by
  cases e : Q.length with
  | zero => obtain rfl := List.eq_nil_of_length_eq_zero e; rfl
  | succ n =>
    rw [lastK_succ Q n (by omega), List.getLast?_eq_getElem?]
    simp only [lists, List.length_map, e, Nat.add_sub_cancel, List.getElem?_map]
    rw [List.getElem?_eq_getElem (by omega)]; rfl
theorem outL_snoc (l : List (List UInt8)) (k : Nat) (h : k < l.length) : outL (l.take (k + 1)) = outL (l.take k) ++ 47 :: l[k] := by
  unfold outL
  rw [List.take_succ_eq_append_getElem h, List.map_append, List.flatten_append]; simp
theorem outL_len (N : Nat) (l : List (List UInt8)) (h : ∀ x ∈ l, x.length ≤ N) : (outL l).length ≤ l.length * (N + 1) := by
  induction l with
  | nil => simp [outL]
  | cons x r ih =>
    have h1 := h x List.mem_cons_self
    have h2 := ih fun y hy => h y (List.mem_cons_of_mem _ hy)
    have e : outL (x :: r) = 47 :: x ++ outL r := by simp [outL]
    rw [e, List.length_append, List.length_cons, List.length_cons, Nat.add_mul]
    omega
/-- what the segments are, for the walk -/
theorem segs_row (s : ByteArray) (w : World) (hs : s.size ≤ 1000000) :
    Calls Tryz.prog 205 #[.string s, .int .u8 47] w fun e w1 => ∃ (g cap : Nat) (p0 : ByteArray) (ps : List ByteArray), e = .returned (.slice (some ⟨g, 0, none⟩) (ps.length + 1) cap) ∧ ps.length ≤ 1000000 ∧ (∀ p ∈ lists (p0 :: ps), p.length ≤ 1000000)
      ∧ w.heap.size ≤ g ∧ g < w1.heap.size ∧ ps.length + 1 ≤ cap ∧ cap ≤ maxLen ∧ (∀ j (h : j < (p0 :: ps).length), w1.cell? ⟨g, j, none⟩ = some (.string (p0 :: ps)[j])) ∧ Below w.heap.size w w1 ∧ lists (p0 :: ps) = segs 47 s.data.toList := by
  refine (segments_any s 47 w hs).mono ?_
  rintro e w1 ⟨v, l, rfl, hown, hseg, hb1⟩
  have hN : l.length ≤ 1000001 := by
    have h1 := congrArg List.length hseg
    rw [lists, List.length_map] at h1
    have h2 := segs_count 47 s.data.toList
    rw [size_len] at h2
    omega
  have hmx : ∀ p ∈ lists l, p.length ≤ 1000000 := fun p hp => by
    rw [hseg] at hp
    have := segs_len 47 _ p hp
    rw [size_len] at this
    omega
  match l, hown, hN, hmx, hseg with
  | [], _, _, _, hseg => exact absurd hseg.symm (segs_ne 47 _)
  | p0 :: ps, hown, hN, hmx, hseg =>
    simp only [List.length_cons] at hN
    obtain ⟨a, cap, rfl, hnc, hcm, hc⟩ := own_reads hown
    rcases hc with ⟨rfl, h⟩ | ⟨g, rfl, hbg, hgs, hcl⟩
    · simp at h
    · exact ⟨g, cap, p0, ps, rfl, by omega, hmx, hbg, hgs, by simpa using hnc, hcm, fun j h => hcl j _ (by simp only [strsV, List.getElem?_map, List.getElem?_eq_getElem h]; rfl), hb1, hseg⟩
theorem empty_iff (p : ByteArray) : p.toList.isEmpty = true ↔ p.data.toList = [] := by rw [List.isEmpty_iff, ByteArray.toList_eq]
theorem empty_not (p : ByteArray) (h : p.data.toList ≠ []) : p.toList.isEmpty = false := by
  cases e : p.toList.isEmpty with
  | false => rfl
  | true => exact absurd ((empty_iff p).1 e) h
def RowA (w w1 : World) (e : Ending) (R : List UInt8) : Prop := ∃ (g cap : Nat) (p0 : ByteArray) (ps : List ByteArray), e = .returned (.slice (some ⟨g, 0, none⟩) (ps.length + 1) cap) ∧ ps.length ≤ 1000000 ∧ Hid (∀ p ∈ lists ps, p.length ≤ 1000000) ∧ p0.toList.isEmpty = true ∧ (¬cap=1)
      ∧ w.heap.size ≤ g ∧ g < w1.heap.size ∧ ps.length + 1 ≤ cap ∧ cap ≤ maxLen ∧ Hid (∀ j (h : j < (ps).length), w1.cell? ⟨g, 1 + j, none⟩ = some (.string (ps)[j])) ∧ w1.cell? ⟨g, 0, none⟩ = some (.string p0) ∧ Below w.heap.size w w1 ∧ Hid ((if keptL (lists ps) = [] then [47] else outL (keptL (lists ps))) = R)
def RowB (w w1 : World) (e : Ending) (R : List UInt8) : Prop := ∃ (g cap : Nat) (p0 : ByteArray) (ps : List ByteArray), e = .returned (.slice (some ⟨g, 0, none⟩) (ps.length + 1) cap) ∧ ps.length ≤ 1000000 ∧ Hid (∀ p ∈ lists (p0::ps), p.length ≤ 1000000) ∧ p0.toList.isEmpty = false ∧ True
      ∧ w.heap.size ≤ g ∧ g < w1.heap.size ∧ ps.length + 1 ≤ cap ∧ cap ≤ maxLen ∧ Hid (∀ j (h : j < ((p0::ps)).length), w1.cell? ⟨g, 0 + j, none⟩ = some (.string ((p0::ps))[j])) ∧ w1.cell? ⟨g, 0, none⟩ = some (.string p0) ∧ Below w.heap.size w w1 ∧ Hid ((if keptL (lists (p0::ps)) = [] then [47] else outL (keptL (lists (p0::ps)))) = R)
theorem segA (s : ByteArray) (w : World) (hs : s.size ≤ 1000000) (hv : ∃ r, segs 47 s.data.toList = [] :: r ∧ r ≠ []) :
    Calls Tryz.prog 205 #[.string s, .int .u8 47] w fun e w1 => RowA w w1 e (cleanL s.data.toList) := by
  refine (segs_row s w hs).mono ?_
  rintro e w1 ⟨g, cap, p0, ps, rfl, hlen, hq, hg, hg1, hcap, hcm, hc, hb1, hseg⟩
  obtain ⟨r, hr, hrn⟩ := hv
  rw [hr] at hseg
  have c0 := hc 0 (by simp)
  simp only [List.getElem_cons_zero] at c0
  have hl : lists ps = r := (List.cons.inj hseg).2
  have h0 : p0.data.toList = [] := (List.cons.inj hseg).1
  have hps : 0 < ps.length := by
    have := congrArg List.length hl
    have h2 := List.length_pos_iff.2 hrn
    rw [lists, List.length_map] at this
    omega
  have ht : tailE ([] :: r) = lists ps := by rw [hl]; simp [tailE]
  refine ⟨g, cap, p0, ps, rfl, hlen, Lib.hid (fun p h => hq p (List.mem_cons_of_mem _ h)), (empty_iff p0).2 h0, by omega, hg, hg1, hcap, hcm, Lib.hid (fun j h => ?_), c0, hb1, Lib.hid ?_⟩
  · have := hc (j + 1) (by simp; omega)
    rw [Nat.add_comm]; simpa using this
  · rw [cleanL, hr, ht]
theorem segB (s : ByteArray) (w : World) (hs : s.size ≤ 1000000) (hv : (segs 47 s.data.toList).head? ≠ some []) :
    Calls Tryz.prog 205 #[.string s, .int .u8 47] w fun e w1 => RowB w w1 e (cleanL s.data.toList) := by
  refine (segs_row s w hs).mono ?_
  rintro e w1 ⟨g, cap, p0, ps, rfl, hlen, hq, hg, hg1, hcap, hcm, hc, hb1, hseg⟩
  have c0 := hc 0 (by simp)
  simp only [List.getElem_cons_zero] at c0
  have h0 : p0.data.toList ≠ [] := fun h => hv (by rw [← hseg]; simp [lists, h])
  have ht : tailE (segs 47 s.data.toList) = lists (p0 :: ps) := by rw [tailE, if_neg hv, hseg]
  refine ⟨g, cap, p0, ps, rfl, hlen, Lib.hid hq, empty_not p0 h0, trivial, hg, hg1, hcap, hcm, Lib.hid (fun j h => ?_), c0, hb1, Lib.hid ?_⟩
  · rw [Nat.zero_add]; exact hc j h
  · rw [cleanL, ht]
set_option maxRecDepth 20000 in
set_option maxHeartbeats 4000000 in
theorem rcleanA (s : ByteArray) (w : World) (R : List UInt8) (hC : Calls Tryz.prog 205 #[.string s, .int .u8 47] w fun e w1 => RowA w w1 e R) :
    Calls Tryz.prog 145 #[.string s] w fun e w' => ∃ t : ByteArray, e = .returned (.string t) ∧ t.data.toList = R ∧ Below w.heap.size w w' := by
  unfold RowA at hC
  have S := Lib.hid hC
  clear hC
  go_enter Tryz.func145, Tryz.ntmps145
  go_wp2_with (go_at_call 205; with_reducible refine S.out.mono ?_; rintro e w1' ⟨g, cap, p0, ps, rfl, hlen, HQ, hE, hcap2, hg, hg1, hcap, hcm, HC, c0, hb1, HR⟩)
  obtain ⟨w1, rfl⟩ : ∃ w1 : World, w1 = w1' := ⟨_, rfl⟩
  go_loopw [4, 5, 6] (fun v lv iv wr => ∃ (k : Nat) (ks : List ByteArray), k ≤ (ps).length ∧ iv = .int .i64 k ∧ lv = .string (lastK ps k) ∧ wr.ownsRow w1.heap.size 9 1 v ks.length (strsV ks) ∧ lists ks = foldK (lists ps) k ∧ ks.length ≤ k ∧ Below w1.heap.size w1 wr) (fun _ _ iv _ => (ps).length - (intOf iv).toNat)
  case atStart => exact ⟨0, [], Nat.zero_le _, rfl, rfl, World.ownsRow_nil _ _ _ _, rfl, Nat.zero_le _, Below.refl _ _⟩
  case round =>
    obtain ⟨k, ks, hk, rfl, rfl, hown, hks, hkl, hbw⟩ := hrel
    have hwz := hbw.size
    by_cases hlt : k < (ps).length
    · have d0 := (hbw.cell (p := ⟨g, 1 + k, none⟩) hg1).trans (HC.out k hlt)
      have hLS := lastK_succ ps k hlt
      obtain ⟨p, hp⟩ : ∃ p, (ps)[k] = p := ⟨_, rfl⟩
      have hsu := foldK_succ (lists ps) k (by simpa [lists] using hlt)
      have hpe : (lists ps)[k]'(by simpa [lists] using hlt) = p.data.toList := by simp only [lists, List.getElem_map, hp]
      rw [hpe, ← hks] at hsu
      rw [hp] at d0 hLS
      have HS := Lib.hid hsu
      have HLS := Lib.hid hLS
      clear hsu hpe hp hks hLS
      obtain ⟨lq, hlq⟩ : ∃ q, lastK ps k = q := ⟨_, rfl⟩
      rw [hlq]
      clear hlq
      try simp only [List.length_cons, Nat.zero_add] at hlt d0 hk
      by_cases h1 : p = ⟨#[46, 46]⟩
      · subst h1
        have KN : foldK (lists ps) (k + 1) = (lists ks).dropLast := by rw [HS.out]; rfl
        have HN := Lib.hid KN
        clear KN HS
        rcases own_shape hown with ⟨rfl, hk0, hx0⟩ | ⟨gk, capk, rfl, hcapk, hcmk⟩
        · obtain rfl : ks = [] := List.eq_nil_of_length_eq_zero hk0
          go_wp2_with fail
          go_roundw
          case rel => exact ⟨k + 1, [], by (try simp only [List.length_cons]); omega, by go_num, by rw [HLS.out], World.ownsRow_nil _ _ _ _, by rw [HN.out]; rfl, by simp, hbw⟩
          case measure => simp [intOf]; omega
        · by_cases hz : ks.length = 0
          · obtain rfl : ks = [] := List.eq_nil_of_length_eq_zero hz
            go_wp2_with fail
            go_roundw
            case rel => exact ⟨k + 1, [], by (try simp only [List.length_cons]); omega, by go_num, by rw [HLS.out], hown, by rw [HN.out]; rfl, by simp, hbw⟩
            case measure => simp [intOf]; omega
          · have hm0 : ((ks.length : Int) - 1).toNat = ks.length - 1 := by omega
            have hzp : (0 : Int) < (ks.length : Int) := by omega
            have hown2 := own_shrink hown (ks.length - 1) (by omega)
            go_wp2_with fail
            go_roundw
            case rel => exact ⟨k + 1, ks.dropLast, by (try simp only [List.length_cons]); omega, by go_num, by rw [HLS.out], by rw [List.dropLast_eq_take]; simpa [strsV] using hown2, by rw [HN.out]; simp [lists], by simp; omega, hbw⟩
            case measure => simp [intOf]; omega
      · have h1b : (p.toList == [46, 46]) = false := by rw [beq_eq_false_iff_ne, ByteArray.toList_eq]; exact toList_ne h1
        by_cases h2 : p = ⟨#[46]⟩
        · subst h2
          have KN : foldK (lists ps) (k + 1) = lists ks := by rw [HS.out]; rfl
          have HN := Lib.hid KN
          clear KN HS
          go_wp2_with fail
          go_roundw
          case rel => exact ⟨k + 1, ks, by (try simp only [List.length_cons]); omega, by go_num, by rw [HLS.out], hown, by rw [HN.out], by omega, hbw⟩
          case measure => simp [intOf]; omega
        · have h2b : (p.toList == [46]) = false := by rw [beq_eq_false_iff_ne, ByteArray.toList_eq]; exact toList_ne h2
          have KN : foldK (lists ps) (k + 1) = lists ks ++ [p.data.toList] := by rw [HS.out, kstep_other _ _ h1 h2]
          have HN := Lib.hid KN
          clear KN HS
          go_wp2_with (refine app2 slS _ rfl (.tmp 45) (.tmp 47) rfl w1.heap.size _ _ _ rfl hown [_] 1 _ rfl rfl rfl (by intro u hu; simp at hu; subst hu; rfl) (by decide) (by omega) (by omega) (by omega) ?_; intro v2 w2 hA2 gA fA; have hB2 := below_own hbw hown gA (by omega) (by omega))
          go_roundw
          case rel => exact ⟨k + 1, ks ++ [p], by (try simp only [List.length_cons]); omega, by go_num, by rw [HLS.out], by simpa [strsV] using hA2, by rw [HN.out]; simp [lists], by simp; omega, hB2⟩
          case measure => simp [intOf]; omega
    · have hkk : k = (ps).length := by omega
      subst hkk
      have hdot := lastK_dot ps
      have hkf := keptL_fold (lists ps)
      rw [hdot, show (lists ps).length = (ps).length by simp [lists], ← hks] at hkf
      obtain ⟨lq, hlq⟩ : ∃ q, lastK ps (ps).length = q := ⟨_, rfl⟩
      rw [hlq] at hkf ⊢
      have HKf := Lib.hid hkf
      clear hdot hkf hlq hks
      try simp only [List.length_cons, Nat.zero_add] at hlt hk hkl
      by_cases hd : isDot lq.data.toList = true
      · have hkE : lists (ks ++ [⟨#[]⟩]) = keptL (lists ps) := by rw [HKf.out, if_pos hd]; simp [lists]
        have HKF0 := Lib.hid hkE
        clear hkE HKf
        obtain ⟨ks2, hk2⟩ : ∃ ks2, ks ++ [⟨#[]⟩] = ks2 := ⟨_, rfl⟩
        rw [hk2] at HKF0
        have HKF := HKF0
        have hk2l : ks2.length ≤ 1000003 := by rw [← hk2]; simp; omega
        have hk2n : ks.length + 1 = ks2.length := by rw [← hk2]; simp
        have hk2s : strsV ks ++ [Value.string ⟨#[]⟩] = strsV ks2 := by rw [← hk2]; simp [strsV]
        clear HKF0 hk2
        have HK2 := Lib.hid hk2s
        clear hk2s
        by_cases h2 : lq = ⟨#[46]⟩
        · subst h2
          clear hd
          go_wp2_with (refine app2 slS _ rfl (.tmp 55) (.tmp 56) rfl w1.heap.size _ _ _ rfl hown [_] 1 _ rfl rfl rfl (by intro u hu; simp at hu; subst hu; rfl) (by decide) (by omega) (by omega) (by omega) ?_; intro v2 w2 hA2 gA fA; have hbF := below_own hbw hown gA (by omega) (by omega))
          have hA : w2.ownsRow w1.heap.size 9 1 v2 ks2.length (strsV ks2) := by rw [← HK2.out, ← hk2n]; exact hA2
          clear hA2 hown hbw
          obtain ⟨wo, rfl⟩ : ∃ wo : World, wo = w2 := ⟨_, rfl⟩
          obtain ⟨a2, cap2, rfl, hnc2, hcm2, hc2⟩ := own_reads hA
          have hws := hbF.size
          have hmem : ∀ x ∈ lists ks2, x.length ≤ 1000000 := fun x hx => by
            rw [HKF.out] at hx
            rcases kpt_mem _ _ _ hx with rfl | h
            · simp
            · exact HQ.out x h
          have HM := Lib.hid hmem
          clear hmem hA
          go_loopw [7, 8] (fun ov iv wr => ∃ (i : Nat) (t : ByteArray), i ≤ ks2.length ∧ iv = .int .i64 i ∧ ov = .string t ∧ t.data.toList = outL ((lists ks2).take i) ∧ Below wo.heap.size wo wr) (fun _ iv _ => ks2.length - (intOf iv).toNat)
          case atStart => exact ⟨0, ⟨#[]⟩, Nat.zero_le _, rfl, rfl, by simp [outL], Below.refl _ _⟩
          case round =>
            obtain ⟨i, t, hi, rfl, rfl, ht, hbr⟩ := hrel
            have HT := Lib.hid ht
            have hts : t.size ≤ 1000003 * (1000000 + 1) := by
              rw [← size_len, ht]
              have := outL_len 1000000 ((lists ks2).take i) (fun x hx => HM.out x (List.mem_of_mem_take hx))
              exact Nat.le_trans this (Nat.mul_le_mul_right _ (by rw [List.length_take]; omega))
            clear ht
            by_cases hlt2 : i < ks2.length
            · rcases hc2 with ⟨rfl, h⟩ | ⟨g2, rfl, hbg, hgs, hcl⟩
              · omega
              · have d0 := (hbr.cell (p := ⟨g2, i, none⟩) hgs).trans (hcl i (.string ks2[i]) (by simp [strsV, hlt2]))
                obtain ⟨p, hp⟩ : ∃ p, ks2[i] = p := ⟨_, rfl⟩
                rw [hp] at d0
                have hps : p.size ≤ 1000000 := by
                  have := HM.out p.data.toList (by rw [← hp]; exact List.mem_map_of_mem (List.getElem_mem _))
                  rwa [size_len] at this
                have hsn := outL_snoc (lists ks2) i (by simpa [lists] using hlt2)
                have hpe : (lists ks2)[i]'(by simpa [lists] using hlt2) = p.data.toList := by simp only [lists, List.getElem_map, hp]
                rw [hpe] at hsn
                have HSN := Lib.hid hsn
                clear hsn hpe hp hcl
                go_wp2_with fail
                go_roundw
                case rel => exact ⟨i + 1, t ++ (⟨#[47]⟩ ++ p), by omega, by go_num, rfl, by rw [app_list, app_list, HSN.out, HT.out]; rfl, hbr⟩
                case measure => simp [intOf]; omega
            · have hie : i = ks2.length := by omega
              subst hie
              have hT2 : t.data.toList = outL (keptL (lists ps)) := by rw [HT.out, List.take_of_length_le (by simp [lists]), HKF.out]
              have hbE : Below w.heap.size w wr := (hb1.trans (hbF.mono hb1.size)).trans (hbr.mono (Nat.le_trans hb1.size hws))
              by_cases hz : ks2.length = 0
              · have hk0 : keptL (lists ps) = [] := by rw [← HKF.out]; exact List.eq_nil_of_length_eq_zero (by simpa [lists] using hz)
                have hte : t.toList.isEmpty = true := by rw [List.isEmpty_iff, ByteArray.toList_eq, hT2, hk0]; rfl
                have hRR := HR.out
                rw [if_pos hk0] at hRR
                have HRR := Lib.hid hRR
                clear hRR hk0 hT2
                go_wp2_with fail
                go_ret
                exact ⟨_, rfl, HRR.out, hbE⟩
              · have hk0 : keptL (lists ps) ≠ [] := by
                  rw [← HKF.out]
                  intro h
                  exact hz (by simpa [lists] using congrArg List.length h)
                have hRR := HR.out
                rw [if_neg hk0, ← hT2] at hRR
                have hte : t.toList.isEmpty = false := by
                  cases e : t.toList.isEmpty with
                  | false => rfl
                  | true =>
                    rw [List.isEmpty_iff, ByteArray.toList_eq, hT2, ← out_join _ hk0] at e
                    cases e
                have HRR := Lib.hid hRR
                clear hRR hk0 hT2
                go_wp2_with fail
                go_ret
                exact ⟨_, rfl, HRR.out, hbE⟩
        · have h2b : (lq.toList == [46]) = false := by rw [beq_eq_false_iff_ne, ByteArray.toList_eq]; exact toList_ne h2
          by_cases h1 : lq = ⟨#[46, 46]⟩
          · subst h1
            clear hd
            go_wp2_with (refine app2 slS _ rfl (.tmp 55) (.tmp 56) rfl w1.heap.size _ _ _ rfl hown [_] 1 _ rfl rfl rfl (by intro u hu; simp at hu; subst hu; rfl) (by decide) (by omega) (by omega) (by omega) ?_; intro v2 w2 hA2 gA fA; have hbF := below_own hbw hown gA (by omega) (by omega))
            have hA : w2.ownsRow w1.heap.size 9 1 v2 ks2.length (strsV ks2) := by rw [← HK2.out, ← hk2n]; exact hA2
            clear hA2 hown hbw
            obtain ⟨wo, rfl⟩ : ∃ wo : World, wo = w2 := ⟨_, rfl⟩
            obtain ⟨a2, cap2, rfl, hnc2, hcm2, hc2⟩ := own_reads hA
            have hws := hbF.size
            have hmem : ∀ x ∈ lists ks2, x.length ≤ 1000000 := fun x hx => by
              rw [HKF.out] at hx
              rcases kpt_mem _ _ _ hx with rfl | h
              · simp
              · exact HQ.out x h
            have HM := Lib.hid hmem
            clear hmem hA
            go_loopw [7, 8] (fun ov iv wr => ∃ (i : Nat) (t : ByteArray), i ≤ ks2.length ∧ iv = .int .i64 i ∧ ov = .string t ∧ t.data.toList = outL ((lists ks2).take i) ∧ Below wo.heap.size wo wr) (fun _ iv _ => ks2.length - (intOf iv).toNat)
            case atStart => exact ⟨0, ⟨#[]⟩, Nat.zero_le _, rfl, rfl, by simp [outL], Below.refl _ _⟩
            case round =>
              obtain ⟨i, t, hi, rfl, rfl, ht, hbr⟩ := hrel
              have HT := Lib.hid ht
              have hts : t.size ≤ 1000003 * (1000000 + 1) := by
                rw [← size_len, ht]
                have := outL_len 1000000 ((lists ks2).take i) (fun x hx => HM.out x (List.mem_of_mem_take hx))
                exact Nat.le_trans this (Nat.mul_le_mul_right _ (by rw [List.length_take]; omega))
              clear ht
              by_cases hlt2 : i < ks2.length
              · rcases hc2 with ⟨rfl, h⟩ | ⟨g2, rfl, hbg, hgs, hcl⟩
                · omega
                · have d0 := (hbr.cell (p := ⟨g2, i, none⟩) hgs).trans (hcl i (.string ks2[i]) (by simp [strsV, hlt2]))
                  obtain ⟨p, hp⟩ : ∃ p, ks2[i] = p := ⟨_, rfl⟩
                  rw [hp] at d0
                  have hps : p.size ≤ 1000000 := by
                    have := HM.out p.data.toList (by rw [← hp]; exact List.mem_map_of_mem (List.getElem_mem _))
                    rwa [size_len] at this
                  have hsn := outL_snoc (lists ks2) i (by simpa [lists] using hlt2)
                  have hpe : (lists ks2)[i]'(by simpa [lists] using hlt2) = p.data.toList := by simp only [lists, List.getElem_map, hp]
                  rw [hpe] at hsn
                  have HSN := Lib.hid hsn
                  clear hsn hpe hp hcl
                  go_wp2_with fail
                  go_roundw
                  case rel => exact ⟨i + 1, t ++ (⟨#[47]⟩ ++ p), by omega, by go_num, rfl, by rw [app_list, app_list, HSN.out, HT.out]; rfl, hbr⟩
                  case measure => simp [intOf]; omega
              · have hie : i = ks2.length := by omega
                subst hie
                have hT2 : t.data.toList = outL (keptL (lists ps)) := by rw [HT.out, List.take_of_length_le (by simp [lists]), HKF.out]
                have hbE : Below w.heap.size w wr := (hb1.trans (hbF.mono hb1.size)).trans (hbr.mono (Nat.le_trans hb1.size hws))
                by_cases hz : ks2.length = 0
                · have hk0 : keptL (lists ps) = [] := by rw [← HKF.out]; exact List.eq_nil_of_length_eq_zero (by simpa [lists] using hz)
                  have hte : t.toList.isEmpty = true := by rw [List.isEmpty_iff, ByteArray.toList_eq, hT2, hk0]; rfl
                  have hRR := HR.out
                  rw [if_pos hk0] at hRR
                  have HRR := Lib.hid hRR
                  clear hRR hk0 hT2
                  go_wp2_with fail
                  go_ret
                  exact ⟨_, rfl, HRR.out, hbE⟩
                · have hk0 : keptL (lists ps) ≠ [] := by
                    rw [← HKF.out]
                    intro h
                    exact hz (by simpa [lists] using congrArg List.length h)
                  have hRR := HR.out
                  rw [if_neg hk0, ← hT2] at hRR
                  have hte : t.toList.isEmpty = false := by
                    cases e : t.toList.isEmpty with
                    | false => rfl
                    | true =>
                      rw [List.isEmpty_iff, ByteArray.toList_eq, hT2, ← out_join _ hk0] at e
                      cases e
                  have HRR := Lib.hid hRR
                  clear hRR hk0 hT2
                  go_wp2_with fail
                  go_ret
                  exact ⟨_, rfl, HRR.out, hbE⟩
          · rw [notDot _ h1 h2] at hd; cases hd
      · have hdn : isDot lq.data.toList = false := by simpa using hd
        have h2b : (lq.toList == [46]) = false := by
          rw [beq_eq_false_iff_ne, ByteArray.toList_eq]; intro e; rw [e] at hdn; cases hdn
        have h1b : (lq.toList == [46, 46]) = false := by
          rw [beq_eq_false_iff_ne, ByteArray.toList_eq]; intro e; rw [e] at hdn; cases hdn
        have hkE : lists ks = keptL (lists ps) := by rw [HKf.out, if_neg hd]; simp [lists]
        have HKF := Lib.hid hkE
        clear hkE HKf hd hdn
        have hk2l : ks.length ≤ 1000003 := by omega
        go_wp2_with fail
        have hA := hown
        have hbF := hbw
        clear hown hbw
        obtain ⟨wo, rfl⟩ : ∃ wo : World, wo = wr := ⟨_, rfl⟩
        obtain ⟨a2, cap2, rfl, hnc2, hcm2, hc2⟩ := own_reads hA
        have hws := hbF.size
        have hmem : ∀ x ∈ lists ks, x.length ≤ 1000000 := fun x hx => by
          rw [HKF.out] at hx
          rcases kpt_mem _ _ _ hx with rfl | h
          · simp
          · exact HQ.out x h
        have HM := Lib.hid hmem
        clear hmem hA
        go_loopw [7, 8] (fun ov iv wr => ∃ (i : Nat) (t : ByteArray), i ≤ ks.length ∧ iv = .int .i64 i ∧ ov = .string t ∧ t.data.toList = outL ((lists ks).take i) ∧ Below wo.heap.size wo wr) (fun _ iv _ => ks.length - (intOf iv).toNat)
        case atStart => exact ⟨0, ⟨#[]⟩, Nat.zero_le _, rfl, rfl, by simp [outL], Below.refl _ _⟩
        case round =>
          obtain ⟨i, t, hi, rfl, rfl, ht, hbr⟩ := hrel
          have HT := Lib.hid ht
          have hts : t.size ≤ 1000003 * (1000000 + 1) := by
            rw [← size_len, ht]
            have := outL_len 1000000 ((lists ks).take i) (fun x hx => HM.out x (List.mem_of_mem_take hx))
            exact Nat.le_trans this (Nat.mul_le_mul_right _ (by rw [List.length_take]; omega))
          clear ht
          by_cases hlt2 : i < ks.length
          · rcases hc2 with ⟨rfl, h⟩ | ⟨g2, rfl, hbg, hgs, hcl⟩
            · omega
            · have d0 := (hbr.cell (p := ⟨g2, i, none⟩) hgs).trans (hcl i (.string ks[i]) (by simp [strsV, hlt2]))
              obtain ⟨p, hp⟩ : ∃ p, ks[i] = p := ⟨_, rfl⟩
              rw [hp] at d0
              have hps : p.size ≤ 1000000 := by
                have := HM.out p.data.toList (by rw [← hp]; exact List.mem_map_of_mem (List.getElem_mem _))
                rwa [size_len] at this
              have hsn := outL_snoc (lists ks) i (by simpa [lists] using hlt2)
              have hpe : (lists ks)[i]'(by simpa [lists] using hlt2) = p.data.toList := by simp only [lists, List.getElem_map, hp]
              rw [hpe] at hsn
              have HSN := Lib.hid hsn
              clear hsn hpe hp hcl
              go_wp2_with fail
              go_roundw
              case rel => exact ⟨i + 1, t ++ (⟨#[47]⟩ ++ p), by omega, by go_num, rfl, by rw [app_list, app_list, HSN.out, HT.out]; rfl, hbr⟩
              case measure => simp [intOf]; omega
          · have hie : i = ks.length := by omega
            subst hie
            have hT2 : t.data.toList = outL (keptL (lists ps)) := by rw [HT.out, List.take_of_length_le (by simp [lists]), HKF.out]
            have hbE : Below w.heap.size w wr := (hb1.trans (hbF.mono hb1.size)).trans (hbr.mono (Nat.le_trans hb1.size hws))
            by_cases hz : ks.length = 0
            · have hk0 : keptL (lists ps) = [] := by rw [← HKF.out]; exact List.eq_nil_of_length_eq_zero (by simpa [lists] using hz)
              have hte : t.toList.isEmpty = true := by rw [List.isEmpty_iff, ByteArray.toList_eq, hT2, hk0]; rfl
              have hRR := HR.out
              rw [if_pos hk0] at hRR
              have HRR := Lib.hid hRR
              clear hRR hk0 hT2
              go_wp2_with fail
              go_ret
              exact ⟨_, rfl, HRR.out, hbE⟩
            · have hk0 : keptL (lists ps) ≠ [] := by
                rw [← HKF.out]
                intro h
                exact hz (by simpa [lists] using congrArg List.length h)
              have hRR := HR.out
              rw [if_neg hk0, ← hT2] at hRR
              have hte : t.toList.isEmpty = false := by
                cases e : t.toList.isEmpty with
                | false => rfl
                | true =>
                  rw [List.isEmpty_iff, ByteArray.toList_eq, hT2, ← out_join _ hk0] at e
                  cases e
              have HRR := Lib.hid hRR
              clear hRR hk0 hT2
              go_wp2_with fail
              go_ret
              exact ⟨_, rfl, HRR.out, hbE⟩
set_option maxRecDepth 20000 in
set_option maxHeartbeats 4000000 in
theorem rcleanB (s : ByteArray) (w : World) (R : List UInt8) (hC : Calls Tryz.prog 205 #[.string s, .int .u8 47] w fun e w1 => RowB w w1 e R) :
    Calls Tryz.prog 145 #[.string s] w fun e w' => ∃ t : ByteArray, e = .returned (.string t) ∧ t.data.toList = R ∧ Below w.heap.size w w' := by
  unfold RowB at hC
  have S := Lib.hid hC
  clear hC
  go_enter Tryz.func145, Tryz.ntmps145
  go_wp2_with (go_at_call 205; with_reducible refine S.out.mono ?_; rintro e w1' ⟨g, cap, p0, ps, rfl, hlen, HQ, hE, hcap2, hg, hg1, hcap, hcm, HC, c0, hb1, HR⟩)
  obtain ⟨w1, rfl⟩ : ∃ w1 : World, w1 = w1' := ⟨_, rfl⟩
  go_loopw [4, 5, 6] (fun v lv iv wr => ∃ (k : Nat) (ks : List ByteArray), k ≤ ((p0::ps)).length ∧ iv = .int .i64 k ∧ lv = .string (lastK (p0::ps) k) ∧ wr.ownsRow w1.heap.size 9 1 v ks.length (strsV ks) ∧ lists ks = foldK (lists (p0::ps)) k ∧ ks.length ≤ k ∧ Below w1.heap.size w1 wr) (fun _ _ iv _ => ((p0::ps)).length - (intOf iv).toNat)
  case atStart => exact ⟨0, [], Nat.zero_le _, rfl, rfl, World.ownsRow_nil _ _ _ _, rfl, Nat.zero_le _, Below.refl _ _⟩
  case round =>
    obtain ⟨k, ks, hk, rfl, rfl, hown, hks, hkl, hbw⟩ := hrel
    have hwz := hbw.size
    by_cases hlt : k < ((p0::ps)).length
    · have d0 := (hbw.cell (p := ⟨g, 0 + k, none⟩) hg1).trans (HC.out k hlt)
      have hLS := lastK_succ (p0::ps) k hlt
      obtain ⟨p, hp⟩ : ∃ p, ((p0::ps))[k] = p := ⟨_, rfl⟩
      have hsu := foldK_succ (lists (p0::ps)) k (by simpa [lists] using hlt)
      have hpe : (lists (p0::ps))[k]'(by simpa [lists] using hlt) = p.data.toList := by simp only [lists, List.getElem_map, hp]
      rw [hpe, ← hks] at hsu
      rw [hp] at d0 hLS
      have HS := Lib.hid hsu
      have HLS := Lib.hid hLS
      clear hsu hpe hp hks hLS
      obtain ⟨lq, hlq⟩ : ∃ q, lastK (p0::ps) k = q := ⟨_, rfl⟩
      rw [hlq]
      clear hlq
      try simp only [List.length_cons, Nat.zero_add] at hlt d0 hk
      by_cases h1 : p = ⟨#[46, 46]⟩
      · subst h1
        have KN : foldK (lists (p0::ps)) (k + 1) = (lists ks).dropLast := by rw [HS.out]; rfl
        have HN := Lib.hid KN
        clear KN HS
        rcases own_shape hown with ⟨rfl, hk0, hx0⟩ | ⟨gk, capk, rfl, hcapk, hcmk⟩
        · obtain rfl : ks = [] := List.eq_nil_of_length_eq_zero hk0
          go_wp2_with fail
          go_roundw
          case rel => exact ⟨k + 1, [], by (try simp only [List.length_cons]); omega, by go_num, by rw [HLS.out], World.ownsRow_nil _ _ _ _, by rw [HN.out]; rfl, by simp, hbw⟩
          case measure => simp [intOf]; omega
        · by_cases hz : ks.length = 0
          · obtain rfl : ks = [] := List.eq_nil_of_length_eq_zero hz
            go_wp2_with fail
            go_roundw
            case rel => exact ⟨k + 1, [], by (try simp only [List.length_cons]); omega, by go_num, by rw [HLS.out], hown, by rw [HN.out]; rfl, by simp, hbw⟩
            case measure => simp [intOf]; omega
          · have hm0 : ((ks.length : Int) - 1).toNat = ks.length - 1 := by omega
            have hzp : (0 : Int) < (ks.length : Int) := by omega
            have hown2 := own_shrink hown (ks.length - 1) (by omega)
            go_wp2_with fail
            go_roundw
            case rel => exact ⟨k + 1, ks.dropLast, by (try simp only [List.length_cons]); omega, by go_num, by rw [HLS.out], by rw [List.dropLast_eq_take]; simpa [strsV] using hown2, by rw [HN.out]; simp [lists], by simp; omega, hbw⟩
            case measure => simp [intOf]; omega
      · have h1b : (p.toList == [46, 46]) = false := by rw [beq_eq_false_iff_ne, ByteArray.toList_eq]; exact toList_ne h1
        by_cases h2 : p = ⟨#[46]⟩
        · subst h2
          have KN : foldK (lists (p0::ps)) (k + 1) = lists ks := by rw [HS.out]; rfl
          have HN := Lib.hid KN
          clear KN HS
          go_wp2_with fail
          go_roundw
          case rel => exact ⟨k + 1, ks, by (try simp only [List.length_cons]); omega, by go_num, by rw [HLS.out], hown, by rw [HN.out], by omega, hbw⟩
          case measure => simp [intOf]; omega
        · have h2b : (p.toList == [46]) = false := by rw [beq_eq_false_iff_ne, ByteArray.toList_eq]; exact toList_ne h2
          have KN : foldK (lists (p0::ps)) (k + 1) = lists ks ++ [p.data.toList] := by rw [HS.out, kstep_other _ _ h1 h2]
          have HN := Lib.hid KN
          clear KN HS
          go_wp2_with (refine app2 slS _ rfl (.tmp 45) (.tmp 47) rfl w1.heap.size _ _ _ rfl hown [_] 1 _ rfl rfl rfl (by intro u hu; simp at hu; subst hu; rfl) (by decide) (by omega) (by omega) (by omega) ?_; intro v2 w2 hA2 gA fA; have hB2 := below_own hbw hown gA (by omega) (by omega))
          go_roundw
          case rel => exact ⟨k + 1, ks ++ [p], by (try simp only [List.length_cons]); omega, by go_num, by rw [HLS.out], by simpa [strsV] using hA2, by rw [HN.out]; simp [lists], by simp; omega, hB2⟩
          case measure => simp [intOf]; omega
    · have hkk : k = ((p0::ps)).length := by omega
      subst hkk
      have hdot := lastK_dot (p0::ps)
      have hkf := keptL_fold (lists (p0::ps))
      rw [hdot, show (lists (p0::ps)).length = ((p0::ps)).length by simp [lists], ← hks] at hkf
      obtain ⟨lq, hlq⟩ : ∃ q, lastK (p0::ps) ((p0::ps)).length = q := ⟨_, rfl⟩
      rw [hlq] at hkf ⊢
      have HKf := Lib.hid hkf
      clear hdot hkf hlq hks
      try simp only [List.length_cons, Nat.zero_add] at hlt hk hkl
      by_cases hd : isDot lq.data.toList = true
      · have hkE : lists (ks ++ [⟨#[]⟩]) = keptL (lists (p0::ps)) := by rw [HKf.out, if_pos hd]; simp [lists]
        have HKF0 := Lib.hid hkE
        clear hkE HKf
        obtain ⟨ks2, hk2⟩ : ∃ ks2, ks ++ [⟨#[]⟩] = ks2 := ⟨_, rfl⟩
        rw [hk2] at HKF0
        have HKF := HKF0
        have hk2l : ks2.length ≤ 1000003 := by rw [← hk2]; simp; omega
        have hk2n : ks.length + 1 = ks2.length := by rw [← hk2]; simp
        have hk2s : strsV ks ++ [Value.string ⟨#[]⟩] = strsV ks2 := by rw [← hk2]; simp [strsV]
        clear HKF0 hk2
        have HK2 := Lib.hid hk2s
        clear hk2s
        by_cases h2 : lq = ⟨#[46]⟩
        · subst h2
          clear hd
          go_wp2_with (refine app2 slS _ rfl (.tmp 55) (.tmp 56) rfl w1.heap.size _ _ _ rfl hown [_] 1 _ rfl rfl rfl (by intro u hu; simp at hu; subst hu; rfl) (by decide) (by omega) (by omega) (by omega) ?_; intro v2 w2 hA2 gA fA; have hbF := below_own hbw hown gA (by omega) (by omega))
          have hA : w2.ownsRow w1.heap.size 9 1 v2 ks2.length (strsV ks2) := by rw [← HK2.out, ← hk2n]; exact hA2
          clear hA2 hown hbw
          obtain ⟨wo, rfl⟩ : ∃ wo : World, wo = w2 := ⟨_, rfl⟩
          obtain ⟨a2, cap2, rfl, hnc2, hcm2, hc2⟩ := own_reads hA
          have hws := hbF.size
          have hmem : ∀ x ∈ lists ks2, x.length ≤ 1000000 := fun x hx => by
            rw [HKF.out] at hx
            rcases kpt_mem _ _ _ hx with rfl | h
            · simp
            · exact HQ.out x h
          have HM := Lib.hid hmem
          clear hmem hA
          go_loopw [7, 8] (fun ov iv wr => ∃ (i : Nat) (t : ByteArray), i ≤ ks2.length ∧ iv = .int .i64 i ∧ ov = .string t ∧ t.data.toList = outL ((lists ks2).take i) ∧ Below wo.heap.size wo wr) (fun _ iv _ => ks2.length - (intOf iv).toNat)
          case atStart => exact ⟨0, ⟨#[]⟩, Nat.zero_le _, rfl, rfl, by simp [outL], Below.refl _ _⟩
          case round =>
            obtain ⟨i, t, hi, rfl, rfl, ht, hbr⟩ := hrel
            have HT := Lib.hid ht
            have hts : t.size ≤ 1000003 * (1000000 + 1) := by
              rw [← size_len, ht]
              have := outL_len 1000000 ((lists ks2).take i) (fun x hx => HM.out x (List.mem_of_mem_take hx))
              exact Nat.le_trans this (Nat.mul_le_mul_right _ (by rw [List.length_take]; omega))
            clear ht
            by_cases hlt2 : i < ks2.length
            · rcases hc2 with ⟨rfl, h⟩ | ⟨g2, rfl, hbg, hgs, hcl⟩
              · omega
              · have d0 := (hbr.cell (p := ⟨g2, i, none⟩) hgs).trans (hcl i (.string ks2[i]) (by simp [strsV, hlt2]))
                obtain ⟨p, hp⟩ : ∃ p, ks2[i] = p := ⟨_, rfl⟩
                rw [hp] at d0
                have hps : p.size ≤ 1000000 := by
                  have := HM.out p.data.toList (by rw [← hp]; exact List.mem_map_of_mem (List.getElem_mem _))
                  rwa [size_len] at this
                have hsn := outL_snoc (lists ks2) i (by simpa [lists] using hlt2)
                have hpe : (lists ks2)[i]'(by simpa [lists] using hlt2) = p.data.toList := by simp only [lists, List.getElem_map, hp]
                rw [hpe] at hsn
                have HSN := Lib.hid hsn
                clear hsn hpe hp hcl
                go_wp2_with fail
                go_roundw
                case rel => exact ⟨i + 1, t ++ (⟨#[47]⟩ ++ p), by omega, by go_num, rfl, by rw [app_list, app_list, HSN.out, HT.out]; rfl, hbr⟩
                case measure => simp [intOf]; omega
            · have hie : i = ks2.length := by omega
              subst hie
              have hT2 : t.data.toList = outL (keptL (lists (p0::ps))) := by rw [HT.out, List.take_of_length_le (by simp [lists]), HKF.out]
              have hbE : Below w.heap.size w wr := (hb1.trans (hbF.mono hb1.size)).trans (hbr.mono (Nat.le_trans hb1.size hws))
              by_cases hz : ks2.length = 0
              · have hk0 : keptL (lists (p0::ps)) = [] := by rw [← HKF.out]; exact List.eq_nil_of_length_eq_zero (by simpa [lists] using hz)
                have hte : t.toList.isEmpty = true := by rw [List.isEmpty_iff, ByteArray.toList_eq, hT2, hk0]; rfl
                have hRR := HR.out
                rw [if_pos hk0] at hRR
                have HRR := Lib.hid hRR
                clear hRR hk0 hT2
                go_wp2_with fail
                go_ret
                exact ⟨_, rfl, HRR.out, hbE⟩
              · have hk0 : keptL (lists (p0::ps)) ≠ [] := by
                  rw [← HKF.out]
                  intro h
                  exact hz (by simpa [lists] using congrArg List.length h)
                have hRR := HR.out
                rw [if_neg hk0, ← hT2] at hRR
                have hte : t.toList.isEmpty = false := by
                  cases e : t.toList.isEmpty with
                  | false => rfl
                  | true =>
                    rw [List.isEmpty_iff, ByteArray.toList_eq, hT2, ← out_join _ hk0] at e
                    cases e
                have HRR := Lib.hid hRR
                clear hRR hk0 hT2
                go_wp2_with fail
                go_ret
                exact ⟨_, rfl, HRR.out, hbE⟩
        · have h2b : (lq.toList == [46]) = false := by rw [beq_eq_false_iff_ne, ByteArray.toList_eq]; exact toList_ne h2
          by_cases h1 : lq = ⟨#[46, 46]⟩
          · subst h1
            clear hd
            go_wp2_with (refine app2 slS _ rfl (.tmp 55) (.tmp 56) rfl w1.heap.size _ _ _ rfl hown [_] 1 _ rfl rfl rfl (by intro u hu; simp at hu; subst hu; rfl) (by decide) (by omega) (by omega) (by omega) ?_; intro v2 w2 hA2 gA fA; have hbF := below_own hbw hown gA (by omega) (by omega))
            have hA : w2.ownsRow w1.heap.size 9 1 v2 ks2.length (strsV ks2) := by rw [← HK2.out, ← hk2n]; exact hA2
            clear hA2 hown hbw
            obtain ⟨wo, rfl⟩ : ∃ wo : World, wo = w2 := ⟨_, rfl⟩
            obtain ⟨a2, cap2, rfl, hnc2, hcm2, hc2⟩ := own_reads hA
            have hws := hbF.size
            have hmem : ∀ x ∈ lists ks2, x.length ≤ 1000000 := fun x hx => by
              rw [HKF.out] at hx
              rcases kpt_mem _ _ _ hx with rfl | h
              · simp
              · exact HQ.out x h
            have HM := Lib.hid hmem
            clear hmem hA
            go_loopw [7, 8] (fun ov iv wr => ∃ (i : Nat) (t : ByteArray), i ≤ ks2.length ∧ iv = .int .i64 i ∧ ov = .string t ∧ t.data.toList = outL ((lists ks2).take i) ∧ Below wo.heap.size wo wr) (fun _ iv _ => ks2.length - (intOf iv).toNat)
            case atStart => exact ⟨0, ⟨#[]⟩, Nat.zero_le _, rfl, rfl, by simp [outL], Below.refl _ _⟩
            case round =>
              obtain ⟨i, t, hi, rfl, rfl, ht, hbr⟩ := hrel
              have HT := Lib.hid ht
              have hts : t.size ≤ 1000003 * (1000000 + 1) := by
                rw [← size_len, ht]
                have := outL_len 1000000 ((lists ks2).take i) (fun x hx => HM.out x (List.mem_of_mem_take hx))
                exact Nat.le_trans this (Nat.mul_le_mul_right _ (by rw [List.length_take]; omega))
              clear ht
              by_cases hlt2 : i < ks2.length
              · rcases hc2 with ⟨rfl, h⟩ | ⟨g2, rfl, hbg, hgs, hcl⟩
                · omega
                · have d0 := (hbr.cell (p := ⟨g2, i, none⟩) hgs).trans (hcl i (.string ks2[i]) (by simp [strsV, hlt2]))
                  obtain ⟨p, hp⟩ : ∃ p, ks2[i] = p := ⟨_, rfl⟩
                  rw [hp] at d0
                  have hps : p.size ≤ 1000000 := by
                    have := HM.out p.data.toList (by rw [← hp]; exact List.mem_map_of_mem (List.getElem_mem _))
                    rwa [size_len] at this
                  have hsn := outL_snoc (lists ks2) i (by simpa [lists] using hlt2)
                  have hpe : (lists ks2)[i]'(by simpa [lists] using hlt2) = p.data.toList := by simp only [lists, List.getElem_map, hp]
                  rw [hpe] at hsn
                  have HSN := Lib.hid hsn
                  clear hsn hpe hp hcl
                  go_wp2_with fail
                  go_roundw
                  case rel => exact ⟨i + 1, t ++ (⟨#[47]⟩ ++ p), by omega, by go_num, rfl, by rw [app_list, app_list, HSN.out, HT.out]; rfl, hbr⟩
                  case measure => simp [intOf]; omega
              · have hie : i = ks2.length := by omega
                subst hie
                have hT2 : t.data.toList = outL (keptL (lists (p0::ps))) := by rw [HT.out, List.take_of_length_le (by simp [lists]), HKF.out]
                have hbE : Below w.heap.size w wr := (hb1.trans (hbF.mono hb1.size)).trans (hbr.mono (Nat.le_trans hb1.size hws))
                by_cases hz : ks2.length = 0
                · have hk0 : keptL (lists (p0::ps)) = [] := by rw [← HKF.out]; exact List.eq_nil_of_length_eq_zero (by simpa [lists] using hz)
                  have hte : t.toList.isEmpty = true := by rw [List.isEmpty_iff, ByteArray.toList_eq, hT2, hk0]; rfl
                  have hRR := HR.out
                  rw [if_pos hk0] at hRR
                  have HRR := Lib.hid hRR
                  clear hRR hk0 hT2
                  go_wp2_with fail
                  go_ret
                  exact ⟨_, rfl, HRR.out, hbE⟩
                · have hk0 : keptL (lists (p0::ps)) ≠ [] := by
                    rw [← HKF.out]
                    intro h
                    exact hz (by simpa [lists] using congrArg List.length h)
                  have hRR := HR.out
                  rw [if_neg hk0, ← hT2] at hRR
                  have hte : t.toList.isEmpty = false := by
                    cases e : t.toList.isEmpty with
                    | false => rfl
                    | true =>
                      rw [List.isEmpty_iff, ByteArray.toList_eq, hT2, ← out_join _ hk0] at e
                      cases e
                  have HRR := Lib.hid hRR
                  clear hRR hk0 hT2
                  go_wp2_with fail
                  go_ret
                  exact ⟨_, rfl, HRR.out, hbE⟩
          · rw [notDot _ h1 h2] at hd; cases hd
      · have hdn : isDot lq.data.toList = false := by simpa using hd
        have h2b : (lq.toList == [46]) = false := by
          rw [beq_eq_false_iff_ne, ByteArray.toList_eq]; intro e; rw [e] at hdn; cases hdn
        have h1b : (lq.toList == [46, 46]) = false := by
          rw [beq_eq_false_iff_ne, ByteArray.toList_eq]; intro e; rw [e] at hdn; cases hdn
        have hkE : lists ks = keptL (lists (p0::ps)) := by rw [HKf.out, if_neg hd]; simp [lists]
        have HKF := Lib.hid hkE
        clear hkE HKf hd hdn
        have hk2l : ks.length ≤ 1000003 := by omega
        go_wp2_with fail
        have hA := hown
        have hbF := hbw
        clear hown hbw
        obtain ⟨wo, rfl⟩ : ∃ wo : World, wo = wr := ⟨_, rfl⟩
        obtain ⟨a2, cap2, rfl, hnc2, hcm2, hc2⟩ := own_reads hA
        have hws := hbF.size
        have hmem : ∀ x ∈ lists ks, x.length ≤ 1000000 := fun x hx => by
          rw [HKF.out] at hx
          rcases kpt_mem _ _ _ hx with rfl | h
          · simp
          · exact HQ.out x h
        have HM := Lib.hid hmem
        clear hmem hA
        go_loopw [7, 8] (fun ov iv wr => ∃ (i : Nat) (t : ByteArray), i ≤ ks.length ∧ iv = .int .i64 i ∧ ov = .string t ∧ t.data.toList = outL ((lists ks).take i) ∧ Below wo.heap.size wo wr) (fun _ iv _ => ks.length - (intOf iv).toNat)
        case atStart => exact ⟨0, ⟨#[]⟩, Nat.zero_le _, rfl, rfl, by simp [outL], Below.refl _ _⟩
        case round =>
          obtain ⟨i, t, hi, rfl, rfl, ht, hbr⟩ := hrel
          have HT := Lib.hid ht
          have hts : t.size ≤ 1000003 * (1000000 + 1) := by
            rw [← size_len, ht]
            have := outL_len 1000000 ((lists ks).take i) (fun x hx => HM.out x (List.mem_of_mem_take hx))
            exact Nat.le_trans this (Nat.mul_le_mul_right _ (by rw [List.length_take]; omega))
          clear ht
          by_cases hlt2 : i < ks.length
          · rcases hc2 with ⟨rfl, h⟩ | ⟨g2, rfl, hbg, hgs, hcl⟩
            · omega
            · have d0 := (hbr.cell (p := ⟨g2, i, none⟩) hgs).trans (hcl i (.string ks[i]) (by simp [strsV, hlt2]))
              obtain ⟨p, hp⟩ : ∃ p, ks[i] = p := ⟨_, rfl⟩
              rw [hp] at d0
              have hps : p.size ≤ 1000000 := by
                have := HM.out p.data.toList (by rw [← hp]; exact List.mem_map_of_mem (List.getElem_mem _))
                rwa [size_len] at this
              have hsn := outL_snoc (lists ks) i (by simpa [lists] using hlt2)
              have hpe : (lists ks)[i]'(by simpa [lists] using hlt2) = p.data.toList := by simp only [lists, List.getElem_map, hp]
              rw [hpe] at hsn
              have HSN := Lib.hid hsn
              clear hsn hpe hp hcl
              go_wp2_with fail
              go_roundw
              case rel => exact ⟨i + 1, t ++ (⟨#[47]⟩ ++ p), by omega, by go_num, rfl, by rw [app_list, app_list, HSN.out, HT.out]; rfl, hbr⟩
              case measure => simp [intOf]; omega
          · have hie : i = ks.length := by omega
            subst hie
            have hT2 : t.data.toList = outL (keptL (lists (p0::ps))) := by rw [HT.out, List.take_of_length_le (by simp [lists]), HKF.out]
            have hbE : Below w.heap.size w wr := (hb1.trans (hbF.mono hb1.size)).trans (hbr.mono (Nat.le_trans hb1.size hws))
            by_cases hz : ks.length = 0
            · have hk0 : keptL (lists (p0::ps)) = [] := by rw [← HKF.out]; exact List.eq_nil_of_length_eq_zero (by simpa [lists] using hz)
              have hte : t.toList.isEmpty = true := by rw [List.isEmpty_iff, ByteArray.toList_eq, hT2, hk0]; rfl
              have hRR := HR.out
              rw [if_pos hk0] at hRR
              have HRR := Lib.hid hRR
              clear hRR hk0 hT2
              go_wp2_with fail
              go_ret
              exact ⟨_, rfl, HRR.out, hbE⟩
            · have hk0 : keptL (lists (p0::ps)) ≠ [] := by
                rw [← HKF.out]
                intro h
                exact hz (by simpa [lists] using congrArg List.length h)
              have hRR := HR.out
              rw [if_neg hk0, ← hT2] at hRR
              have hte : t.toList.isEmpty = false := by
                cases e : t.toList.isEmpty with
                | false => rfl
                | true =>
                  rw [List.isEmpty_iff, ByteArray.toList_eq, hT2, ← out_join _ hk0] at e
                  cases e
              have HRR := Lib.hid hRR
              clear hRR hk0 hT2
              go_wp2_with fail
              go_ret
              exact ⟨_, rfl, HRR.out, hbE⟩
end Go.Proofs.YtjdhaacmlpegoaaGreatDoor
