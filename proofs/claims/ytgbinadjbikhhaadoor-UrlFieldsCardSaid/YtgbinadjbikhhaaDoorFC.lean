/- url.Fields: the fields of a query. -/
import Derived.Test.YtgbinadjbikhhaaDoorFB
namespace Go.Proofs.YtgbinadjbikhhaaDoor
set_option linter.unusedVariables false
set_option linter.unusedSimpArgs false
open Go.RowKit

/-- what the code takes of one part -/
theorem part_bytes (p : ByteArray) : ∃ P A B X Y : ByteArray, P.data.toList = subL 43 32 p.data.toList ∧ A.data.toList = pre 61 P.data.toList ∧ B.data.toList = post 61 P.data.toList ∧ X.data.toList = unescL A.data.toList ∧ Y.data.toList = unescL B.data.toList ∧ (X.data.toList, Y.data.toList) = fieldOf p.data.toList ∧ P.size = p.size ∧ A.size ≤ p.size ∧ B.size ≤ p.size := by
  refine ⟨⟨(subL 43 32 p.data.toList).toArray⟩, ⟨(pre 61 (subL 43 32 p.data.toList)).toArray⟩, ⟨(post 61 (subL 43 32 p.data.toList)).toArray⟩, ⟨(unescL (pre 61 (subL 43 32 p.data.toList))).toArray⟩, ⟨(unescL (post 61 (subL 43 32 p.data.toList))).toArray⟩, rfl, rfl, rfl, rfl, rfl, ?_, ?_, ?_, ?_⟩
  · obtain ⟨h1, h2⟩ := pre_sub 43 32 61 (by decide) (by decide) p.data.toList
    unfold fieldOf
    rw [← h1, ← h2]
  · show (subL 43 32 p.data.toList).toArray.size = _
    rw [List.size_toArray, sub_len, size_len]
  · show (pre 61 (subL 43 32 p.data.toList)).toArray.size ≤ _
    rw [List.size_toArray]
    have := pre_le 61 (subL 43 32 p.data.toList)
    rw [sub_len, size_len] at this; exact this
  · show (post 61 (subL 43 32 p.data.toList)).toArray.size ≤ _
    rw [List.size_toArray]
    have := post_le 61 (subL 43 32 p.data.toList)
    rw [sub_len, size_len] at this; exact this
set_option maxRecDepth 20000 in
set_option maxHeartbeats 4000000 in
theorem fields_any (s : ByteArray) (w : World) (hs : s.size ≤ 1000000) (hM : MaxAt w) :
    Calls Tryd.prog 38 #[.string s] w fun e w' => ∃ v fs, e = .returned v ∧ w'.ownsRow w.heap.size 51 2 v fs.length (attrsV fs) ∧ flds fs = fieldsL s.data.toList ∧ Below w.heap.size w w' := by
  have hM2 := hM
  obtain ⟨m, hm⟩ := hM2
  have cS := Tryd.strings_Split s ⟨#[38]⟩ m w (by omega) hm (by decide)
  have hsg := split_segs 38 _ s rfl
  obtain ⟨l, hl⟩ : ∃ l, Lib.splitB ⟨#[38]⟩ 0 (Lib.countB s ⟨#[38]⟩) s = l := ⟨_, rfl⟩
  have hsl := Lib.splitB_all ⟨#[38]⟩ (by decide) 0 (Lib.countB s ⟨#[38]⟩) s rfl
  rw [hl] at cS hsg hsl
  rw [← hsl] at cS
  have hN : l.length ≤ 1000001 := by
    have h1 := congrArg List.length hsg
    rw [List.length_map] at h1
    have h2 := segs_count 38 s.data.toList
    rw [size_len] at h2
    omega
  have hseg : lists l = segs 38 s.data.toList := hsg
  have hmx : ∀ k (h : k < l.length), l[k].size ≤ 1000000 := fun k h => by
    have : l[k].data.toList ∈ segs 38 s.data.toList := by rw [← hseg]; exact List.mem_map_of_mem (List.getElem_mem h)
    have := segs_len 38 _ _ this
    rw [size_len, size_len] at this
    omega
  obtain ⟨R, hR⟩ : ∃ R, fieldsL s.data.toList = R := ⟨_, rfl⟩
  rw [hR]
  have HR : Hid (fldK (lists l) l.length = R) := Lib.hid (by
    rw [← hR, fieldsL, ← hseg, fldK, List.take_of_length_le (by simp [lists])])
  have HX := Lib.hid hmx
  have S := Lib.hid cS
  clear cS hsg hl hsl hseg hmx hR
  go_enter Tryd.func38, Tryd.ntmps38
  go_wp2_with (go_at_call 54; with_reducible refine S.out.mono ?_; rintro e w1 ⟨rfl, rfl⟩)
  obtain ⟨wA, hwA⟩ : ∃ wA, w.alloc (.cells (l.map Value.string).toArray 9) = wA := ⟨_, rfl⟩
  have hA : wA.heap.size = w.heap.size + 1 := by rw [← hwA]; simp
  have hAB : Below w.heap.size w wA := by rw [← hwA]; exact (Below.refl _ w).alloc (Nat.le_refl _) _
  have hMA := hM.below hAB (Nat.le_refl _)
  have hcell : ∀ j (h : j < l.length), wA.cell? ⟨w.heap.size, j, none⟩ = some (.string l[j]) := fun j h => by
    rw [← hwA]
    have := cells_new w (l.map Value.string) 9 j (.string l[j]) (by rw [List.getElem?_map, List.getElem?_eq_getElem h]; rfl)
    rwa [show (⟨w.heap.size, 0, none⟩ : Addr).add j = ⟨w.heap.size, j, none⟩ by unfold Addr.add; split <;> simp_all] at this
  rw [hwA]
  clear hwA
  have hB1 : w.heap.size + 1 ≤ wA.heap.size := by omega
  have HC := Lib.hid hcell
  clear hcell
  go_loopw [3, 12] (fun v iv wr => ∃ (k : Nat) (fs : List BFld), k ≤ l.length ∧ iv = .int .i64 k ∧ wr.ownsRow (w.heap.size + 1) 51 2 v fs.length (attrsV fs) ∧ flds fs = fldK (lists l) k ∧ fs.length ≤ k ∧ Below (w.heap.size + 1) wA wr) (fun _ iv _ => l.length - (intOf iv).toNat)
  case atStart => exact ⟨0, [], Nat.zero_le _, rfl, World.ownsRow_nil _ _ _ _, rfl, Nat.le_refl _, Below.refl _ _⟩
  case round =>
    obtain ⟨k, fs, hk, rfl, hown, hfs, hfl, hbw⟩ := hrel
    have hwz := hbw.size
    have hMr := hMA.below hbw (by omega)
    have HF := Lib.hid hfs
    clear hfs
    by_cases hlt : k < l.length
    · have c0 := (hbw.cell (p := ⟨w.heap.size, k, none⟩) (Nat.lt_succ_self _)).trans (HC.out k hlt)
      have hps := HX.out k hlt
      have hsu := fldK_succ (lists l) k (by simpa [lists] using hlt)
      have hpe : (lists l)[k]'(by simpa [lists] using hlt) = l[k].data.toList := by simp [lists]
      rw [hpe] at hsu
      obtain ⟨p, hp⟩ : ∃ p, l[k] = p := ⟨_, rfl⟩
      rw [hp] at c0 hps hsu
      have hki : (k : Int) < (l.length : Int) := by omega
      clear hp hpe
      by_cases h0 : p.size = 0
      · have hE := empty_of p h0
        have HS := Lib.hid (show fldK (lists l) (k + 1) = fldK (lists l) k by
          rw [hsu, show p.data.toList = [] from List.eq_nil_of_length_eq_zero (by rw [size_len]; exact h0)]; simp)
        clear hsu h0
        go_wp2_with fail
        go_roundw
        case rel => exact ⟨k + 1, fs, by omega, by go_num, hown, by rw [HF.out, HS.out], by omega, hbw⟩
        case measure => simp [intOf]; omega
      · have hE := nonempty_of p (by omega)
        obtain ⟨P, A, B, X, Y, hP, hPA, hPB, hX, hY, hF, hz1, hz2, hz3⟩ := part_bytes p
        have HS := Lib.hid (show fldK (lists l) (k + 1) = fldK (lists l) k ++ [(X.data.toList, Y.data.toList)] by
          rw [hsu, hF]
          have : p.data.toList.isEmpty = false := by
            cases e : p.data.toList with
            | nil => exact absurd (by rw [← size_len, e]; rfl) h0
            | cons x r => rfl
          rw [this]; rfl)
        have C1 := Lib.hid (fun w hM => repl_any p 43 32 (by decide) w (by omega) hM P hP)
        have C2 := Lib.hid (fun w hM => cut_is P 61 w (by omega) hM A B hPA hPB)
        have C3 := Lib.hid (fun w => unesc_is A w (by omega) X hX)
        have C4 := Lib.hid (fun w => unesc_is B w (by omega) Y hY)
        clear hsu h0 hP hPA hPB hX hY hF
        go_wp2_with (first
          | (go_at_call 67; with_reducible refine (C1.out _ hMr).mono ?_; rintro e w1 ⟨rfl, hb1⟩; have hM1 := hMr.below hb1 (Nat.le_refl _); have ho1 := own_below hown hb1 (Nat.le_refl _); have hB2 := hbw.trans (hb1.mono (by omega)))
          | (go_at_call 42; with_reducible refine (C2.out _ hM1).mono ?_; rintro e w2 ⟨rfl, hb2⟩; have ho2 := own_below ho1 hb2 (Nat.le_refl _); have hz2 := hB2.size; have hB3 := hB2.trans (hb2.mono (by omega)))
          | (go_at_call 24; with_reducible refine (C3.out _).mono ?_; rintro e w3 ⟨rfl, hb3⟩; have ho3 := own_below ho2 hb3 (Nat.le_refl _); have hz3 := hB3.size; have hB4 := hB3.trans (hb3.mono (by omega)))
          | (go_at_call 24; with_reducible refine (C4.out _).mono ?_; rintro e w4 ⟨rfl, hb4⟩; have ho4 := own_below ho3 hb4 (Nat.le_refl _); have hz4 := hB4.size; have hB5 := hB4.trans (hb4.mono (by omega)); have hz5 := hB5.size)
          | (refine app2 slA _ rfl (.tmp 26) (.tmp 32) rfl (w.heap.size + 1) _ _ _ rfl ho4 [_, _] 1 _ rfl rfl rfl (by intro u hu; simp at hu; rcases hu with rfl | rfl <;> rfl) (by decide) (by omega) (by omega) (by omega) ?_; intro v2 w5 hA2 gA fA; have hB6 := below_own hB5 ho4 gA (by omega) (by omega)))
        go_roundw
        case rel => exact ⟨k + 1, fs ++ [(X, Y)], by omega, by go_num, by rw [attrs_app]; simpa using hA2, by rw [HS.out, ← HF.out]; simp [flds], by simp; omega, hB6⟩
        case measure => simp [intOf]; omega
    · obtain rfl : k = l.length := by omega
      go_wp2_with fail
      go_ret
      exact ⟨_, fs, rfl, own_mono hown (by omega), by rw [HF.out, HR.out], hAB.trans (hbw.mono (by omega))⟩
end Go.Proofs.YtgbinadjbikhhaaDoor
