/- UrlFields: the law where the texts are short and the fields few. -/
import Derived.Test.YtgbinadjbikhhaaDoorFF
import Derived.OneCell
namespace Go.Proofs.YtgbinadjbikhhaaDoor
set_option linter.unusedVariables false
set_option linter.unusedSimpArgs false
open Go.RowKit

/-- two strings that may be written -/
def At2 (W : World) (k : Nat) (a b : Value) : Prop := k < W.heap.size ∧ W.cell? ⟨k, 0, none⟩ = some a ∧ W.cell? ⟨k, 1, none⟩ = some b ∧ W.frozen? ⟨k, 0, none⟩ = false ∧ W.frozen? ⟨k, 1, none⟩ = false
theorem At2.out {W : World} {k : Nat} {a b : Value} (h : At2 W k a b) : k < W.heap.size ∧ W.cell? ⟨k, 0, none⟩ = some a ∧ W.cell? ⟨k, 1, none⟩ = some b ∧ W.frozen? ⟨k, 0, none⟩ = false ∧ W.frozen? ⟨k, 1, none⟩ = false := h
theorem At2.below {W W' : World} {k n : Nat} {a b : Value} (h : At2 W k a b) (hb : Below n W W') (hk : k < n) : At2 W' k a b :=
  ⟨Nat.lt_of_lt_of_le h.1 hb.size, (hb.cell (p := ⟨k, 0, none⟩) hk).trans h.2.1, (hb.cell (p := ⟨k, 1, none⟩) hk).trans h.2.2.1, (hb.frozen (p := ⟨k, 0, none⟩) hk).trans h.2.2.2.1, (hb.frozen (p := ⟨k, 1, none⟩) hk).trans h.2.2.2.2⟩
theorem At2.set0 {W : World} {k : Nat} {a b : Value} (h : At2 W k a b) (v : Value) : At2 (W.setCell ⟨k, 0, none⟩ v) k v b := by
  obtain ⟨h0, c0, c1, f0, f1⟩ := h
  exact ⟨by simpa using h0, World.cell?_setCell_same' W _ v (by rw [c0]; rfl), (World.cell?_setCell_other W _ _ v (fun e => by cases e)).trans c1, by simpa using f0, by simpa using f1⟩
theorem At2.set1 {W : World} {k : Nat} {a b : Value} (h : At2 W k a b) (v : Value) : At2 (W.setCell ⟨k, 1, none⟩ v) k a v := by
  obtain ⟨h0, c0, c1, f0, f1⟩ := h
  exact ⟨by simpa using h0, (World.cell?_setCell_other W _ _ v (fun e => by cases e)).trans c0, World.cell?_setCell_same' W _ v (by rw [c1]; rfl), by simpa using f0, by simpa using f1⟩
theorem At2.new (w : World) (a b : Value) (T : TypeId) : At2 (w.alloc (.cells #[a, b] T)) w.heap.size a b := by
  have hh : (w.alloc (.cells #[a, b] T)).heap[w.heap.size]? = some (.cells #[a, b] T) := by unfold World.alloc; simp
  have hf : ∀ j, (w.alloc (.cells #[a, b] T)).frozen? ⟨w.heap.size, j, none⟩ = false := fun j => by
    unfold World.frozen?
    rw [hh]
    simp
  exact ⟨by simp, by simp, by simp, hf 0, hf 1⟩
theorem own_not_new {w : World} {b e s n : Nat} {v : Value} {xs : List Value} (h : w.ownsRow b e s v n xs) : v.ownBlock ≠ some w.heap.size := by
  rcases h.2 with ⟨rfl, _⟩ | ⟨g, cap, cur, rfl, hg, hh, _⟩
  · simp [Value.ownBlock]
  · intro e
    simp only [Value.ownBlock, Option.some.injEq] at e
    have := (Array.getElem?_eq_some_iff.1 hh).1
    omega
theorem join_snoc (c : UInt8) (x : List UInt8) : ∀ xs : List (List UInt8), xs ≠ [] → Lib.join (xs ++ [x]) [c] = Lib.join xs [c] ++ c :: x := by
  intro xs
  induction xs with
  | nil => intro h; exact absurd rfl h
  | cons y r ih =>
    intro _
    cases r with
    | nil => rw [List.singleton_append, Lib.join_one]; simp [Lib.join, List.intercalate]
    | cons z r =>
      have e1 : Lib.join ((y :: z :: r) ++ [x]) [c] = y ++ c :: Lib.join ((z :: r) ++ [x]) [c] := by simp [Lib.join, List.intercalate]
      have e2 : Lib.join (y :: z :: r) [c] = y ++ c :: Lib.join (z :: r) [c] := by simp [Lib.join, List.intercalate]
      rw [e1, e2, ih (by simp)]; simp
theorem len_slice {w : World} {v : Value} {l : List BFld} (h : SlA w v l) : ∃ o c, v = .slice o l.length c := by
  rcases h with ⟨rfl, rfl⟩ | ⟨a, cap, rfl, -⟩
  · exact ⟨none, 0, rfl⟩
  · exact ⟨some a, cap, rfl⟩
/-- the text of the first fields -/
def txtK (l : List BFld) (k : Nat) : List UInt8 := Lib.join (((flds l).take k).map pairL) [38]
theorem txtK_succ (l : List BFld) (k : Nat) (h : k < l.length) : txtK l (k + 1) = txtK l k ++ (if k = 0 then [] else [38]) ++ pairL (l[k].1.data.toList, l[k].2.data.toList) := by
  unfold txtK
  have e : ((flds l).take (k + 1)).map pairL = ((flds l).take k).map pairL ++ [pairL (l[k].1.data.toList, l[k].2.data.toList)] := by
    rw [List.take_succ_eq_append_getElem (by simpa [flds] using h), List.map_append]
    simp [flds]
  rw [e]
  by_cases h0 : k = 0
  · subst h0; simp [Lib.join_one, Lib.join]
  · rw [join_snoc 38 _ _ (by
      intro hn
      have hl : (((flds l).take k).map pairL).length = k := by simp [flds]; omega
      rw [hn] at hl
      simp at hl
      omega), if_neg h0]
    simp
set_option maxRecDepth 20000 in
set_option maxHeartbeats 16000000 in
theorem fields_core (s : ByteArray) (v : Value) (l : List BFld) (w : World) (hM : MaxAt w) (hs : s.size ≤ 400) (hv : SlA w v l) (hn : l.length ≤ 20) :
    Calls Tryd.prog 10 #[.string s, v] w fun e w' => e = .returned (.bool true) ∧ Below w.heap.size w w' := by
  have CF := Lib.hid (fit_any w hM)
  have cW := fun b w hc => few1 s b w hc
  simp only [hs, decide_true] at cW
  have CW := Lib.hid cW
  have CS := Lib.hid (fun w => segs38 s w (by omega))
  have CFi := Lib.hid (fun w hM => fields_any s w (by omega) hM)
  have hsl : (segs 38 s.data.toList).length ≤ 401 := by have := segs_count 38 s.data.toList; rw [size_len] at this; omega
  have hsm : ∀ p ∈ segs 38 s.data.toList, p.length ≤ 400 := fun p hp => by have := segs_len 38 _ p hp; rw [size_len] at this; omega
  have HSL := Lib.hid hsl
  have HSM := Lib.hid hsm
  obtain ⟨o, c, rfl⟩ := len_slice hv
  have HV := Lib.hid hv
  have hni : (l.length : Int) ≤ 20 := by omega
  have hni2 : ¬ (20 : Int) < (l.length : Int) := by omega
  clear cW hsl hsm hv
  go_enter Tryd.func10, Tryd.ntmps10
  go_wp2_with (first
    | (go_at_call 11; with_reducible refine CF.out.mono ?_; rintro x w1 ⟨rfl, hb1⟩)
    | (go_at_call 12; with_reducible refine (CW.out _ _ (by simp)).mono ?_; rintro x w2 ⟨rfl, rfl⟩; have hB2 := hb1.alloc hb1.size (.cells #[.string s] 9))
    | (go_at_call 34; with_reducible refine (CS.out _).mono ?_; rintro x w3 ⟨vs, ps, rfl, hown, hps, hb3⟩; have hB3 := hB2.trans (hb3.mono hB2.size); obtain ⟨ad, cp, hvs, hcp, hcm, had⟩ := own_reads hown; subst hvs))
  have hpe : ps ≠ [] := fun e => segs_ne 38 s.data.toList (by rw [← hps, e]; rfl)
  rcases had with ⟨rfl, h0⟩ | ⟨g, rfl, hg, hgw, hcell⟩
  · exact absurd (List.eq_nil_of_length_eq_zero h0) hpe
  have hpl : ps.length ≤ 401 := by have := HSL.out; rw [← hps] at this; simpa [lists] using this
  have hps4 : ∀ k (h : k < ps.length), ps[k].size ≤ 400 := fun k h => by
    have := HSM.out ps[k].data.toList (by rw [← hps]; exact List.mem_map_of_mem (List.getElem_mem h))
    rwa [size_len] at this
  have hcl : ∀ j (h : j < ps.length), w3.cell? ⟨g, j, none⟩ = some (.string ps[j]) := fun j h => hcell j _ (by simp [strsV, h])
  have HC := Lib.hid hcl
  have HP4 := Lib.hid hps4
  have HPS := Lib.hid hps
  have hzw := hB3.size
  clear hcell hcl hps4 hps hb1 hb3 hpe hown hB2
  go_loopw [5, 27] (fun vw iv wr => ∃ (k : Nat) (fs : List BFld), k ≤ ps.length ∧ iv = .int .i64 k ∧ wr.ownsRow w3.heap.size 51 2 vw fs.length (attrsV fs) ∧ flds fs = fldK (lists ps) k ∧ fs.length ≤ k ∧ Below w3.heap.size w3 wr) (fun _ iv _ => ps.length - (intOf iv).toNat)
  case atStart => exact ⟨0, [], Nat.zero_le _, rfl, World.ownsRow_nil _ _ _ _, rfl, Nat.le_refl _, Below.refl _ _⟩
  case round =>
    obtain ⟨k, fs, hk, rfl, hown, hfs, hfl, hbw⟩ := hrel
    have hwz := hbw.size
    have HF := Lib.hid hfs
    clear hfs
    by_cases hlt : k < ps.length
    · have c0 := (hbw.cell (p := ⟨g, k, none⟩) hgw).trans (HC.out k hlt)
      have hpz := HP4.out k hlt
      have hsu := fldK_succ (lists ps) k (by simpa [lists] using hlt)
      have hpe : (lists ps)[k]'(by simpa [lists] using hlt) = ps[k].data.toList := by simp [lists]
      rw [hpe] at hsu
      obtain ⟨p, hp⟩ : ∃ p, ps[k] = p := ⟨_, rfl⟩
      rw [hp] at c0 hpz hsu
      have hki : (k : Int) < (ps.length : Int) := by omega
      clear hp hpe
      by_cases h0 : p.size = 0
      · have hE := empty_of p h0
        have HS := Lib.hid (show fldK (lists ps) (k + 1) = fldK (lists ps) k by
          rw [hsu, show p.data.toList = [] from List.eq_nil_of_length_eq_zero (by rw [size_len]; exact h0)]; simp)
        clear hsu h0
        go_wp2_with fail
        go_roundw
        case rel => exact ⟨k + 1, fs, by omega, by go_num, hown, by rw [HF.out, HS.out], by omega, hbw⟩
        case measure => simp [intOf]; omega
      · have hE := nonempty_of p (by omega)
        obtain ⟨A, B, CA, CB, X, Y, hA, hB, hCA, hCB, hX, hY, hF, hz1, hz2, hz3, hz4⟩ := ref_bytes p
        have HS := Lib.hid (show fldK (lists ps) (k + 1) = fldK (lists ps) k ++ [(X.data.toList, Y.data.toList)] by
          rw [hsu, hF]
          have : p.data.toList.isEmpty = false := by
            cases e : p.data.toList with
            | nil => exact absurd (by rw [← size_len, e]; rfl) h0
            | cons x r => rfl
          rw [this]; rfl)
        have hpd := post_drop 61 p.data.toList
        have hps0 := post_size p
        have cF := fun w => find61 p w (by omega)
        have hNl := pre_le 61 p.data.toList
        rw [size_len] at hNl
        obtain ⟨N, hN⟩ : ∃ N, (pre 61 p.data.toList).length = N := ⟨_, rfl⟩
        rw [hN] at hA cF hpd hps0 hNl
        subst hA
        have C1 := Lib.hid cF
        have C2 := Lib.hid (fun w => changeP (p.extract 0 N) CA w (by omega) hCA)
        have C3 := Lib.hid (fun w => runesc_is CA w (by omega) X hX)
        have C5 := Lib.hid (fun w => runesc_is CB w (by omega) Y hY)
        have hne := own_not_new hown
        have hNi : (N : Int) ≤ (p.size : Int) := by omega
        clear hsu h0 hCA hX hY hF cF hN
        by_cases hlN : N < p.size
        · have hNj : (N : Int) < (p.size : Int) := by omega
          obtain rfl : B = p.extract (N + 1) p.size := ba_ext (by rw [hB, ext_to, hpd])
          have C4 := Lib.hid (fun w => changeP (p.extract (N + 1) p.size) CB w (by omega) hCB)
          clear hB hCB hpd hps0
          go_wp2_with (first
            | (go_at_call 35; with_reducible refine (C1.out _).mono ?_; rintro x w' ⟨rfl, rfl⟩)
            | (go_at_call 36; with_reducible refine (C2.out _).mono ?_; rintro x wa ⟨rfl, hba⟩; have N1 := (At2.new wr (.string (p.extract 0 N)) (.string (p.extract (N + 1) p.size)) 51).below hba (by simp); obtain ⟨hk1, z0, z1, f0, f1⟩ := N1.out; have hoa := own_below (hown.alloc (.cells #[.string (p.extract 0 N), .string (p.extract (N + 1) p.size)] 51)) hba (Nat.le_refl _); have hBa := (hbw.alloc hwz (.cells #[.string (p.extract 0 N), .string (p.extract (N + 1) p.size)] 51)).trans (hba.mono (by simp; omega)); have hza := hBa.size)
            | (go_at_call 25; with_reducible refine (C3.out _).mono ?_; rintro x wb ⟨rfl, hbb⟩; have N2 := N1.below hbb N1.out.1; clear z0 z1 f0 f1; obtain ⟨hk2, z0, z1, f0, f1⟩ := N2.out; have hob := own_below hoa hbb (Nat.le_refl _); have hBb := hBa.trans (hbb.mono hza); have hzb := hBb.size)
            | (go_at_call 36; with_reducible refine (C4.out _).mono ?_; rintro x wc ⟨rfl, hbc⟩; have N3 := (N2.set0 (.string X)).below hbc (by rw [World.size_setCell]; exact N2.out.1); clear z0 z1 f0 f1; obtain ⟨hk3, z0, z1, f0, f1⟩ := N3.out; have hoc := own_below (ownsRow_setCell_other hob hne _) hbc (Nat.le_refl _); have hBc := (hBb.setCell hwz _).trans (hbc.mono (by rw [World.size_setCell]; exact hzb)); have hzc := hBc.size)
            | (go_at_call 25; with_reducible refine (C5.out _).mono ?_; rintro x wd ⟨rfl, hbd⟩; have N4 := N3.below hbd N3.out.1; clear z0 z1 f0 f1; obtain ⟨hk4, z0, z1, f0, f1⟩ := N4.out; have hod := own_below hoc hbd (Nat.le_refl _); have hBd := hBc.trans (hbd.mono hzc); have hzd := hBd.size; have hoE := ownsRow_setCell_other (a := ⟨wr.heap.size, 1, none⟩) hod hne (.string Y); have hBe := hBd.setCell (p := ⟨wr.heap.size, 1, none⟩) hwz (.string Y))
            | (refine app2 slA _ rfl (.tmp 58) (.tmp 60) rfl w3.heap.size _ _ _ rfl hoE [_, _] 1 _ rfl (by simp) rfl (by intro u hu; simp at hu; rcases hu with rfl | rfl <;> rfl) (by decide) (by omega) (by omega) (by simp; omega) ?_; intro v2 w5 hA2 gA fA; have hB6 := below_own hBe hoE gA (by simp; omega) (Nat.le_refl _)))
          go_roundw
          case rel => exact ⟨k + 1, fs ++ [(X, Y)], by omega, by go_num, by rw [attrs_app]; simpa using hA2, by rw [HS.out, ← HF.out]; simp [flds], by simp; omega, hB6⟩
          case measure => simp [intOf]; omega
        · have hNj : ¬ (N : Int) < (p.size : Int) := by omega
          obtain rfl : B = ⟨#[]⟩ := ba_ext (by rw [hB, hps0 hlN])
          have C4 := Lib.hid (fun w => changeP ⟨#[]⟩ CB w (by decide) hCB)
          clear hB hCB hpd hps0
          go_wp2_with (first
            | (go_at_call 35; with_reducible refine (C1.out _).mono ?_; rintro x w' ⟨rfl, rfl⟩)
            | (go_at_call 36; with_reducible refine (C2.out _).mono ?_; rintro x wa ⟨rfl, hba⟩; have N1 := (At2.new wr (.string (p.extract 0 N)) (.string (⟨#[]⟩)) 51).below hba (by simp); obtain ⟨hk1, z0, z1, f0, f1⟩ := N1.out; have hoa := own_below (hown.alloc (.cells #[.string (p.extract 0 N), .string (⟨#[]⟩)] 51)) hba (Nat.le_refl _); have hBa := (hbw.alloc hwz (.cells #[.string (p.extract 0 N), .string (⟨#[]⟩)] 51)).trans (hba.mono (by simp; omega)); have hza := hBa.size)
            | (go_at_call 25; with_reducible refine (C3.out _).mono ?_; rintro x wb ⟨rfl, hbb⟩; have N2 := N1.below hbb N1.out.1; clear z0 z1 f0 f1; obtain ⟨hk2, z0, z1, f0, f1⟩ := N2.out; have hob := own_below hoa hbb (Nat.le_refl _); have hBb := hBa.trans (hbb.mono hza); have hzb := hBb.size)
            | (go_at_call 36; with_reducible refine (C4.out _).mono ?_; rintro x wc ⟨rfl, hbc⟩; have N3 := (N2.set0 (.string X)).below hbc (by rw [World.size_setCell]; exact N2.out.1); clear z0 z1 f0 f1; obtain ⟨hk3, z0, z1, f0, f1⟩ := N3.out; have hoc := own_below (ownsRow_setCell_other hob hne _) hbc (Nat.le_refl _); have hBc := (hBb.setCell hwz _).trans (hbc.mono (by rw [World.size_setCell]; exact hzb)); have hzc := hBc.size)
            | (go_at_call 25; with_reducible refine (C5.out _).mono ?_; rintro x wd ⟨rfl, hbd⟩; have N4 := N3.below hbd N3.out.1; clear z0 z1 f0 f1; obtain ⟨hk4, z0, z1, f0, f1⟩ := N4.out; have hod := own_below hoc hbd (Nat.le_refl _); have hBd := hBc.trans (hbd.mono hzc); have hzd := hBd.size; have hoE := ownsRow_setCell_other (a := ⟨wr.heap.size, 1, none⟩) hod hne (.string Y); have hBe := hBd.setCell (p := ⟨wr.heap.size, 1, none⟩) hwz (.string Y))
            | (refine app2 slA _ rfl (.tmp 58) (.tmp 60) rfl w3.heap.size _ _ _ rfl hoE [_, _] 1 _ rfl (by simp) rfl (by intro u hu; simp at hu; rcases hu with rfl | rfl <;> rfl) (by decide) (by omega) (by omega) (by simp; omega) ?_; intro v2 w5 hA2 gA fA; have hB6 := below_own hBe hoE gA (by simp; omega) (Nat.le_refl _)))
          go_roundw
          case rel => exact ⟨k + 1, fs ++ [(X, Y)], by omega, by go_num, by rw [attrs_app]; simpa using hA2, by rw [HS.out, ← HF.out]; simp [flds], by simp; omega, hB6⟩
          case measure => simp [intOf]; omega
    · obtain rfl : k = ps.length := by omega
      have hw1 : flds fs = fieldsL s.data.toList := by
        rw [HF.out, fieldsL, ← HPS.out, fldK, List.take_of_length_le (by simp [lists])]
      have hBw := hB3.trans (hbw.mono hzw)
      have hMw := hM.below hBw (Nat.le_refl _)
      have HW := Lib.hid hw1
      clear hw1 HF HC HP4 hcm hcp
      go_wp2_with (go_at_call 38; with_reducible refine (CFi.out _ hMw).mono ?_; rintro x w4 ⟨v2, fs2, rfl, hown2, hfs2, hb4⟩; have ho1 := own_below hown hb4 (Nat.le_refl _); have hB4 := hBw.trans (hb4.mono hBw.size))
      have hlen2 : fs2.length = fs.length := by
        have := congrArg List.length (hfs2.trans HW.out.symm)
        simpa [flds] using this
      have cSm := samef_any v2 _ fs2 fs w4 (SlA.of_own hown2) (SlA.of_own ho1) (by omega) (by omega)
      rw [decide_eq_true (hfs2.trans HW.out.symm)] at cSm
      have CSm := Lib.hid cSm
      have hz4 := hB4.size
      clear cSm hlen2 hown2 ho1 hfs2 hown hfl hbw hwz
      go_wp2_with (go_at_call 37; with_reducible refine CSm.out.mono ?_; rintro x w5 ⟨rfl, hb5⟩; have hB5 := hB4.trans (hb5.mono hz4))
      clear hB4 hb4 hb5 hz4 CSm hMw hBw
      go_loopw [10, 70] (fun tv iv wq => ∃ (k : Nat) (tx : ByteArray), k ≤ l.length ∧ iv = .int .i64 k ∧ tv = .string tx ∧ tx.data.toList = txtK l k ∧ tx.size ≤ k * 2402 ∧ (∀ j (h : j < l.length), j < k → l[j].1.size ≤ 400 ∧ l[j].2.size ≤ 400) ∧ Below w.heap.size w wq) (fun _ iv _ => l.length - (intOf iv).toNat)
      case atStart => exact ⟨0, ⟨#[]⟩, Nat.zero_le _, rfl, rfl, rfl, Nat.le_refl _, fun _ _ h => absurd h (Nat.not_lt_zero _), hB5⟩
      case round =>
        obtain ⟨k, tx, hk, rfl, rfl, htx, hts, hall, hbq⟩ := hrel
        have hzq := hbq.size
        have hMq := hM.below hbq (Nat.le_refl _)
        have HT := Lib.hid htx
        have HA := Lib.hid hall
        clear htx hall hB5
        by_cases hlt : k < l.length
        · rcases HV.out with ⟨-, rfl⟩ | ⟨a, cap, hoa, -, hcm, hbk, hxx⟩
          · simp at hlt
          obtain ⟨rfl, -, rfl⟩ : o = some a ∧ l.length = l.length ∧ c = cap := by cases hoa; exact ⟨rfl, rfl, rfl⟩
          clear hoa
          have hbk : a.block < w.heap.size := hbk.resolve_left (by rintro rfl; simp at hlt)
          have e1 : (a.add (k * 2)).block = a.block := by unfold Addr.add; split <;> rfl
          obtain ⟨c0', c1'⟩ := hxx k hlt
          have c0 := (hbq.cell (p := a.add (k * 2)) (by rw [e1]; exact hbk)).trans c0'
          have c1 := (hbq.cell (p := ⟨(a.add (k * 2)).block, (a.add (k * 2)).off + 1, none⟩) (by show (a.add (k * 2)).block < _; rw [e1]; exact hbk)).trans c1'
          have htk := txtK_succ l k hlt
          have hnx : ∀ (hz : l[k].1.size ≤ 400 ∧ l[k].2.size ≤ 400), ∀ j (h : j < l.length), j < k + 1 → l[j].1.size ≤ 400 ∧ l[j].2.size ≤ 400 := fun hz j h hj => by
            rcases Nat.lt_succ_iff_lt_or_eq.1 hj with h' | rfl
            · exact HA.out j h h'
            · exact hz
          have HNX := Lib.hid hnx
          obtain ⟨p, hp⟩ : ∃ p, l[k] = p := ⟨_, rfl⟩
          rw [hp] at c0 c1 htk
          have HP := Lib.hid hp
          clear c0' c1' e1 hxx hnx hp
          obtain ⟨x, y⟩ := p
          simp only at c0 c1 htk
          have hki : (k : Int) < (l.length : Int) := by omega
          have cW2 := fun b w h1 h2 => few2b x y b w h1 h2
          by_cases hz : x.size ≤ 400 ∧ y.size ≤ 400
          · obtain ⟨hz1, hz2⟩ := hz
            simp only [hz1, hz2, decide_true, Bool.and_self] at cW2
            have CW2 := Lib.hid cW2
            obtain ⟨EX, hEX⟩ := bytes_of (conv (plainL ++ [32]) false x.data.toList)
            obtain ⟨EY, hEY⟩ := bytes_of (conv (plainL ++ [32]) false y.data.toList)
            obtain ⟨FX, hFX⟩ := bytes_of (encL x.data.toList)
            obtain ⟨FY, hFY⟩ := bytes_of (encL y.data.toList)
            have hsx : EX.size ≤ 1200 := by have := conv_len (plainL ++ [32]) false x.data.toList; rw [size_of hEX]; rw [size_len] at this; omega
            have hsy : EY.size ≤ 1200 := by have := conv_len (plainL ++ [32]) false y.data.toList; rw [size_of hEY]; rw [size_len] at this; omega
            have hfx : FX.size ≤ 1200 := by rw [size_of hFX, encL, sub_len, ← hEX, size_len]; exact hsx
            have hfy : FY.size ≤ 1200 := by rw [size_of hFY, encL, sub_len, ← hEY, size_len]; exact hsy
            have D1 := Lib.hid (fun w => rescape_is x spaceS EX w (by omega) (by decide) hEX)
            have D2 := Lib.hid (fun w => changeS EX FX w (by omega) (by rw [hFX, encL, hEX]))
            have D3 := Lib.hid (fun w => rescape_is y spaceS EY w (by omega) (by decide) hEY)
            have D4 := Lib.hid (fun w => changeS EY FY w (by omega) (by rw [hFY, encL, hEY]))
            have HTK := Lib.hid htk
            have HFX := Lib.hid hFX
            have HFY := Lib.hid hFY
            have hZ := Lib.hid (HNX.out (by rw [HP.out]; exact ⟨hz1, hz2⟩))
            have hts2 : tx.size ≤ 48040 := by omega
            have o1 : ¬ 9223372036854775807 < FX.size + 1 := by omega
            have o2 : ¬ 9223372036854775807 < FX.size + 1 + FY.size := by omega
            have o3 : ¬ 9223372036854775807 < tx.size + (FX.size + 1 + FY.size) := by omega
            have o4 : ¬ 9223372036854775807 < tx.size + 1 + (FX.size + 1 + FY.size) := by omega
            clear hEX hEY hFX hFY htk cW2
            by_cases hk0 : k = 0
            · have hk1 : ¬ (0 : Int) < (k : Int) := by omega
              have HK0 := Lib.hid hk0
              clear hk0
              go_wp2_with (go_at_call 12; with_reducible refine (CW2.out _ _ (by simp) (by simp)).mono ?_; rintro x w' ⟨rfl, rfl⟩)
              have S1 := start2c wr (.string x) (.string y) 51
              have hBa := hbq.alloc hzq (.cells #[.string x, .string y] 51)
              have hBb := hBa.alloc (by simp; omega) (.cells #[.string x, .string y] 9)
              have h3b : Below (wr.alloc (.cells #[.string x, .string y] 51)).heap.size (wr.alloc (.cells #[.string x, .string y] 51)) ((wr.alloc (.cells #[.string x, .string y] 51)).alloc (.cells #[.string x, .string y] 9)) := (Below.refl _ _).alloc (Nat.le_refl _) _
              have hkK : wr.heap.size < (wr.alloc (.cells #[.string x, .string y] 51)).heap.size := (by simp)
              have S2 := snext2 hkK S1 h3b
              obtain ⟨s0, s1, -⟩ := S2
              obtain ⟨wa, hwa⟩ : ∃ wa : World, (wr.alloc (.cells #[.string x, .string y] 51)).alloc (.cells #[.string x, .string y] 9) = wa := ⟨_, rfl⟩
              obtain ⟨K, hK⟩ : ∃ K, wr.heap.size = K := ⟨_, rfl⟩
              have hkl : K < wa.heap.size := (by rw [← hwa, ← hK]; simp; omega)
              have hwa2 : w.heap.size ≤ wa.heap.size := (by rw [← hwa]; simp; omega)
              rw [hwa] at hBb s0 s1
              rw [hK] at s0 s1
              rw [hwa, hK]
              have S3 := And.intro s0 (And.intro s1 (Below.refl wa.heap.size wa))
              clear hwa c0 c1 S1 h3b hBa hkK s0 s1
              go_region_held3 (fun w' => w'.cell? ⟨K, 0, none⟩ = some (.string x) ∧ w'.cell? ⟨K, 1, none⟩ = some (.string y) ∧ Below wa.heap.size wa w') (first | exact snext2 hkl S3 (Below.refl _ wa).drew | (apply snext2 hkl; rotate_left; assumption; assumption) | go_keep) (first | (go_at_call 23; with_reducible refine (D1.out _).mono ?_; rintro e w4 ⟨rfl, hb4⟩) | (go_at_call 36; with_reducible refine (D2.out _).mono ?_; rintro e w5 ⟨rfl, hb5⟩) | (go_at_call 23; with_reducible refine (D3.out _).mono ?_; rintro e w6 ⟨rfl, hb6⟩) | (go_at_call 36; with_reducible refine (D4.out _).mono ?_; rintro e w7 ⟨rfl, hb7⟩))
              have hb8 : Below wa.heap.size wa w7 := bel2 (by assumption)
              go_wp2_with fail
              go_roundw
              case rel =>
                refine ⟨k + 1, tx ++ (FX ++ ⟨#[61]⟩ ++ FY), by omega, by go_num, rfl, ?_, ?_, hZ.out, hBb.trans (hb8.mono hwa2)⟩
                · rw [HTK.out, ← HT.out, if_pos HK0.out, pairL]
                  simp only [app_list, HFX.out, HFY.out, List.append_assoc, List.nil_append, List.cons_append, List.append_nil]
                · have e61 : (⟨#[61]⟩ : ByteArray).size = 1 := rfl
                  have e38 : (⟨#[38]⟩ : ByteArray).size = 1 := rfl
                  simp only [ByteArray.size_append, e61, e38]
                  omega
              case measure => simp [intOf]; omega
            · have hk1 : (0 : Int) < (k : Int) := by omega
              have HK0 := Lib.hid hk0
              clear hk0
              go_wp2_with (go_at_call 12; with_reducible refine (CW2.out _ _ (by simp) (by simp)).mono ?_; rintro x w' ⟨rfl, rfl⟩)
              have S1 := start2c wr (.string x) (.string y) 51
              have hBa := hbq.alloc hzq (.cells #[.string x, .string y] 51)
              have hBb := hBa.alloc (by simp; omega) (.cells #[.string x, .string y] 9)
              have h3b : Below (wr.alloc (.cells #[.string x, .string y] 51)).heap.size (wr.alloc (.cells #[.string x, .string y] 51)) ((wr.alloc (.cells #[.string x, .string y] 51)).alloc (.cells #[.string x, .string y] 9)) := (Below.refl _ _).alloc (Nat.le_refl _) _
              have hkK : wr.heap.size < (wr.alloc (.cells #[.string x, .string y] 51)).heap.size := (by simp)
              have S2 := snext2 hkK S1 h3b
              obtain ⟨s0, s1, -⟩ := S2
              obtain ⟨wa, hwa⟩ : ∃ wa : World, (wr.alloc (.cells #[.string x, .string y] 51)).alloc (.cells #[.string x, .string y] 9) = wa := ⟨_, rfl⟩
              obtain ⟨K, hK⟩ : ∃ K, wr.heap.size = K := ⟨_, rfl⟩
              have hkl : K < wa.heap.size := (by rw [← hwa, ← hK]; simp; omega)
              have hwa2 : w.heap.size ≤ wa.heap.size := (by rw [← hwa]; simp; omega)
              rw [hwa] at hBb s0 s1
              rw [hK] at s0 s1
              rw [hwa, hK]
              have S3 := And.intro s0 (And.intro s1 (Below.refl wa.heap.size wa))
              clear hwa c0 c1 S1 h3b hBa hkK s0 s1
              go_region_held3 (fun w' => w'.cell? ⟨K, 0, none⟩ = some (.string x) ∧ w'.cell? ⟨K, 1, none⟩ = some (.string y) ∧ Below wa.heap.size wa w') (first | exact snext2 hkl S3 (Below.refl _ wa).drew | (apply snext2 hkl; rotate_left; assumption; assumption) | go_keep) (first | (go_at_call 23; with_reducible refine (D1.out _).mono ?_; rintro e w4 ⟨rfl, hb4⟩) | (go_at_call 36; with_reducible refine (D2.out _).mono ?_; rintro e w5 ⟨rfl, hb5⟩) | (go_at_call 23; with_reducible refine (D3.out _).mono ?_; rintro e w6 ⟨rfl, hb6⟩) | (go_at_call 36; with_reducible refine (D4.out _).mono ?_; rintro e w7 ⟨rfl, hb7⟩))
              have hb8 : Below wa.heap.size wa w7 := bel2 (by assumption)
              go_wp2_with fail
              go_roundw
              case rel =>
                refine ⟨k + 1, tx ++ ⟨#[38]⟩ ++ (FX ++ ⟨#[61]⟩ ++ FY), by omega, by go_num, rfl, ?_, ?_, hZ.out, hBb.trans (hb8.mono hwa2)⟩
                · rw [HTK.out, ← HT.out, if_neg HK0.out, pairL]
                  simp only [app_list, HFX.out, HFY.out, List.append_assoc, List.nil_append, List.cons_append, List.append_nil]
                · have e61 : (⟨#[61]⟩ : ByteArray).size = 1 := rfl
                  have e38 : (⟨#[38]⟩ : ByteArray).size = 1 := rfl
                  simp only [ByteArray.size_append, e61, e38]
                  omega
              case measure => simp [intOf]; omega
          · have hzf : (decide (x.size ≤ 400) && decide (y.size ≤ 400)) = false := by simp; omega
            simp only [hzf] at cW2
            have CW2 := Lib.hid cW2
            clear cW2 hzf
            go_wp2_with (go_at_call 12; with_reducible refine (CW2.out _ _ (by simp) (by simp)).mono ?_; rintro x w' ⟨rfl, rfl⟩)
            go_ret
            exact ⟨rfl, (hbq.alloc hzq _).alloc (by simp; omega) _⟩
        · obtain rfl : k = l.length := by omega
          have hsz : ∀ f ∈ l, f.1.size ≤ 400 ∧ f.2.size ≤ 400 := fun f hf => by
            obtain ⟨j, hj, rfl⟩ := List.mem_iff_getElem.1 hf
            exact HA.out j hj hj
          have hq : tx.data.toList = queryL (flds l) := by
            rw [HT.out, txtK, List.take_of_length_le (by simp [flds])]; rfl
          have hV1 := HV.out.below hbq (Nat.le_refl _)
          have cQ := query_any _ l wr hMq hV1 hn hsz
          have hts2 : tx.size ≤ 48040 := by omega
          have CQ := Lib.hid cQ
          have CG := Lib.hid (fun w hM => fields_any tx w (by omega) hM)
          have HQ := Lib.hid hq
          clear cQ hq hsz hV1
          go_wp2_with (first
            | (go_at_call 39; with_reducible refine CQ.out.mono ?_; rintro x w6 ⟨t, rfl, ht, hb6⟩; obtain rfl : t = tx := ba_ext (ht.trans HQ.out.symm); clear ht; have hB6 := hbq.trans (hb6.mono hzq); have hM6 := hM.below hB6 (Nat.le_refl _))
            | (go_at_call 38; with_reducible refine (CG.out _ hM6).mono ?_; rintro x w7 ⟨v3, fs3, rfl, hown3, hfs3, hb7⟩; have hB7 := hB6.trans (hb7.mono hB6.size)))
          have hV7 := HV.out.below hB7 (Nat.le_refl _)
          have hff : flds fs3 = flds l := hfs3.trans (by rw [HQ.out, fields_query])
          have hl3 : fs3.length = l.length := by
            have := congrArg List.length hff
            simpa [flds] using this
          have cSm := samef_any v3 _ fs3 l w7 (SlA.of_own hown3) hV7 (by omega) (by omega)
          rw [decide_eq_true hff] at cSm
          have CSm := Lib.hid cSm
          clear cSm hl3 hff hV7 hown3 hfs3
          go_wp2_with (go_at_call 37; with_reducible refine CSm.out.mono ?_; rintro x w8 ⟨rfl, hb8⟩; have hB8 := hB7.trans (hb8.mono hB7.size))
          go_ret
          exact ⟨rfl, hB8⟩
end Go.Proofs.YtgbinadjbikhhaaDoor
