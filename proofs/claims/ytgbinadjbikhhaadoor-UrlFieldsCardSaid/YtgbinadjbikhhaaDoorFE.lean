/- url.Query: the query with these fields. -/
import Derived.Test.YtgbinadjbikhhaaDoorFD
namespace Go.Proofs.YtgbinadjbikhhaaDoor
set_option linter.unusedVariables false
set_option linter.unusedSimpArgs false
open Go.RowKit

theorem escape_is (s keep T : ByteArray) (w : World) (hs : s.size ≤ 1000000) (hk : keep.size ≤ 1000000) (hT : T.data.toList = conv (plainL ++ keep.data.toList) false s.data.toList) :
    Calls Tryd.prog 22 #[.string s, .string keep] w fun e w' => e = .returned (.string T) ∧ Below w.heap.size w w' := by
  refine (escape_any s keep w hs hk).mono ?_
  rintro e w' ⟨t, rfl, ht, h⟩
  exact ⟨by rw [ba_ext (ht.trans hT.symm)], h⟩
theorem rescape_is (s keep T : ByteArray) (w : World) (hs : s.size ≤ 1000000) (hk : keep.size ≤ 1000000) (hT : T.data.toList = conv (plainL ++ keep.data.toList) false s.data.toList) :
    Calls Tryd.prog 23 #[.string s, .string keep] w fun e w' => e = .returned (.string T) ∧ Below w.heap.size w w' := by
  refine (rescape_any s keep w hs hk).mono ?_
  rintro e w' ⟨t, rfl, ht, h⟩
  exact ⟨by rw [ba_ext (ht.trans hT.symm)], h⟩
abbrev spaceS : ByteArray := ⟨#[32]⟩
theorem bytes_of (l : List UInt8) : ∃ t : ByteArray, t.data.toList = l := ⟨⟨l.toArray⟩, rfl⟩
theorem snext2 {wa wX w3 : World} {K : Nat} {u v : Value} (hk : K < wa.heap.size) (h : wX.cell? ⟨K, 0, none⟩ = some u ∧ wX.cell? ⟨K, 1, none⟩ = some v ∧ Below wa.heap.size wa wX) (h3 : Below wX.heap.size wX w3) : w3.cell? ⟨K, 0, none⟩ = some u ∧ w3.cell? ⟨K, 1, none⟩ = some v ∧ Below wa.heap.size wa w3 := by
  have hk' := Nat.lt_of_lt_of_le hk h.2.2.size
  exact ⟨(h3.cell (p := ⟨K, 0, none⟩) hk').trans h.1, (h3.cell (p := ⟨K, 1, none⟩) hk').trans h.2.1, h.2.2.trans (h3.mono h.2.2.size)⟩
theorem bel2 {wa W : World} {p q : Prop} (h : p ∧ q ∧ Below wa.heap.size wa W) : Below wa.heap.size wa W := h.2.2
theorem start2c (w : World) (u v : Value) (T : TypeId) : (w.alloc (.cells #[u, v] T)).cell? ⟨w.heap.size, 0, none⟩ = some u ∧ (w.alloc (.cells #[u, v] T)).cell? ⟨w.heap.size, 1, none⟩ = some v ∧ Below (w.alloc (.cells #[u, v] T)).heap.size (w.alloc (.cells #[u, v] T)) (w.alloc (.cells #[u, v] T)) := ⟨by simp, by simp, Below.refl _ _⟩
theorem join_bd (N : Nat) : ∀ xs : List (List UInt8), (∀ x ∈ xs, x.length ≤ N) → (Lib.join xs [38]).length ≤ xs.length * (N + 1) := by
  intro xs
  induction xs with
  | nil => intro _; simp [Lib.join]
  | cons x r ih =>
    intro h
    cases r with
    | nil => rw [Lib.join_one]; have := h x (by simp); simp; omega
    | cons y r =>
      have e : Lib.join (x :: y :: r) [38] = x ++ 38 :: Lib.join (y :: r) [38] := by simp [Lib.join, List.intercalate]
      have h1 := h x (by simp)
      have h2 := ih (fun z hz => h z (List.mem_cons_of_mem _ hz))
      have hl : (x :: y :: r).length = (y :: r).length + 1 := rfl
      rw [e, List.length_append, List.length_cons, hl, Nat.add_mul]
      omega
theorem pair_len (x y : List UInt8) (hx : x.length ≤ 400) (hy : y.length ≤ 400) : (pairL (x, y)).length ≤ 2401 := by
  have h1 := conv_len (plainL ++ [32]) false x
  have h2 := conv_len (plainL ++ [32]) false y
  unfold pairL encL
  rw [List.length_append, List.length_cons, sub_len, sub_len]
  simp only
  omega
set_option maxRecDepth 20000 in
set_option maxHeartbeats 8000000 in
theorem query_any (v : Value) (l : List BFld) (w : World) (hM : MaxAt w) (hv : SlA w v l) (hn : l.length ≤ 20) (hsz : ∀ f ∈ l, f.1.size ≤ 400 ∧ f.2.size ≤ 400) :
    Calls Tryd.prog 39 #[v] w fun e w' => ∃ t : ByteArray, e = .returned (.string t) ∧ t.data.toList = queryL (flds l) ∧ Below w.heap.size w w' := by
  obtain ⟨R, hR⟩ : ∃ R, queryL (flds l) = R := ⟨_, rfl⟩
  rw [hR]
  rcases hv with ⟨rfl, rfl⟩ | ⟨a, cap, rfl, hc, hm, hbk, hx⟩
  · have HR := Lib.hid hR
    clear hR hsz
    go_enter Tryd.func39, Tryd.ntmps39
    go_wp2_with fail
    refine wp_loop_rounds 1 ?_
    rw [rounds_succ]
    go_wp2_with (go_at_call 55; with_reducible refine (Tryd.strings_Join_none _ _ _ _).mono ?_; rintro e w' ⟨rfl, rfl⟩)
    go_ret
    exact ⟨⟨#[]⟩, rfl, by rw [← HR.out]; rfl, Below.refl _ _⟩
  · have HR := Lib.hid hR
    have hS : SlA w (.slice (some a) l.length cap) l := .inr ⟨a, cap, rfl, hc, hm, hbk, hx⟩
    have HX := Lib.hid hx
    have HZ := Lib.hid hsz
    clear hR hx hsz hS
    go_enter Tryd.func39, Tryd.ntmps39
    go_wp2_with fail
    go_loopw [3, 9] (fun pv iv wr => ∃ (k : Nat) (ps : List ByteArray), k ≤ l.length ∧ iv = .int .i64 k ∧ wr.ownsRow w.heap.size 9 1 pv ps.length (strsV ps) ∧ lists ps = ((flds l).take k).map pairL ∧ ps.length = k ∧ Below w.heap.size w wr) (fun _ iv _ => l.length - (intOf iv).toNat)
    case atStart => exact ⟨0, [], Nat.zero_le _, rfl, World.ownsRow_nil _ _ _ _, rfl, rfl, Below.refl _ _⟩
    case round =>
      obtain ⟨k, ps, hk, rfl, hown, hps, hpl, hbw⟩ := hrel
      have hwz := hbw.size
      have hMr := hM.below hbw (Nat.le_refl _)
      have HP := Lib.hid hps
      clear hps
      by_cases hlt : k < l.length
      · have hbk : a.block < w.heap.size := hbk.resolve_left (by rintro rfl; simp at hlt)
        have e1 : (a.add (k * 2)).block = a.block := by unfold Addr.add; split <;> rfl
        obtain ⟨c0', c1'⟩ := HX.out k hlt
        have c0 := (hbw.cell (p := a.add (k * 2)) (by rw [e1]; exact hbk)).trans c0'
        have c1 := (hbw.cell (p := ⟨(a.add (k * 2)).block, (a.add (k * 2)).off + 1, none⟩) (by show (a.add (k * 2)).block < _; rw [e1]; exact hbk)).trans c1'
        have hz := HZ.out l[k] (List.getElem_mem hlt)
        have hts : ((flds l).take (k + 1)).map pairL = ((flds l).take k).map pairL ++ [pairL (l[k].1.data.toList, l[k].2.data.toList)] := by
          rw [List.take_succ_eq_append_getElem (by simpa [flds] using hlt), List.map_append]
          simp [flds]
        obtain ⟨p, hp⟩ : ∃ p, l[k] = p := ⟨_, rfl⟩
        rw [hp] at c0 c1 hz hts
        clear hp c0' c1' e1
        obtain ⟨x, y⟩ := p
        simp only at c0 c1 hz hts
        obtain ⟨hz1, hz2⟩ := hz
        obtain ⟨EX, hEX⟩ := bytes_of (conv (plainL ++ [32]) false x.data.toList)
        obtain ⟨EY, hEY⟩ := bytes_of (conv (plainL ++ [32]) false y.data.toList)
        have hsx : EX.size ≤ 1200 := by have := conv_len (plainL ++ [32]) false x.data.toList; rw [size_of hEX]; rw [size_len] at this; omega
        have hsy : EY.size ≤ 1200 := by have := conv_len (plainL ++ [32]) false y.data.toList; rw [size_of hEY]; rw [size_len] at this; omega
        obtain ⟨P, hP⟩ := bytes_of (pairL (x.data.toList, y.data.toList))
        have hsum : (EX ++ ⟨#[61]⟩ ++ EY).data.toList = conv (plainL ++ [32]) false x.data.toList ++ [61] ++ conv (plainL ++ [32]) false y.data.toList := by rw [app_list, app_list, hEX, hEY]
        have C1 := Lib.hid (fun w => escape_is x spaceS EX w (by omega) (by decide) hEX)
        have C2 := Lib.hid (fun w => escape_is y spaceS EY w (by omega) (by decide) hEY)
        have C3 := Lib.hid (fun w hM => repl_any (EX ++ ⟨#[61]⟩ ++ EY) 32 43 (by decide) w (by
          have e61 : (⟨#[61]⟩ : ByteArray).size = 1 := rfl
          rw [ByteArray.size_append, ByteArray.size_append, e61]; omega) hM P (by rw [hP, hsum, pair_sub]))
        have HS := Lib.hid (show ((flds l).take (k + 1)).map pairL = ((flds l).take k).map pairL ++ [P.data.toList] by rw [hts, hP])
        have hki : (k : Int) < (l.length : Int) := by omega
        have o1 : ¬ 9223372036854775807 < EX.size + 1 := by omega
        have o2 : ¬ 9223372036854775807 < EX.size + 1 + EY.size := by omega
        clear hts hEX hEY hP hsum
        go_wp2_with fail
        have S1 := start2c wr (.string x) (.string y) 51
        have hBa := hbw.alloc hwz (.cells #[.string x, .string y] 51)
        have hoa := hown.alloc (.cells #[.string x, .string y] 51)
        obtain ⟨wa, hwa⟩ : ∃ wa : World, wr.alloc (.cells #[.string x, .string y] 51) = wa := ⟨_, rfl⟩
        obtain ⟨K, hK⟩ : ∃ K, wr.heap.size = K := ⟨_, rfl⟩
        have hkl : K < wa.heap.size := (by rw [← hwa, ← hK]; simp)
        have hwa2 : w.heap.size ≤ wa.heap.size := (by rw [← hwa]; simp; omega)
        rw [hwa] at hBa hoa S1
        rw [hK] at S1
        rw [hwa, hK]
        clear hwa c0 c1
        go_region_held3 (fun w' => w'.cell? ⟨K, 0, none⟩ = some (.string x) ∧ w'.cell? ⟨K, 1, none⟩ = some (.string y) ∧ Below wa.heap.size wa w') (first | exact snext2 hkl S1 (Below.refl _ wa).drew | (apply snext2 hkl; rotate_left; assumption; assumption) | go_keep) (first | (go_at_call 22; with_reducible refine (C1.out _).mono ?_; rintro e w4 ⟨rfl, hb4⟩) | (go_at_call 22; with_reducible refine (C2.out _).mono ?_; rintro e w5 ⟨rfl, hb5⟩))
        have hb6 : Below wa.heap.size wa w5 := bel2 (by assumption)
        have hB6 := hBa.trans (hb6.mono hwa2)
        have hM6 := hM.below hB6 (Nat.le_refl _)
        have ho6 := own_below hoa hb6 (Nat.le_refl _)
        have hz6 := hB6.size
        go_wp2_with (first
          | (go_at_call 67; with_reducible refine (C3.out _ hM6).mono ?_; rintro e w7 ⟨rfl, hb7⟩; have ho7 := own_below ho6 hb7 (Nat.le_refl _); have hB7 := hB6.trans (hb7.mono hz6); have hz7 := hB7.size)
          | (refine app2 slS _ rfl (.tmp 21) (.tmp 24) rfl w.heap.size _ _ _ rfl ho7 [_] 1 _ rfl rfl rfl (by intro u hu; simp at hu; subst hu; rfl) (by decide) (by omega) (by omega) hz7 ?_; intro v2 w8 hA2 gA fA; have hB8 := below_own hB7 ho7 gA hz7 (Nat.le_refl _)))
        go_roundw
        case rel => exact ⟨k + 1, ps ++ [P], by omega, by go_num, by simpa [strsV] using hA2, by rw [HS.out, ← HP.out]; simp [lists], by simp [hpl], hB8⟩
        case measure => simp [intOf]; omega
      · obtain rfl : k = l.length := by omega
        have hq : Lib.join (lists ps) [38] = R := by
          rw [HP.out, ← HR.out, queryL, List.take_of_length_le (by simp [flds])]
        have hjb : (Lib.join (lists ps) [38]).length ≤ 140737488355328 := by
          have := join_bd 2401 (lists ps) (fun z hz => by
            rw [HP.out, List.take_of_length_le (by simp [flds])] at hz
            obtain ⟨f, hf, rfl⟩ := List.mem_map.1 hz
            obtain ⟨g, hg, rfl⟩ := List.mem_map.1 hf
            have := HZ.out g hg
            exact pair_len _ _ (by rw [size_len]; omega) (by rw [size_len]; omega))
          have hl : (lists ps).length = ps.length := by simp [lists]
          omega
        obtain ⟨T, hT⟩ := bytes_of R
        obtain ⟨ad, cp, hpv, hcp, hcm, had⟩ := own_reads hown
        subst hpv
        have HT := Lib.hid hT
        have hpl2 : ps.length ≤ 20 := by omega
        clear hpl
        rcases had with ⟨rfl, h0⟩ | ⟨g, rfl, hg, hgw, hcell⟩
        · have hE : ps = [] := List.eq_nil_of_length_eq_zero h0
          subst hE
          have hRn : R = [] := hq.symm
          subst hRn
          clear hq hjb h0 hT
          go_wp2_with (go_at_call 55; with_reducible refine (Tryd.strings_Join_none _ _ _ _).mono ?_; rintro e w' ⟨rfl, rfl⟩)
          go_ret
          exact ⟨⟨#[]⟩, rfl, rfl, hbw⟩
        · have cJ : Calls Tryd.prog 55 #[.slice (some ⟨g, 0, none⟩) ps.length cp, .string ⟨#[38]⟩] wr fun e w' => e = .returned (.string T) ∧ Below wr.heap.size wr w' := by
            refine (Tryd.strings_Join g 0 cp ps ⟨#[38]⟩ wr (fun j x hj => by rw [Nat.zero_add]; exact hcell j (.string x) (by simp [strsV, hj])) hgw (by omega) hcp hjb).mono ?_
            rintro e w' ⟨rfl, hb⟩
            refine ⟨?_, hb⟩
            congr 2
            exact ba_ext (by rw [HT.out]; exact hq)
          have CJ := Lib.hid cJ
          clear cJ hq hjb hcell hT
          go_wp2_with (go_at_call 55; with_reducible refine CJ.out.mono ?_; rintro e w1 ⟨rfl, hb1⟩)
          go_ret
          exact ⟨T, rfl, HT.out, hbw.trans (hb1.mono hwz)⟩
end Go.Proofs.YtgbinadjbikhhaaDoor
