/- The walk of url.Parse: it computes parseL. -/
import Derived.Test.YtjdhaacmlpegoaaGreatDoorUQ
namespace Go.Proofs.YtjdhaacmlpegoaaGreatDoor
set_option linter.unusedVariables false
set_option linter.unusedSimpArgs false
open Go.RowKit

abbrev noneU : U6 := ([], [], [], [], [], [])
def strV (l : List UInt8) : Value := .string ⟨l.toArray⟩
def urlV (u : U6) : Value := .agg #[strV u.1, strV u.2.1, strV u.2.2.1, strV u.2.2.2.1, strV u.2.2.2.2.1, strV u.2.2.2.2.2]
/-- an address and its error number -/
def resV (o : Option U6) : Value := .tuple #[urlV (o.getD noneU), .int .i64 (if o.isSome then 0 else 4)]
theorem strV_of {t : ByteArray} {l : List UInt8} (h : t.data.toList = l) : Value.string t = strV l := by subst h; rfl
theorem urlV_of {a b c d e f : ByteArray} {u : U6} (ha : a.data.toList = u.1) (hb : b.data.toList = u.2.1) (hc : c.data.toList = u.2.2.1) (hd : d.data.toList = u.2.2.2.1) (he : e.data.toList = u.2.2.2.2.1) (hf : f.data.toList = u.2.2.2.2.2) :
    Value.agg #[.string a, .string b, .string c, .string d, .string e, .string f] = urlV u := by
  rw [urlV, strV_of ha, strV_of hb, strV_of hc, strV_of hd, strV_of he, strV_of hf]
theorem res_none {R : Option U6} (h : R = none) : Ending.returned (.tuple #[.agg #[.string ⟨#[]⟩, .string ⟨#[]⟩, .string ⟨#[]⟩, .string ⟨#[]⟩, .string ⟨#[]⟩, .string ⟨#[]⟩], .int .i64 4]) = .returned (resV R) := by subst h; rfl
theorem res_some {R : Option U6} {u : U6} (h : R = some u) {a b c d e f : ByteArray} (ha : a.data.toList = u.1) (hb : b.data.toList = u.2.1) (hc : c.data.toList = u.2.2.1) (hd : d.data.toList = u.2.2.2.1) (he : e.data.toList = u.2.2.2.2.1) (hf : f.data.toList = u.2.2.2.2.2) :
    Ending.returned (.tuple #[.agg #[.string a, .string b, .string c, .string d, .string e, .string f], .int .i64 0]) = .returned (resV R) := by
  subst h; rw [urlV_of ha hb hc hd he hf]; rfl
theorem trimL_len (l : List UInt8) : (trimL l).length ≤ l.length := by
  unfold trimL trimE trimF
  rw [List.length_reverse]
  refine Nat.le_trans (List.dropWhile_sublist _).length_le ?_
  rw [List.length_reverse]
  exact (List.dropWhile_sublist _).length_le
/-- strings.CutPrefix at two bytes -/
theorem cutp_any (s : ByteArray) (x y : UInt8) (w : World) :
    Calls Tryz.prog 63 #[.string s, .string ⟨#[x, y]⟩] w fun e w' => ∃ g : ByteArray, e = .returned (.tuple #[.string g, .bool (decide (s.data.toList.take 2 = [x, y]))]) ∧ (s.data.toList.take 2 = [x, y] → g.data.toList = s.data.toList.drop 2) ∧ w' = w := by
  refine (Tryz.strings_CutPrefix s ⟨#[x, y]⟩ w).mono ?_
  rintro e w' ⟨rfl, rfl⟩
  have hp : Lib.hasPrefix s.data.toList [x, y] = decide (s.data.toList.take 2 = [x, y]) := by
    unfold Lib.hasPrefix
    match s.data.toList with
    | [] => rfl
    | [a] => simp [List.isPrefixOf]
    | a :: b :: r =>
      simp only [List.isPrefixOf, Bool.and_true, List.take_succ_cons, List.take_zero, List.cons.injEq, and_true]
      by_cases h1 : x = a
      · by_cases h2 : y = b
        · subst h1; subst h2; simp
        · subst h1; simp [h2, Ne.symm h2]
      · simp [h1, Ne.symm h1]
  refine ⟨⟨(Lib.trimPrefix s.data.toList [x, y]).toArray⟩, ?_, fun h => ?_, rfl⟩
  · rw [← hp]
  · show Lib.trimPrefix s.data.toList [x, y] = _
    rw [Lib.trimPrefix, if_pos (by rw [hp, decide_eq_true h])]
    rfl
theorem pre_take (c : UInt8) (l : List UInt8) : l.take (pre c l).length = pre c l := by
  by_cases h : c ∈ l
  · have := pre_post c l h
    calc l.take (pre c l).length = (pre c l ++ c :: post c l).take (pre c l).length := congrArg (List.take _) this
      _ = pre c l := List.take_left
  · rw [pre_all c l h]; simp
theorem bcell {W w1 : World} (hb : Below W.heap.size W w1) : (∀ b o, b < W.heap.size → w1.cell? ⟨b, o, none⟩ = W.cell? ⟨b, o, none⟩) ∧ (∀ b o, b < W.heap.size → w1.frozen? ⟨b, o, none⟩ = W.frozen? ⟨b, o, none⟩) :=
  ⟨fun b o h => hb.cell (p := ⟨b, o, none⟩) h, fun b o h => hb.frozen (p := ⟨b, o, none⟩) h⟩
theorem _root_.Go.RowKit.Below.set6 {w w' : World} (h : Below w.heap.size w w') (a b c d e f : Value) : Below w.heap.size w ((((((w'.setCell ⟨w.heap.size, 0, none⟩ a).setCell ⟨w.heap.size, 1, none⟩ b).setCell ⟨w.heap.size, 2, none⟩ c).setCell ⟨w.heap.size, 3, none⟩ d).setCell ⟨w.heap.size, 4, none⟩ e).setCell ⟨w.heap.size, 5, none⟩ f) :=
  (((((h.setCell (Nat.le_refl _) _).setCell (Nat.le_refl _) _).setCell (Nat.le_refl _) _).setCell (Nat.le_refl _) _).setCell (Nat.le_refl _) _).setCell (Nat.le_refl _) _
/-- six cells lie there -/
def Blank (W : World) (b : Nat) : Prop := ∀ j, j < 6 → (W.cell? ⟨b, j, none⟩).isSome = true
theorem Blank.below {W W' : World} {b n : Nat} (h : Blank W b) (hb : Below n W W') (hlt : b < n) : Blank W' b := fun j hj => by
  rw [hb.cell (p := ⟨b, j, none⟩) hlt]; exact h j hj
theorem isSome_set {W : World} {p q : Addr} {v : Value} (h : (W.cell? q).isSome = true) : ((W.setCell p v).cell? q).isSome = true := by
  obtain ⟨x, hx⟩ := Option.isSome_iff_exists.1 h
  obtain ⟨y, hy⟩ := cell?_setCell_some (p := p) (x := v) hx
  rw [hy]; rfl
theorem Blank.set {W : World} {b : Nat} (h : Blank W b) (p : Addr) (v : Value) : Blank (W.setCell p v) b := fun j hj => isSome_set (h j hj)
theorem Blank.new (w : World) (a b c d e f : Value) (T : Nat) : Blank (w.alloc (.cells #[a, b, c, d, e, f] T)) w.heap.size := fun j hj => by
  have := cells_new w [a, b, c, d, e, f] T j ([a, b, c, d, e, f][j]'hj) (List.getElem?_eq_getElem _)
  have hadd : (⟨w.heap.size, 0, none⟩ : Addr).add j = ⟨w.heap.size, j, none⟩ := by unfold Addr.add; split <;> simp_all
  rw [hadd] at this
  rw [show #[a, b, c, d, e, f] = [a, b, c, d, e, f].toArray from rfl, this]; rfl
abbrev set6 (W : World) (k : Nat) (a b c d e f : Value) : World := (((((W.setCell ⟨k, 0, none⟩ a).setCell ⟨k, 1, none⟩ b).setCell ⟨k, 2, none⟩ c).setCell ⟨k, 3, none⟩ d).setCell ⟨k, 4, none⟩ e).setCell ⟨k, 5, none⟩ f
theorem set6_at {W : World} {k : Nat} (h : Blank W k) (a b c d e f : Value) : (set6 W k a b c d e f).cell? ⟨k, 0, none⟩ = some a ∧ (set6 W k a b c d e f).cell? ⟨k, 1, none⟩ = some b ∧ (set6 W k a b c d e f).cell? ⟨k, 2, none⟩ = some c ∧ (set6 W k a b c d e f).cell? ⟨k, 3, none⟩ = some d ∧ (set6 W k a b c d e f).cell? ⟨k, 4, none⟩ = some e ∧ (set6 W k a b c d e f).cell? ⟨k, 5, none⟩ = some f := by
  have far : ∀ (V : World) (i j : Nat) (v : Value), i ≠ j → (V.setCell ⟨k, i, none⟩ v).cell? ⟨k, j, none⟩ = V.cell? ⟨k, j, none⟩ := fun V i j v hij => World.cell?_setCell_other V _ _ v (fun e => hij (by cases e; rfl))
  have near : ∀ (V : World) (i : Nat) (v : Value), Blank V k → i < 6 → (V.setCell ⟨k, i, none⟩ v).cell? ⟨k, i, none⟩ = some v := fun V i v hV hi => World.cell?_setCell_same' V _ v (hV i hi)
  refine ⟨?_, ?_, ?_, ?_, ?_, ?_⟩
  · rw [far _ 5 0 _ (by omega), far _ 4 0 _ (by omega), far _ 3 0 _ (by omega), far _ 2 0 _ (by omega), far _ 1 0 _ (by omega)]; exact near _ 0 _ h (by omega)
  · rw [far _ 5 1 _ (by omega), far _ 4 1 _ (by omega), far _ 3 1 _ (by omega), far _ 2 1 _ (by omega)]; exact near _ 1 _ (h.set _ _) (by omega)
  · rw [far _ 5 2 _ (by omega), far _ 4 2 _ (by omega), far _ 3 2 _ (by omega)]; exact near _ 2 _ ((h.set _ _).set _ _) (by omega)
  · rw [far _ 5 3 _ (by omega), far _ 4 3 _ (by omega)]; exact near _ 3 _ (((h.set _ _).set _ _).set _ _) (by omega)
  · rw [far _ 5 4 _ (by omega)]; exact near _ 4 _ ((((h.set _ _).set _ _).set _ _).set _ _) (by omega)
  · exact near _ 5 _ (((((h.set _ _).set _ _).set _ _).set _ _).set _ _) (by omega)
theorem res_cell {fn : Func} (hr : fn.results = #[.cell 2 37, .tmp 3]) (tmps : Array Value) (w : World) (k : Nat) (a b c d e f x : Value) (h2 : tmps.getD 2 undef = .pointer (some ⟨k, 0, none⟩)) (h3 : tmps.getD 3 undef = x)
    (h : w.cell? ⟨k, 0, none⟩ = some a ∧ w.cell? ⟨k, 1, none⟩ = some b ∧ w.cell? ⟨k, 2, none⟩ = some c ∧ w.cell? ⟨k, 3, none⟩ = some d ∧ w.cell? ⟨k, 4, none⟩ = some e ∧ w.cell? ⟨k, 5, none⟩ = some f) :
    (results fn tmps).run Tryz.prog w = .ok (.tuple #[.agg #[a, b, c, d, e, f], x]) w := by
  obtain ⟨c0, c1, c2, c3, c4, c5⟩ := h
  rw [Array.getD_eq_getD_getElem?] at h2 h3
  simp [results, hr, h2, h3, go_sem, c0, c1, c2, c3, c4, c5]
theorem url_ret {fn : Func} (hr : fn.results = #[.cell 2 37, .tmp 3]) (tmps : Array Value) (W : World) (k : Nat) (hW : Blank W k) (a b c d e f x : Value) (h2 : tmps.getD 2 undef = .pointer (some ⟨k, 0, none⟩)) (h3 : tmps.getD 3 undef = x) :
    (results fn tmps).run Tryz.prog (set6 W k a b c d e f) = .ok (.tuple #[.agg #[a, b, c, d, e, f], x]) (set6 W k a b c d e f) := res_cell hr tmps _ k a b c d e f x h2 h3 (set6_at hW a b c d e f)
abbrev innerQ : ByteArray := ⟨#[45, 46, 95, 126, 33, 36, 38, 39, 40, 41, 42, 43, 44, 59, 61, 58, 64, 47, 63]⟩
abbrev innerS : ByteArray := ⟨#[45, 46, 95, 126, 33, 36, 38, 39, 40, 41, 42, 43, 44, 59, 61, 58, 64, 47]⟩
set_option maxRecDepth 20000 in
set_option maxHeartbeats 1000000 in
theorem parseN (s : ByteArray) (w : World) (hs : s.size ≤ 300000) (hM : MaxAt w) (hOK : schemeOk (trimL s.data.toList) = false) :
    Calls Tryz.prog 28 #[.string s] w fun e w' => e = .returned (resV (parseL s.data.toList)) ∧ Below w.heap.size w w' := by
  have hR : parseL s.data.toList = none := by rw [parseL, hOK]; rfl
  rw [hR]
  obtain ⟨T, hT⟩ : ∃ T, trimL s.data.toList = T := ⟨_, rfl⟩
  have hTl := trimL_len s.data.toList
  rw [size_len] at hTl
  have cT := fun w => trim_any s w (by omega)
  rw [hT] at cT hTl hOK
  have cS : ∀ t : ByteArray, t.data.toList = T → ∀ w, MaxAt w → Calls Tryz.prog 58 #[.string t] w fun e w' => ∃ a b : ByteArray, e = .returned (.tuple #[.string a, .string b, .bool false]) ∧ Below w.heap.size w w' := fun t ht w hM => by
    refine (scheme_any t w (by have := size_of ht; omega) hM).mono ?_
    rintro e w' ⟨a, b, rfl, -, hb⟩
    exact ⟨a, b, by rw [ht, hOK], hb⟩
  have CT := Lib.hid cT
  have CS := Lib.hid cS
  clear cT cS hT hOK hR
  have hB0 : Below w.heap.size w (w.alloc (.cells #[.string ⟨#[]⟩, .string ⟨#[]⟩, .string ⟨#[]⟩, .string ⟨#[]⟩, .string ⟨#[]⟩, .string ⟨#[]⟩] 37)) := (Below.refl _ w).alloc (Nat.le_refl _) _
  go_enter Tryz.func28, Tryz.ntmps28
  go_wp2_with (first
    | (go_at_call 59; with_reducible refine (CT.out _).mono ?_; rintro e w' ⟨t, rfl, ht, rfl⟩; have Ht := Lib.hid ht; clear ht)
    | (go_at_call 58; with_reducible refine (CS.out _ Ht.out _ (hM.below hB0 (Nat.le_refl _))).mono ?_; rintro e w1 ⟨a, b, rfl, hb1⟩; obtain ⟨hc1, hf1⟩ := bcell hb1; have hz1 : w.heap.size < w1.heap.size := by have := hb1.size; simp at this; omega))
  refine bodyPost_ret (v := resV none) (by simp [results, Tryz.results28, go_sem, hc1, hf1, hz1]; rfl) rfl ⟨rfl, ?_⟩
  exact (hB0.trans (hb1.mono hB0.size)).set6 _ _ _ _ _ _
set_option maxRecDepth 20000 in
set_option maxHeartbeats 2000000 in
theorem parseA (s : ByteArray) (w : World) (hs : s.size ≤ 300000) (hM : MaxAt w) (N Rst : List UInt8) (hOK : schemeOk (trimL s.data.toList) = true) (hN : lowL (pre 58 (trimL s.data.toList)) = N) (hRs : post 58 (trimL s.data.toList) = Rst) (hab : N = aboutL) (R : Option U6) (hR : restL N Rst = R) :
    Calls Tryz.prog 28 #[.string s] w fun e w' => e = .returned (resV R) ∧ Below w.heap.size w w' := by
  have hTl := trimL_len s.data.toList
  rw [size_len] at hTl
  have hNl : N.length ≤ s.size := by rw [← hN, lowL_len]; exact Nat.le_trans (pre_le _ _) hTl
  have hRl : Rst.length ≤ s.size := by rw [← hRs]; exact Nat.le_trans (post_le _ _) hTl
  have cT := fun w => trim_any s w (by omega)
  obtain ⟨T, hT⟩ : ∃ T, trimL s.data.toList = T := ⟨_, rfl⟩
  rw [hT] at cT hTl hOK hN hRs
  have cS : ∀ t : ByteArray, t.data.toList = T → ∀ w, MaxAt w → Calls Tryz.prog 58 #[.string t] w fun e w' => ∃ a b : ByteArray, e = .returned (.tuple #[.string a, .string b, .bool true]) ∧ a.data.toList = N ∧ b.data.toList = Rst ∧ Below w.heap.size w w' := fun t ht w hM => by
    refine (scheme_any t w (by have := size_of ht; omega) hM).mono ?_
    rintro e w' ⟨a, b, rfl, hab, hb⟩
    rw [ht, hOK] at hab
    obtain ⟨h1, h2⟩ := hab rfl
    exact ⟨a, b, by rw [ht, hOK], h1.trans hN, h2.trans hRs, hb⟩
  have hpl := pre_le 35 Rst
  have hql := post_le 35 Rst
  obtain ⟨BF, hBF⟩ : ∃ l, pre 35 Rst = l := ⟨_, rfl⟩
  obtain ⟨FR, hFR⟩ : ∃ l, post 35 Rst = l := ⟨_, rfl⟩
  obtain ⟨CF, hCF⟩ : ∃ l, conv (innerL ++ [63]) true FR = l := ⟨_, rfl⟩
  have hR2 : R = if BF.all (okC [45]) = true then some (N, [], [], BF, [], CF) else none := by rw [← hR, restL, if_pos hab, hBF, hFR, hCF]
  obtain ⟨OB, hOB⟩ : ∃ OB, BF.all (okC [45]) = OB := ⟨_, rfl⟩
  rw [hOB] at hR2
  rw [hBF] at hpl
  rw [hFR] at hql
  have HOB := Lib.hid hOB
  have CT := Lib.hid cT
  have CS := Lib.hid cS
  have HBF := Lib.hid hBF
  have HFR := Lib.hid hFR
  have HCF := Lib.hid hCF
  have HR := Lib.hid hR2
  have HAB := Lib.hid hab
  clear cT cS hT hOK hR hN hRs hBF hFR hCF hR2 hab hOB
  have hB0 : Below w.heap.size w (w.alloc (.cells #[.string ⟨#[]⟩, .string ⟨#[]⟩, .string ⟨#[]⟩, .string ⟨#[]⟩, .string ⟨#[]⟩, .string ⟨#[]⟩] 37)) := (Below.refl _ w).alloc (Nat.le_refl _) _
  go_enter Tryz.func28, Tryz.ntmps28
  go_wp2_with (first
    | (go_at_call 59; with_reducible refine (CT.out _).mono ?_; rintro e w' ⟨t, rfl, ht, rfl⟩; have Ht := Lib.hid ht; clear ht)
    | (go_at_call 58; with_reducible refine (CS.out _ Ht.out _ (hM.below hB0 (Nat.le_refl _))).mono ?_; rintro e w1 ⟨a, b, rfl, ha, hb, hb1⟩; obtain ⟨hc1, hf1⟩ := bcell hb1; have hz1 : w.heap.size < w1.heap.size := (by have := hb1.size; simp at this; omega); have hB1 := hB0.trans (hb1.mono hB0.size); have hbs := size_of hb; have Ha := Lib.hid ha; have Hb := Lib.hid hb; have n1 : (a.toList == [97, 98, 111, 117, 116]) = true := (by rw [str_beq]; exact decide_eq_true (ha.trans HAB.out)); clear ha hb)
    | (go_at_call 60; with_reducible refine (cut_any b 35 _ (by omega) (hM.below hB1 (Nat.le_refl _))).mono ?_; rw [Hb.out, HBF.out, HFR.out]; rintro e w2 ⟨c, d, rfl, hc, hd, hb2⟩; obtain ⟨hc2, hf2⟩ := bcell hb2; have hz2 : w.heap.size < w2.heap.size := (by have := hb2.size; omega); have hB2 := hB1.trans (hb2.mono hB1.size); have hcs := size_of hc; have hds := size_of hd; have Hc := Lib.hid hc; have Hd := Lib.hid hd; clear hc hd)
    | (go_at_call 61; with_reducible refine (convert_any d innerQ true _ (by omega)).mono ?_; rw [Hd.out]; rintro e w3 ⟨f, rfl, hf, hb3⟩; obtain ⟨hc3, hf3⟩ := bcell hb3; have hz3 : w.heap.size < w3.heap.size := (by have := hb3.size; omega); have hB3 := hB2.trans (hb3.mono hB2.size); have Hf := Lib.hid hf; clear hf)
    | (go_at_call 62; refine (only_any _ _ _ (by omega)).mono ?_; rw [Hc.out, show (⟨#[45]⟩ : ByteArray).data.toList = [45] from rfl, HOB.out]; rintro e w' ⟨rfl, rfl⟩; rcases Bool.eq_false_or_eq_true OB with rfl | rfl))
  · refine bodyPost_ret (v := .tuple #[.agg #[.string a, .string ⟨#[]⟩, .string ⟨#[]⟩, .string c, .string ⟨#[]⟩, .string f], .int .i64 0]) (by simp [results, Tryz.results28, go_sem, hc1, hf1, hz1, hc2, hf2, hz2, hc3, hf3, hz3]) rfl ⟨res_some HR.out Ha.out rfl rfl Hc.out rfl (Hf.out.trans HCF.out), ?_⟩
    exact (hB3.set6 _ _ _ _ _ _).alloc (by simp; omega) _
  · refine bodyPost_ret (v := resV none) (by simp [results, Tryz.results28, go_sem, hc1, hf1, hz1, hc2, hf2, hz2, hc3, hf3, hz3]; rfl) rfl ⟨by rw [HR.out]; rfl, ?_⟩
    exact (hB3.set6 _ _ _ _ _ _).alloc (by simp; omega) _
end Go.Proofs.YtjdhaacmlpegoaaGreatDoor
