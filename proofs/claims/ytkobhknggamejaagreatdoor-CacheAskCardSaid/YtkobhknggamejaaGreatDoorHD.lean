/- Cache: directives, in both packages. -/
import Derived.Test.YtkobhknggamejaaGreatDoorHC
namespace Go.Proofs.YtkobhknggamejaaGreatDoor
set_option linter.unusedVariables false
set_option linter.unusedSimpArgs false
open Go.RowKit

/-- the directives -/
structure Dir where
  ns : Bool
  nc : Bool
  mu : Bool
  ma : Int
abbrev dirC (D : Dir) : List Value := [.bool D.ns, .bool D.nc, .bool D.mu, .int .i64 D.ma]
abbrev dirA (D : Dir) : Value := .agg #[.bool D.ns, .bool D.nc, .bool D.mu, .int .i64 D.ma]
abbrev nsN : List UInt8 := [110, 111, 45, 115, 116, 111, 114, 101]
abbrev ncN : List UInt8 := [110, 111, 45, 99, 97, 99, 104, 101]
abbrev muN : List UInt8 := [109, 117, 115, 116, 45, 114, 101, 118, 97, 108, 105, 100, 97, 116, 101]
abbrev maN : List UInt8 := [109, 97, 120, 45, 97, 103, 101]
abbrev ccN : List UInt8 := [99, 97, 99, 104, 101, 45, 99, 111, 110, 116, 114, 111, 108]
def dirStep (D : Dir) (w : List UInt8) : Dir :=
  if lowL (pre 61 w) = nsN then { D with ns := true } else if lowL (pre 61 w) = ncN then { D with nc := true } else if lowL (pre 61 w) = muN then { D with mu := true }
  else if lowL (pre 61 w) = maN then (if 0 ≤ secI (post 61 w) then { D with ma := secI (post 61 w) } else D) else D
def dirOne (D : Dir) (h : Hd) : Dir := if lowL h.1.data.toList = ccN then (wordsL h.2.data.toList).foldl dirStep D else D
def dirL (hs : List Hd) : Dir := hs.foldl dirOne ⟨false, false, false, -1⟩
theorem dirStep_bd (D : Dir) (w : List UInt8) (h : -1 ≤ D.ma ∧ D.ma < 1000000000) : -1 ≤ (dirStep D w).ma ∧ (dirStep D w).ma < 1000000000 := by
  have := secI_bd (post 61 w)
  unfold dirStep
  (repeat' split) <;> first | exact h | (simp only; omega)
theorem dirs_bd : ∀ (L : List (List UInt8)) (D : Dir), (-1 ≤ D.ma ∧ D.ma < 1000000000) → -1 ≤ (L.foldl dirStep D).ma ∧ (L.foldl dirStep D).ma < 1000000000 := by
  intro L
  induction L with
  | nil => intro D h; exact h
  | cons w L ih => intro D h; exact ih _ (dirStep_bd D w h)
theorem dirL_bd (hs : List Hd) : -1 ≤ (dirL hs).ma ∧ (dirL hs).ma < 1000000000 := by
  have : ∀ (hs : List Hd) (D : Dir), (-1 ≤ D.ma ∧ D.ma < 1000000000) → -1 ≤ (hs.foldl dirOne D).ma ∧ (hs.foldl dirOne D).ma < 1000000000 := by
    intro hs
    induction hs with
    | nil => intro D h; exact h
    | cons h hs ih =>
      intro D hD
      refine ih _ ?_
      unfold dirOne
      split
      · exact dirs_bd _ _ hD
      · exact hD
  exact this hs _ (by decide)
theorem fold_step {α β : Type} (f : β → α → β) (b : β) (l : List α) (k : Nat) (h : k < l.length) (x : α) (hx : l[k] = x) (y : β) (hy : (l.take k).foldl f b = y) : (l.take (k + 1)).foldl f b = f y x := by
  subst hx hy
  rw [List.take_succ_eq_append_getElem h, List.foldl_append]
  rfl
theorem ret4_run {P : Program} {fn : Func} {q T : Nat} (hr : fn.results = #[.cell q T]) (hz : ∀ w, (Go.sizeOf T).run P w = .ok 4 w) (ha : ∀ w, (isAgg T).run P w = .ok true w) (tmps : Array Value) (W : World) (k : Nat) (a b c d : Value) (h2 : tmps.getD q undef = .pointer (some ⟨k, 0, none⟩)) (hA : AtL W k [a, b, c, d]) :
    (results fn tmps).run P W = .ok (.agg #[a, b, c, d]) W := by
  have c0 := hA.c 0 rfl
  have c1 := hA.c 1 rfl
  have c2 := hA.c 2 rfl
  have c3 := hA.c 3 rfl
  rw [Array.getD_eq_getD_getElem?] at h2
  simp [results, hr, h2, go_sem, hz, ha, c0, c1, c2, c3]
theorem cut_is (s A B : ByteArray) (F : Bool) (w : World) (hs : s.size ≤ 1000000) (hM : MaxAt w) (hA : A.data.toList = pre 61 s.data.toList) (hB : B.data.toList = post 61 s.data.toList) (hF : s.data.toList.contains 61 = F) :
    Calls Tryz.prog 42 #[.string s, .string ⟨#[61]⟩] w fun e w' => e = .returned (.tuple #[.string A, .string B, .bool F]) ∧ Below w.heap.size w w' := by
  obtain ⟨m, hm⟩ := hM
  refine (Tryz.strings_Cut s ⟨#[61]⟩ m w (by omega) hm).mono ?_
  rintro e w' ⟨he, n, rfl⟩
  rw [show (⟨#[61]⟩ : ByteArray).data.toList = [61] from rfl, cut_eq, hF] at he
  refine ⟨?_, below_drewN (Below.refl _ _) _⟩
  have eA : (⟨(pre 61 s.data.toList).toArray⟩ : ByteArray) = A := ba_ext' hA.symm
  have eB : (⟨(post 61 s.data.toList).toArray⟩ : ByteArray) = B := ba_ext' hB.symm
  rw [he]
  show Ending.returned (.tuple #[.string ⟨(pre 61 s.data.toList).toArray⟩, .string ⟨(post 61 s.data.toList).toArray⟩, .bool F]) = _
  rw [eA, eB]
theorem slk_base {α : Type} {enc : α → List Value} {k : Nat} {w : World} {sa : Option Addr} {n c : Nat} {l : List α} (h : SlK enc k w (.slice sa n c) l) : ∀ b0 off, sa = some ⟨b0, off, none⟩ → 0 < l.length → b0 < w.heap.size := by
  intro b0 off hsa h0
  rcases h with ⟨rfl, _⟩ | ⟨_, b, off', cap, he, _, _, hb, _⟩
  · simp at h0
  · injection he with e1 _ _
    rw [hsa] at e1
    injection e1 with e1
    injection e1 with e1 _
    omega
theorem words_size (s : List UInt8) : ∀ p ∈ wordsL s, p.length ≤ s.length := by
  intro p hp
  unfold wordsL at hp
  obtain ⟨q, hq, rfl⟩ := List.mem_map.1 (List.mem_filter.1 hp).1
  exact Nat.le_trans (trimC_len q) (segs_len 44 s q hq)
theorem but_below {B b : Nat} {W w w' : World} (h : BelowBut B b W w) (k : Below w.heap.size w w') (hB : B ≤ w.heap.size) : BelowBut B b W w' := h.below k hB
theorem AtL.butk {W W' : World} {k B b : Nat} {vs : List Value} (h : AtL W k vs) (hb : BelowBut B b W W') (hk : k < B) (hne : k ≠ b) : AtL W' k vs := by
  have hh := hb.block k hk hne
  exact ⟨Nat.lt_of_lt_of_le h.1 hb.size, fun j v hv => ⟨(World.cell?_of_block (w := W) hh).trans (h.c j hv), (World.frozen?_of_block (w := W) hh).trans (h.f j hv)⟩⟩
theorem BelowBut.to_but {B B' b : Nat} {W w w' : World} (h : BelowBut B b W w) (k : BelowBut B' b w w') (hB : B ≤ B') : BelowBut B b W w' :=
  ⟨k.os.trans h.os, k.tape.trans h.tape, k.output.trans h.output, Nat.le_trans h.size k.size, fun i hi hb => (k.block i (by omega) hb).trans (h.block i hi hb)⟩
theorem pre_size (c : UInt8) (s : ByteArray) : (pre c s.data.toList).length ≤ s.size := by
  have := (List.takeWhile_sublist (p := (· != c)) (l := s.data.toList)).length_le
  rw [size_len] at this
  exact this
theorem post_size (c : UInt8) (s : ByteArray) : (post c s.data.toList).length ≤ s.size := by
  have := (List.dropWhile_sublist (p := (· != c)) (l := s.data.toList)).length_le
  rw [size_len] at this
  unfold post
  rw [List.length_drop]
  omega
/-- the rounds over the words of one value, in the package: what remains is a walk of its own -/
theorem seg_words (L : List (List UInt8)) (ps : List ByteArray) (h : lists ps = L) (j : Nat) (hj : j < ps.length) (D0 D : Dir) (hD : D = ((lists ps).take j).foldl dirStep D0) (x : ByteArray) (hx : ps[j] = x) (D' : Dir) (hD' : dirStep D x.data.toList = D') : D' = ((lists ps).take (j + 1)).foldl dirStep D0 := by
  rw [fold_step dirStep D0 (lists ps) j (by simpa [lists] using hj) x.data.toList (by simp [lists, hx]) D hD.symm]
  exact hD'.symm
set_option maxRecDepth 20000 in
set_option maxHeartbeats 4000000 in
theorem dir_is (hs : List Hd) (v : Value) (w : World) (hM : MaxAt w) (hv : SlK hdC 2 w v hs) (hz : HdSz hs) (D : Dir) (hD : dirL hs = D) :
    Calls Tryz.prog 14 #[v] w fun e w' => e = .returned (dirA D) ∧ Below w.heap.size w w' := by
  have HD := Lib.hid hD
  have HZ := Lib.hid hz.2
  have hl := hz.1
  have R0 := (AtL.new w [.bool false, .bool false, .bool false, .int .i64 0] 28).alloc (.cells (dirC ⟨false, false, false, -1⟩).toArray 28)
  have C0 := AtL.new (w.alloc (.cells [.bool false, .bool false, .bool false, .int .i64 0].toArray 28)) (dirC ⟨false, false, false, -1⟩) 28
  rw [show (w.alloc (.cells [.bool false, .bool false, .bool false, .int .i64 0].toArray 28)).heap.size = w.heap.size + 1 by simp] at C0
  have hb0 : Below w.heap.size w ((w.alloc (.cells [.bool false, .bool false, .bool false, .int .i64 0].toArray 28)).alloc (.cells (dirC ⟨false, false, false, -1⟩).toArray 28)) := ((Below.refl _ w).alloc (Nat.le_refl _) _).alloc (by simp) _
  have hv0 := hv.below hb0 (Nat.le_refl _)
  have hM0 := hM.below hb0 (Nat.le_refl _)
  obtain ⟨sa, sc, rfl, _⟩ := hv.shape
  have hGM := hM.lt
  clear hD hz hM
  go_enter Tryz.func14, Tryz.ntmps14
  go_wp2_with fail
  obtain ⟨w1, hw1⟩ : ∃ w1 : World, (w.alloc (.cells [.bool false, .bool false, .bool false, .int .i64 0].toArray 28)).alloc (.cells (dirC ⟨false, false, false, -1⟩).toArray 28) = w1 := ⟨_, rfl⟩
  obtain ⟨C, hC⟩ : ∃ C, w.heap.size + 1 = C := ⟨_, rfl⟩
  obtain ⟨R, hR⟩ : ∃ R, w.heap.size = R := ⟨_, rfl⟩
  rw [hw1] at R0 C0 hb0 hv0 hM0
  rw [hC] at C0
  rw [hR] at R0
  rw [hw1, hC, hR]
  have hRC : R < C := by omega
  have HR := Lib.hid hR
  have HBW := Lib.hid (fun b0 off h h0 => Nat.lt_of_lt_of_le (slk_base hv b0 off h h0) (Nat.le_of_eq hR))
  have hCl := C0.lt
  have hRl := R0.lt
  rw [hR] at hGM
  clear hw1 hC hR hv
  go_loopw [16] (fun iv wr => ∃ (k : Nat) (E : Dir), k ≤ hs.length ∧ iv = .int .i64 k ∧ AtL wr C (dirC E) ∧ Hid (E = (hs.take k).foldl dirOne ⟨false, false, false, -1⟩) ∧ BelowBut w1.heap.size C w1 wr) (fun iv _ => hs.length - (intOf iv).toNat)
  case atStart => exact ⟨0, _, Nat.zero_le _, rfl, C0, Lib.hid rfl, BelowBut.refl _ _ _⟩
  case round =>
    obtain ⟨k, E, hk, rfl, AE, HE, hbb⟩ := hrel
    have hwz := hbb.size
    by_cases hlt : k < hs.length
    · have hki : (k : Int) < (hs.length : Int) := by omega
      have hv1 := hv0
      rcases hv1 with ⟨rfl, _⟩ | ⟨_, b0, off, cap, he, hc1, hc2, hc3, hcell⟩
      · simp at hlt
      injection he with e1 e2 e3
      subst e1 e3
      have hbR := HBW.out b0 off rfl (by omega)
      have cc : ∀ j u, (hdC hs[k])[j]? = some u → wr.cell? ⟨b0, off + k * 2 + j, none⟩ = some u := fun j u hu => (hbb.cell (p := ⟨b0, off + k * 2 + j, none⟩) hc3 (by show b0 ≠ C; omega)).trans (hcell k hlt j u hu)
      have hsz := HZ.out _ (List.getElem_mem hlt)
      have hfs := fold_step dirOne ⟨false, false, false, -1⟩ hs k hlt _ rfl E HE.out.symm
      obtain ⟨y, hy⟩ : ∃ y, hs[k] = y := ⟨_, rfl⟩
      rw [hy] at cc hsz hfs
      clear hy hcell
      obtain ⟨yn, yv⟩ := y
      have hyn : yn.size ≤ 100000 := hsz.1
      have hyv : yv.size ≤ 100000 := hsz.2
      have c0 := cc 0 _ rfl
      have c1 := cc 1 _ rfl
      simp only [Nat.add_zero] at c0
      clear cc hsz
      have hal := (Below.refl _ wr).alloc (Nat.le_refl _) (.cells (hdC (yn, yv)).toArray 68)
      have KA := AtL.new wr (hdC (yn, yv)) 68
      have AA := AE.next hal
      have hbA := but_below hbb hal hwz
      have hzA := hbA.size
      by_cases hq : lowL yn.data.toList = ccN
      · have C1 := Lib.hid (fun w => lowh_is yn ⟨#[99, 97, 99, 104, 101, 45, 99, 111, 110, 116, 114, 111, 108]⟩ hq.symm w (by omega))
        have hfs2 : (hs.take (k + 1)).foldl dirOne ⟨false, false, false, -1⟩ = (wordsL yv.data.toList).foldl dirStep E := by rw [hfs]; unfold dirOne; rw [if_pos hq]
        obtain ⟨L, hL⟩ : ∃ L, wordsL yv.data.toList = L := ⟨_, rfl⟩
        have hwsz := words_size yv.data.toList
        have HLW := Lib.hid hL
        rw [hL] at hfs2 hwsz
        have HW := Lib.hid hwsz
        have CW := Lib.hid (fun w hM => words_is yv w hyv hM L hL)
        have HFS := Lib.hid hfs2
        clear hfs hfs2 hL hq hwsz
        go_wp2_with (first
          | (go_at_call 39; with_reducible refine (C1.out _).mono ?_; rintro e w2 ⟨rfl, hb2⟩; have K2 := KA.next hb2; have hbb2 := but_below hbA hb2 hzA; have A2 := AA.next hb2; have hM2 := hM0.but hbb2 (by omega) (by omega); have z0 := K2.c 0 rfl; have z1 := K2.c 1 rfl; have kl2 := K2.lt)
          | (go_at_call 41; with_reducible refine (CW.out _ hM2).mono ?_; rintro e w3 hqq; obtain ⟨ps, pa, pc, rfl, hown, hps, hb3⟩ := wordsq_open hqq; clear hqq))
        have hpz : ∀ p ∈ ps, p.size ≤ 100000 := fun p hp => by
          have := HW.out p.data.toList (by rw [← hps]; exact List.mem_map_of_mem hp)
          rw [size_len, size_len] at this
          omega
        have hplen : ps.length ≤ 1000000 := by
          have h1 : (wordsL yv.data.toList).length ≤ yv.size + 1 := by
            unfold wordsL
            refine Nat.le_trans (List.length_filter_le _ _) ?_
            rw [List.length_map]
            have := segs_count 44 yv.data.toList
            rwa [size_len] at this
          rw [HLW.out, ← hps] at h1
          simp [lists] at h1
          omega
        have HPS := Lib.hid hps
        have HPZ := Lib.hid hpz
        have hbb3 := but_below hbb2 hb3 hbb2.size
        have A3 := A2.next hb3
        obtain ⟨_, _, hve, hlc, hlm, hra⟩ := own_reads hown
        injection hve with e1 _ e3
        subst e1 e3
        have hCw2 : C < w2.heap.size := A2.lt
        have HRA := Lib.hid hra
        obtain ⟨wo, hwo⟩ : ∃ wo : World, wo = wr := ⟨_, rfl⟩
        subst hwo
        clear hps hpz hra z0 z1 kl2
        go_loopw [28] (fun jv wr2 => ∃ (j : Nat) (F : Dir), j ≤ ps.length ∧ jv = .int .i64 j ∧ AtL wr2 C (dirC F) ∧ Hid (F = ((lists ps).take j).foldl dirStep E) ∧ BelowBut w3.heap.size C w3 wr2) (fun jv _ => ps.length - (intOf jv).toNat)
        case atStart => exact ⟨0, E, Nat.zero_le _, rfl, A3, Lib.hid rfl, BelowBut.refl _ _ _⟩
        case round =>
          obtain ⟨j, F, hj, rfl, AC, HF, hbc⟩ := hrel
          by_cases hlj : j < ps.length
          · have hji : (j : Int) < (ps.length : Int) := by omega
            rcases HRA.out with ⟨_, h0⟩ | ⟨g, rfl, hgB, hgw, hcg⟩
            · omega
            have c2 := (hbc.cell (p := ⟨g, j, none⟩) hgw (by show g ≠ C; omega)).trans (hcg j (.string ps[j]) (by simp [strsV, hlj]))
            have hx := HPZ.out _ (List.getElem_mem hlj)
            have hst := seg_words _ ps rfl j hlj E F HF.out
            obtain ⟨x, hxe⟩ : ∃ x, ps[j] = x := ⟨_, rfl⟩
            rw [hxe] at c2 hx
            have hst := fun D' h => hst x hxe D' h
            have hglt : g < wr.heap.size := Nat.lt_of_lt_of_le hgw hbc.size
            have hMr : MaxAt wr := (hM0.but hbb3 (by omega) (by omega)).but hbc (by have := hbb3.size; omega) (by omega)
            obtain ⟨A, hA⟩ : ∃ A, bs (pre 61 x.data.toList) = A := ⟨_, rfl⟩
            obtain ⟨B, hB⟩ : ∃ B, bs (post 61 x.data.toList) = B := ⟨_, rfl⟩
            have hAl : A.data.toList = pre 61 x.data.toList := by rw [← hA]; rfl
            have hBl : B.data.toList = post 61 x.data.toList := by rw [← hB]; rfl
            have hAz : A.size ≤ 100000 := by have := pre_size 61 x; rw [← hAl, size_len] at this; omega
            have hBz : B.size ≤ 100000 := by have := post_size 61 x; rw [← hBl, size_len] at this; omega
            obtain ⟨fd, hfd⟩ : ∃ fd, x.data.toList.contains 61 = fd := ⟨_, rfl⟩
            have CC := Lib.hid (fun w hM => cut_is x A B fd w (by omega) hM hAl hBl hfd)
            have cL := fun (T : ByteArray) (h : T.data.toList = lowL (pre 61 x.data.toList)) (w : World) => lowh_is A T (by rw [hAl]; exact h) w (by omega)
            have CN0 := Lib.hid (fun w R hR n hn b hb => sec_is B w (by omega) R hR n hn b hb)
            have hBL := Lib.hid hBl
            have hba := hbc
            clear hA hB hAl hfd hBl hxe hcg
            have hbb : BelowBut w3.heap.size C w3 wr := hba
            by_cases q1 : lowL (pre 61 x.data.toList) = nsN
            · have HST := Lib.hid (hst { F with ns := true } (by unfold dirStep; rw [if_pos q1]))
              have CL := Lib.hid (cL ⟨#[110, 111, 45, 115, 116, 111, 114, 101]⟩ q1.symm)
              clear hst cL q1 CN0
              have CN := CL
              go_wp2_with (first
                | (go_at_call 42; with_reducible refine (CC.out _ hMr).mono ?_; rintro e w4 ⟨rfl, hb4⟩)
                | (go_at_call 39; with_reducible refine (CL.out _).mono ?_; rintro e w5 ⟨rfl, hb5⟩; have hb45 := hb4.trans (hb5.mono hb4.size); have A5 := AC.next hb45; have hbb5 := but_below hbb hb45 hbb.size; have q0 := A5.c 0 rfl; have q1 := A5.c 1 rfl; have q2 := A5.c 2 rfl; have q3 := A5.c 3 rfl; have f0 := A5.f 0 rfl; have f1 := A5.f 1 rfl; have f2 := A5.f 2 rfl; have f3 := A5.f 3 rfl; have al5 := A5.lt)
                | (go_at_call 43; with_reducible refine (CN.out _).mono ?_; rintro e w6 ⟨rfl, hb6⟩; have A6 := A5.next hb6; have hbb6 := but_below hbb5 hb6 hbb5.size; have q0 := A6.c 0 rfl; have q1 := A6.c 1 rfl; have q2 := A6.c 2 rfl; have q3 := A6.c 3 rfl; have f0 := A6.f 0 rfl; have f1 := A6.f 1 rfl; have f2 := A6.f 2 rfl; have f3 := A6.f 3 rfl; have al6 := A6.lt))
              have AX : AtL _ C (dirC { F with ns := true }) := A5.set 0 (.bool true)
              have hbX := hbb5.setCell ⟨C, 0, none⟩ (Or.inl rfl) (.bool true)
              go_roundw
              case rel => exact ⟨j + 1, _, by omega, by go_num, AX, Lib.hid HST.out, hbX⟩
              case measure => simp [intOf]; omega
            · by_cases q2 : lowL (pre 61 x.data.toList) = ncN
              · have HST := Lib.hid (hst { F with nc := true } (by unfold dirStep; rw [if_neg q1, if_pos q2]))
                have CL := Lib.hid (cL ⟨#[110, 111, 45, 99, 97, 99, 104, 101]⟩ q2.symm)
                clear hst cL q1 q2 CN0
                have CN := CL
                go_wp2_with (first
                  | (go_at_call 42; with_reducible refine (CC.out _ hMr).mono ?_; rintro e w4 ⟨rfl, hb4⟩)
                  | (go_at_call 39; with_reducible refine (CL.out _).mono ?_; rintro e w5 ⟨rfl, hb5⟩; have hb45 := hb4.trans (hb5.mono hb4.size); have A5 := AC.next hb45; have hbb5 := but_below hbb hb45 hbb.size; have q0 := A5.c 0 rfl; have q1 := A5.c 1 rfl; have q2 := A5.c 2 rfl; have q3 := A5.c 3 rfl; have f0 := A5.f 0 rfl; have f1 := A5.f 1 rfl; have f2 := A5.f 2 rfl; have f3 := A5.f 3 rfl; have al5 := A5.lt)
                  | (go_at_call 43; with_reducible refine (CN.out _).mono ?_; rintro e w6 ⟨rfl, hb6⟩; have A6 := A5.next hb6; have hbb6 := but_below hbb5 hb6 hbb5.size; have q0 := A6.c 0 rfl; have q1 := A6.c 1 rfl; have q2 := A6.c 2 rfl; have q3 := A6.c 3 rfl; have f0 := A6.f 0 rfl; have f1 := A6.f 1 rfl; have f2 := A6.f 2 rfl; have f3 := A6.f 3 rfl; have al6 := A6.lt))
                have AX : AtL _ C (dirC { F with nc := true }) := A5.set 1 (.bool true)
                have hbX := hbb5.setCell ⟨C, 1, none⟩ (Or.inl rfl) (.bool true)
                go_roundw
                case rel => exact ⟨j + 1, _, by omega, by go_num, AX, Lib.hid HST.out, hbX⟩
                case measure => simp [intOf]; omega
              · by_cases q3 : lowL (pre 61 x.data.toList) = muN
                · have HST := Lib.hid (hst { F with mu := true } (by unfold dirStep; rw [if_neg q1, if_neg q2, if_pos q3]))
                  have CL := Lib.hid (cL ⟨#[109, 117, 115, 116, 45, 114, 101, 118, 97, 108, 105, 100, 97, 116, 101]⟩ q3.symm)
                  clear hst cL q1 q2 q3 CN0
                  have CN := CL
                  go_wp2_with (first
                    | (go_at_call 42; with_reducible refine (CC.out _ hMr).mono ?_; rintro e w4 ⟨rfl, hb4⟩)
                    | (go_at_call 39; with_reducible refine (CL.out _).mono ?_; rintro e w5 ⟨rfl, hb5⟩; have hb45 := hb4.trans (hb5.mono hb4.size); have A5 := AC.next hb45; have hbb5 := but_below hbb hb45 hbb.size; have q0 := A5.c 0 rfl; have q1 := A5.c 1 rfl; have q2 := A5.c 2 rfl; have q3 := A5.c 3 rfl; have f0 := A5.f 0 rfl; have f1 := A5.f 1 rfl; have f2 := A5.f 2 rfl; have f3 := A5.f 3 rfl; have al5 := A5.lt)
                    | (go_at_call 43; with_reducible refine (CN.out _).mono ?_; rintro e w6 ⟨rfl, hb6⟩; have A6 := A5.next hb6; have hbb6 := but_below hbb5 hb6 hbb5.size; have q0 := A6.c 0 rfl; have q1 := A6.c 1 rfl; have q2 := A6.c 2 rfl; have q3 := A6.c 3 rfl; have f0 := A6.f 0 rfl; have f1 := A6.f 1 rfl; have f2 := A6.f 2 rfl; have f3 := A6.f 3 rfl; have al6 := A6.lt))
                  have AX : AtL _ C (dirC { F with mu := true }) := A5.set 2 (.bool true)
                  have hbX := hbb5.setCell ⟨C, 2, none⟩ (Or.inl rfl) (.bool true)
                  go_roundw
                  case rel => exact ⟨j + 1, _, by omega, by go_num, AX, Lib.hid HST.out, hbX⟩
                  case measure => simp [intOf]; omega
                · by_cases q4 : lowL (pre 61 x.data.toList) = maN
                  · have CL := Lib.hid (cL ⟨#[109, 97, 120, 45, 97, 103, 101]⟩ q4.symm)
                    obtain ⟨N, hN⟩ : ∃ N, secI (post 61 x.data.toList) = N := ⟨_, rfl⟩
                    have hN2 : secI B.data.toList = N := by rw [hBL.out]; exact hN
                    by_cases h0 : 0 ≤ N
                    · have HST := Lib.hid (hst { F with ma := N } (by unfold dirStep; rw [if_neg q1, if_neg q2, if_neg q3, if_pos q4, hN, if_pos h0]))
                      have CN := Lib.hid (fun w => CN0.out w N hN2 N (by omega) true (decide_eq_true h0))
                      clear hst cL q1 q2 q3 q4 CN0 hN hN2
                      go_wp2_with (first
                        | (go_at_call 42; with_reducible refine (CC.out _ hMr).mono ?_; rintro e w4 ⟨rfl, hb4⟩)
                        | (go_at_call 39; with_reducible refine (CL.out _).mono ?_; rintro e w5 ⟨rfl, hb5⟩; have hb45 := hb4.trans (hb5.mono hb4.size); have A5 := AC.next hb45; have hbb5 := but_below hbb hb45 hbb.size; have q0 := A5.c 0 rfl; have q1 := A5.c 1 rfl; have q2 := A5.c 2 rfl; have q3 := A5.c 3 rfl; have f0 := A5.f 0 rfl; have f1 := A5.f 1 rfl; have f2 := A5.f 2 rfl; have f3 := A5.f 3 rfl; have al5 := A5.lt)
                        | (go_at_call 43; with_reducible refine (CN.out _).mono ?_; rintro e w6 ⟨rfl, hb6⟩; have A6 := A5.next hb6; have hbb6 := but_below hbb5 hb6 hbb5.size; have q0 := A6.c 0 rfl; have q1 := A6.c 1 rfl; have q2 := A6.c 2 rfl; have q3 := A6.c 3 rfl; have f0 := A6.f 0 rfl; have f1 := A6.f 1 rfl; have f2 := A6.f 2 rfl; have f3 := A6.f 3 rfl; have al6 := A6.lt))
                      have AX : AtL _ C (dirC { F with ma := N }) := A6.set 3 (.int .i64 N)
                      have hbX := hbb6.setCell ⟨C, 3, none⟩ (Or.inl rfl) (.int .i64 N)
                      go_roundw
                      case rel => exact ⟨j + 1, _, by omega, by go_num, AX, Lib.hid HST.out, hbX⟩
                      case measure => simp [intOf]; omega
                    · have HST := Lib.hid (hst F (by unfold dirStep; rw [if_neg q1, if_neg q2, if_neg q3, if_pos q4, hN, if_neg h0]))
                      have CN := Lib.hid (fun w => CN0.out w N hN2 (max N 0) rfl false (decide_eq_false h0))
                      clear hst cL q1 q2 q3 q4 CN0 hN hN2
                      go_wp2_with (first
                        | (go_at_call 42; with_reducible refine (CC.out _ hMr).mono ?_; rintro e w4 ⟨rfl, hb4⟩)
                        | (go_at_call 39; with_reducible refine (CL.out _).mono ?_; rintro e w5 ⟨rfl, hb5⟩; have hb45 := hb4.trans (hb5.mono hb4.size); have A5 := AC.next hb45; have hbb5 := but_below hbb hb45 hbb.size; have q0 := A5.c 0 rfl; have q1 := A5.c 1 rfl; have q2 := A5.c 2 rfl; have q3 := A5.c 3 rfl; have f0 := A5.f 0 rfl; have f1 := A5.f 1 rfl; have f2 := A5.f 2 rfl; have f3 := A5.f 3 rfl; have al5 := A5.lt)
                        | (go_at_call 43; with_reducible refine (CN.out _).mono ?_; rintro e w6 ⟨rfl, hb6⟩; have A6 := A5.next hb6; have hbb6 := but_below hbb5 hb6 hbb5.size; have q0 := A6.c 0 rfl; have q1 := A6.c 1 rfl; have q2 := A6.c 2 rfl; have q3 := A6.c 3 rfl; have f0 := A6.f 0 rfl; have f1 := A6.f 1 rfl; have f2 := A6.f 2 rfl; have f3 := A6.f 3 rfl; have al6 := A6.lt))
                      have AX := A6
                      have hbX := hbb6
                      go_roundw
                      case rel => exact ⟨j + 1, _, by omega, by go_num, AX, Lib.hid HST.out, hbX⟩
                      case measure => simp [intOf]; omega
                  · obtain ⟨T, hT⟩ : ∃ T, bs (lowL (pre 61 x.data.toList)) = T := ⟨_, rfl⟩
                    have hTl : T.toList = lowL (pre 61 x.data.toList) := by rw [ByteArray.toList_eq, ← hT]; rfl
                    have CL := Lib.hid (cL T (by rw [← hT]; rfl))
                    have HST := Lib.hid (hst F (by unfold dirStep; rw [if_neg q1, if_neg q2, if_neg q3, if_neg q4]))
                    rw [← hTl] at q1 q2 q3 q4
                    have b1 := beq_eq_false_iff_ne.2 q1
                    have b2 := beq_eq_false_iff_ne.2 q2
                    have b3 := beq_eq_false_iff_ne.2 q3
                    have b4 := beq_eq_false_iff_ne.2 q4
                    have CN := CL
                    clear hst cL CN0 hT hTl
                    go_wp2_with (first
                      | (go_at_call 42; with_reducible refine (CC.out _ hMr).mono ?_; rintro e w4 ⟨rfl, hb4⟩)
                      | (go_at_call 39; with_reducible refine (CL.out _).mono ?_; rintro e w5 ⟨rfl, hb5⟩; have hb45 := hb4.trans (hb5.mono hb4.size); have A5 := AC.next hb45; have hbb5 := but_below hbb hb45 hbb.size; have q0 := A5.c 0 rfl; have q1 := A5.c 1 rfl; have q2 := A5.c 2 rfl; have q3 := A5.c 3 rfl; have f0 := A5.f 0 rfl; have f1 := A5.f 1 rfl; have f2 := A5.f 2 rfl; have f3 := A5.f 3 rfl; have al5 := A5.lt)
                      | (go_at_call 43; with_reducible refine (CN.out _).mono ?_; rintro e w6 ⟨rfl, hb6⟩; have A6 := A5.next hb6; have hbb6 := but_below hbb5 hb6 hbb5.size; have q0 := A6.c 0 rfl; have q1 := A6.c 1 rfl; have q2 := A6.c 2 rfl; have q3 := A6.c 3 rfl; have f0 := A6.f 0 rfl; have f1 := A6.f 1 rfl; have f2 := A6.f 2 rfl; have f3 := A6.f 3 rfl; have al6 := A6.lt))
                    have AX := A5
                    have hbX := hbb5
                    go_roundw
                    case rel => exact ⟨j + 1, _, by omega, by go_num, AX, Lib.hid HST.out, hbX⟩
                    case measure => simp [intOf]; omega
          · obtain rfl : j = ps.length := by omega
            have hFE : F = (hs.take (k + 1)).foldl dirOne ⟨false, false, false, -1⟩ := by
              rw [HFS.out, HF.out, List.take_of_length_le (by simp [lists]), HPS.out]
            have HFE := Lib.hid hFE
            clear hFE
            go_wp2_with fail
            go_roundw
            case rel => exact ⟨k + 1, F, by omega, by go_num, AC, HFE, hbb3.to_but hbc hbb3.size⟩
            case measure => simp [intOf]; omega
      · obtain ⟨T, hT⟩ : ∃ T, bs (lowL yn.data.toList) = T := ⟨_, rfl⟩
        have hTl : T.toList = lowL yn.data.toList := by rw [ByteArray.toList_eq, ← hT]; rfl
        have C1 := Lib.hid (fun w => lowh_is yn T (by rw [← hT]; rfl) w (by omega))
        have HFS := Lib.hid (show E = (hs.take (k + 1)).foldl dirOne ⟨false, false, false, -1⟩ by rw [hfs]; unfold dirOne; rw [if_neg hq])
        rw [← hTl] at hq
        have hqb := beq_eq_false_iff_ne.2 hq
        clear hfs hT hTl
        go_wp2_with (go_at_call 39; with_reducible refine (C1.out _).mono ?_; rintro e w2 ⟨rfl, hb2⟩; have hbb2 := but_below hbA hb2 hzA; have A2 := AA.next hb2)
        go_roundw
        case rel => exact ⟨k + 1, E, by omega, by go_num, A2, HFS, hbb2⟩
        case measure => simp [intOf]; omega
    · obtain rfl : k = hs.length := by omega
      have hED : E = D := by rw [HE.out, List.take_length]; exact HD.out
      subst hED
      have RE : AtL wr R [.bool false, .bool false, .bool false, .int .i64 0] := R0.butk hbb hRl (by omega)
      have q0 := AE.c 0 rfl; have q1 := AE.c 1 rfl; have q2 := AE.c 2 rfl; have q3 := AE.c 3 rfl
      have p0 := RE.c 0 rfl; have p1 := RE.c 1 rfl; have p2 := RE.c 2 rfl; have p3 := RE.c 3 rfl; have g0 := RE.f 0 rfl; have g1 := RE.f 1 rfl; have g2 := RE.f 2 rfl; have g3 := RE.f 3 rfl
      have cl := AE.lt
      have rl := RE.lt
      go_wp2_with fail
      obtain rfl := HR.out
      have hbF := ((((hbb.to_below hb0 hb0.size (by omega)).setCell (p := ⟨w.heap.size, 0, none⟩) (Nat.le_refl _) (.bool E.ns)).setCell (p := ⟨w.heap.size, 1, none⟩) (Nat.le_refl _) (.bool E.nc)).setCell (p := ⟨w.heap.size, 2, none⟩) (Nat.le_refl _) (.bool E.mu)).setCell (p := ⟨w.heap.size, 3, none⟩) (Nat.le_refl _) (.int .i64 E.ma)
      exact bodyPost_ret (ret4_run Tryz.results14 Tryz.sizeOf28 Tryz.isAgg28 _ _ w.heap.size _ _ _ _ rfl ((((RE.set 0 _).set 1 _).set 2 _).set 3 _)) rfl ⟨rfl, hbF⟩
end Go.Proofs.YtkobhknggamejaaGreatDoor
