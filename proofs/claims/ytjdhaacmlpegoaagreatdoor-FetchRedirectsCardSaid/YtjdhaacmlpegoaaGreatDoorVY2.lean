/- FetchRedirects: the law. -/
import Derived.Test.YtjdhaacmlpegoaaGreatDoorU25
import Derived.Test.YtjdhaacmlpegoaaGreatDoorU23
import Derived.Test.YtjdhaacmlpegoaaGreatDoorU29
namespace Go.Proofs.YtjdhaacmlpegoaaGreatDoor
set_option linter.unusedVariables false
set_option linter.unusedSimpArgs false
open Go.RowKit

def stA (s0 s1 s2 s3 i : Nat) : Nat := if i % 4 = 0 then s0 else if i % 4 = 1 then s1 else if i % 4 = 2 then s2 else s3
def stF (s0 s1 s2 s3 i : Nat) : Int := if stA s0 s1 s2 s3 i % 5 = 0 then 301 else if stA s0 s1 s2 s3 i % 5 = 1 then 302 else if stA s0 s1 s2 s3 i % 5 = 2 then 303 else if stA s0 s1 s2 s3 i % 5 = 3 then 307 else 308
theorem stF_mov (s0 s1 s2 s3 i : Nat) : movB (stF s0 s1 s2 s3 i) = true := by
  unfold stF
  split
  · rfl
  · split
    · rfl
    · split
      · rfl
      · split <;> rfl
theorem ixst0 (a b c d e : Value) (w : World) : (Instr.index 67 (.agg #[a, b, c, d, e]) (.int .u8 0)).run Tryz.prog w = .ok a w := by
  have hs3 : ∀ h, (Tryz.prog.types[3]'h).size = 1 := fun h => by kernel_rfl
  simp [Instr.index, run_underlying Tryz.underlying67, go_sem, asAgg, hs3]
theorem ixst1 (a b c d e : Value) (w : World) : (Instr.index 67 (.agg #[a, b, c, d, e]) (.int .u8 1)).run Tryz.prog w = .ok b w := by
  have hs3 : ∀ h, (Tryz.prog.types[3]'h).size = 1 := fun h => by kernel_rfl
  simp [Instr.index, run_underlying Tryz.underlying67, go_sem, asAgg, hs3]
theorem ixst2 (a b c d e : Value) (w : World) : (Instr.index 67 (.agg #[a, b, c, d, e]) (.int .u8 2)).run Tryz.prog w = .ok c w := by
  have hs3 : ∀ h, (Tryz.prog.types[3]'h).size = 1 := fun h => by kernel_rfl
  simp [Instr.index, run_underlying Tryz.underlying67, go_sem, asAgg, hs3]
theorem ixst3 (a b c d e : Value) (w : World) : (Instr.index 67 (.agg #[a, b, c, d, e]) (.int .u8 3)).run Tryz.prog w = .ok d w := by
  have hs3 : ∀ h, (Tryz.prog.types[3]'h).size = 1 := fun h => by kernel_rfl
  simp [Instr.index, run_underlying Tryz.underlying67, go_sem, asAgg, hs3]
theorem ixst4 (a b c d e : Value) (w : World) : (Instr.index 67 (.agg #[a, b, c, d, e]) (.int .u8 4)).run Tryz.prog w = .ok e w := by
  have hs3 : ∀ h, (Tryz.prog.types[3]'h).size = 1 := fun h => by kernel_rfl
  simp [Instr.index, run_underlying Tryz.underlying67, go_sem, asAgg, hs3]
attribute [local go_sem] ixst0 ixst1 ixst2 ixst3 ixst4
/-- the one byte of the law's place, as a text -/
theorem cv_one (w : World) (k : Nat) (hk : k < 13) : (convert 68 9 (.slice (some ⟨w.heap.size, 0, none⟩) 1 1)).run Tryz.prog (w.alloc (.cells #[.int .u8 (97 + (k : Int))] 5)) = .ok (.string ⟨#[UInt8.ofNat (97 + k)]⟩) (w.alloc (.cells #[.int .u8 (97 + (k : Int))] 5)) := by
  have h := run_convert_bytes_back (P := Tryz.prog) (w.alloc (.cells #[.int .u8 (97 + (k : Int))] 5)) 68 9 5 ⟨w.heap.size, 0, none⟩ 1 [UInt8.ofNat (97 + k)] Tryz.underlying68 Tryz.underlying5 Tryz.underlying9
  refine h fun j hj => ?_
  obtain rfl : j = 0 := by simpa using hj
  have h2 := (AtL.new w [.int .u8 (97 + (k : Int))] 5).c 0 rfl
  have e : (((UInt8.ofNat (97 + k)).toNat : Nat) : Int) = 97 + (k : Int) := by rw [UInt8.toNat_ofNat']; omega
  rw [add_none]
  show _ = some (Value.int .u8 (((UInt8.ofNat (97 + k)).toNat : Nat) : Int))
  rw [e]
  exact h2
theorem cv_ex (w : World) (k : Nat) (hk : k < 13) : ∃ (b : UInt8) (X : ByteArray), qmS k = X ∧ (⟨#[63]⟩ : ByteArray) ++ ⟨#[b]⟩ = X ∧ (convert 68 9 (.slice (some ⟨w.heap.size, 0, none⟩) 1 1)).run Tryz.prog (w.alloc (.cells #[.int .u8 (97 + (k : Int))] 5)) = .ok (.string ⟨#[b]⟩) (w.alloc (.cells #[.int .u8 (97 + (k : Int))] 5)) :=
  ⟨UInt8.ofNat (97 + k), qmS k, rfl, ba_ext' (by rw [app_list]; rfl), cv_one w k hk⟩
/-- the row of operations behind a round -/
theorem rd_app {wr w8 : World} {B : Nat} {ov v2 : Value} {lo : List (Value × Op4)} {k : Nat} {og X : ByteArray} {st : Int} {y : Value} (HO : OpsIn wr B ov lo) (hX : qmS k = X)
    (hA : w8.ownsRow B 32 4 v2 (lo.length + 1) (cellsK opC lo ++ [.int .u8 0, .int .i64 st, .slice (some ⟨wr.heap.size + 1, 0, none⟩) 3 3, .string ⟨#[]⟩]))
    (gA : ((wr.alloc (.cells [y].toArray 5)).alloc (.cells [.string loN, .string X, .string acoC, .string og, .string accC, .string trueS].toArray 70)).grownBy w8 ov.ownBlock)
    (fA : ∃ g, v2.ownBlock = some g ∧ (ov.ownBlock = some g ∨ ((wr.alloc (.cells [y].toArray 5)).alloc (.cells [.string loN, .string X, .string acoC, .string og, .string accC, .string trueS].toArray 70)).heap.size < g)) :
    OpsIn w8 B v2 (lo ++ [(.slice (some ⟨wr.heap.size + 1, 0, none⟩) 3 3, rdOp og st k)]) := by
  have hb1 : Below wr.heap.size wr (wr.alloc (.cells [y].toArray 5)) := (Below.refl _ wr).alloc (Nat.le_refl _) _
  have A2 := AtL.new (wr.alloc (.cells [y].toArray 5)) [.string loN, .string X, .string acoC, .string og, .string accC, .string trueS] 70
  have hb2 : Below (wr.alloc (.cells [y].toArray 5)).heap.size (wr.alloc (.cells [y].toArray 5)) ((wr.alloc (.cells [y].toArray 5)).alloc (.cells [.string loN, .string X, .string acoC, .string og, .string accC, .string trueS].toArray 70)) := (Below.refl _ _).alloc (Nat.le_refl _) _
  rw [show (wr.alloc (.cells [y].toArray 5)).heap.size = wr.heap.size + 1 by simp] at A2
  obtain ⟨W1, hW1⟩ : ∃ W1 : World, wr.alloc (.cells [y].toArray 5) = W1 := ⟨_, rfl⟩
  rw [hW1] at hb1 hb2 A2 gA fA
  obtain ⟨W2, hW2⟩ : ∃ W2 : World, W1.alloc (.cells [.string loN, .string X, .string acoC, .string og, .string accC, .string trueS].toArray 70) = W2 := ⟨_, rfl⟩
  rw [hW2] at hb2 A2 gA fA
  have hsl : SlK hdC 2 W2 (.slice (some ⟨wr.heap.size + 1, 0, none⟩) 3 3) (rdHs og k) := SlK.of_at (l := rdHs og k) hdC_len A2 (by rw [← hX]; rfl) (by simp [rdHs]) (show 3 ≤ maxLen by decide)
  have hsg : Sg hdC 2 ov W2 (.slice (some ⟨wr.heap.size + 1, 0, none⟩) 3 3) (rdHs og k) := Sg.new (w := wr) hsl (fun b off n c e => by injection e with e1 _ _; injection e1 with e1; injection e1 with e1; omega) (fun b e => (HO.own.lt b e).2)
  refine OpsIn.app ((HO.below hb1).below hb2) (.slice (some ⟨wr.heap.size + 1, 0, none⟩) 3 3, rdOp og st k) hsg hA (Kp.grown (Kp.of_below (Below.refl _ W2) (Nat.le_refl _)) gA (Nat.le_refl _) (fun b _ e => e)) (fun b e => ?_)
  obtain ⟨g, h1, h2⟩ := fA
  rw [e] at h1
  injection h1 with h1
  subst h1
  rcases h2 with h2 | h2
  · exact .inl h2
  · exact .inr (Nat.le_of_lt h2)
theorem rd_wt (og : ByteArray) (k : Nat) (hz : og.size ≤ 400) : WtH (rdHs og k) := fun h hh => by
  simp only [rdHs, List.mem_cons, List.not_mem_nil, or_false] at hh
  rcases hh with rfl | rfl | rfl
  · exact ⟨by show loN.size ≤ mx47; decide, by show 2 ≤ mx47; decide⟩
  · exact ⟨by show acoC.size ≤ mx47; decide, by show og.size ≤ mx47; exact Nat.le_trans hz (by decide)⟩
  · exact ⟨by decide, by decide⟩
theorem rd_ok (og : ByteArray) (f : Nat → Int) (n : Nat) (hz : og.size ≤ 400) (o : Op4) (ho : o ∈ rdOps og f n) : OpOk o ∧ o.k < 256 ∧ ∀ h ∈ o.hs, isH h scN = true → False := by
  obtain ⟨i, _, rfl⟩ := List.mem_map.1 ho
  refine ⟨⟨⟨by show 3 ≤ 8; decide, fun h hh => ?_⟩, Nat.zero_le _⟩, by show (0 : Nat) < 256; decide, fun h hh e => ?_⟩
  · have hh : h ∈ rdHs og i := hh
    simp only [rdHs, List.mem_cons, List.not_mem_nil, or_false] at hh
    rcases hh with rfl | rfl | rfl
    · exact ⟨by show loN.size ≤ 500; decide, by show 2 ≤ 500; decide, fun _ => by show 2 ≤ 300; decide⟩
    · exact ⟨by show acoC.size ≤ 500; decide, by show og.size ≤ 500; omega, fun e => absurd e (by show ¬ (lowL acoC.data.toList == lowL loN.data.toList) = true; decide +kernel)⟩
    · exact ⟨by show accC.size ≤ 500; decide, by show trueS.size ≤ 500; decide, fun _ => by show trueS.size ≤ 300; decide⟩
  · have hh : h ∈ rdHs og i := hh
    simp only [rdHs, List.mem_cons, List.not_mem_nil, or_false] at hh
    rcases hh with rfl | rfl | rfl
    · exact absurd e (by show ¬ (lowL loN.data.toList == lowL scN.data.toList) = true; decide +kernel)
    · exact absurd e (by show ¬ (lowL acoC.data.toList == lowL scN.data.toList) = true; decide +kernel)
    · exact absurd e (by show ¬ (lowL accC.data.toList == lowL scN.data.toList) = true; decide +kernel)
theorem nA_succ {l : List Ev} {k : Nat} (h : k < l.length) : nA (l.take (k + 1)) = nA (l.take k) + if l[k].k = 1 then 1 else 0 := by
  rw [List.take_succ_eq_append_getElem h, nA_app]
  congr 1
  unfold nA
  by_cases e : l[k].k = 1
  · rw [if_pos e, List.filter_cons_of_pos (by simp [e]), List.filter_nil]; rfl
  · rw [if_neg e, List.filter_cons_of_neg (by simp [e]), List.filter_nil]; rfl
theorem red_law {now tk : Int} {me ur og : ByteArray} {mo : Int} {qh : List Hd} {qb : ByteArray} {ck : Bool} {j : List Ck × Int} {C : List En} {s0 s1 s2 s3 : Nat} {r : Rn} (hr : runF now (rdOps og (stF s0 s1 s2 s3) 13) (startF now (newS tk me ur og mo qh qb ck) j C) = r) : r.s.ph ≠ 1 ∧ r.s.ph ≠ 2 ∧ nA r.ev ≤ 11 ∧ (C.length = 0 → (r.s.er = 16 ∧ nA r.ev = 11) ∨ nA r.ev = 0) := by
  obtain ⟨f, hf⟩ : ∃ f, stF s0 s1 s2 s3 = f := ⟨_, rfl⟩
  have hm : ∀ i, movB (f i) = true := by rw [← hf]; exact stF_mov s0 s1 s2 s3
  obtain ⟨S, hS⟩ : ∃ S, newS tk me ur og mo qh qb ck = S := ⟨_, rfl⟩
  have ho : S.og = og := by rw [← hS]; rfl
  have hh : S.ho = 0 := by rw [← hS]; rfl
  rw [hf, hS, ← ho] at hr
  clear hf hS ho
  exact red_end now f hm hh j C r hr
set_option maxRecDepth 20000 in
set_option maxHeartbeats 8000000 in
theorem fetchredirects_law (vj : Value) (J : List Ck) (nx : Int) (vc : Value) (lx : List Ee) (now tk : Int) (me ur og : ByteArray) (mo : Int) (vq : Value) (qh : List Hd) (qb : ByteArray) (ck : Bool) (s0 s1 s2 s3 : Nat) (w : World) (hM : MaxAt w) (hG : 0 < w.heap.size) (HW : WIn w vj J vc lx) (HQ : QIn w ur og vq qh qb) :
    Calls Tryz.prog 7 #[.agg #[vj, .int .i64 nx, vc, .int .i64 now], .agg #[.int .i64 tk, .string me, .string ur, .string og, .int .i64 mo, vq, .string qb, .bool ck], .agg #[.int .u8 s0, .int .u8 s1, .int .u8 s2, .int .u8 s3]] w fun e w' => e = .returned (.bool true) ∧ Below w.heap.size w w' := by
  obtain ⟨ja, jc, rfl, _⟩ := HW.j.shape
  obtain ⟨ca, cc, rfl, _⟩ := HW.c.shape
  obtain ⟨qa, qc, rfl, _⟩ := HQ.q.shape
  obtain ⟨w0, hw0, hb0, W0, Q0, T0⟩ : ∃ w0 : World, ((w.alloc (.cells [.slice ja J.length jc, .int .i64 nx, .slice ca lx.length cc, .int .i64 now].toArray 27)).alloc (.cells [.int .i64 tk, .string me, .string ur, .string og, .int .i64 mo, .slice qa qh.length qc, .string qb, .bool ck].toArray 30)).alloc (.cells [.int .u8 s0, .int .u8 s1, .int .u8 s2, .int .u8 s3].toArray 66) = w0 ∧ Below w.heap.size w w0 ∧ AtL w0 w.heap.size [.slice ja J.length jc, .int .i64 nx, .slice ca lx.length cc, .int .i64 now] ∧ AtL w0 (w.heap.size + 1) [.int .i64 tk, .string me, .string ur, .string og, .int .i64 mo, .slice qa qh.length qc, .string qb, .bool ck] ∧ AtL w0 (w.heap.size + 1 + 1) [.int .u8 s0, .int .u8 s1, .int .u8 s2, .int .u8 s3] := by
    refine ⟨_, rfl, (((Below.refl _ w).alloc (Nat.le_refl _) _).alloc (by simp) _).alloc (by simp; omega) _, ((AtL.new w _ _).alloc _).alloc _, ?_, ?_⟩
    · have h := (AtL.new (w.alloc (.cells [.slice ja J.length jc, .int .i64 nx, .slice ca lx.length cc, .int .i64 now].toArray 27)) [.int .i64 tk, .string me, .string ur, .string og, .int .i64 mo, .slice qa qh.length qc, .string qb, .bool ck] 30).alloc (.cells [.int .u8 s0, .int .u8 s1, .int .u8 s2, .int .u8 s3].toArray 66)
      rw [show (w.alloc (.cells [.slice ja J.length jc, .int .i64 nx, .slice ca lx.length cc, .int .i64 now].toArray 27)).heap.size = w.heap.size + 1 by simp] at h
      exact h
    · have h := AtL.new ((w.alloc (.cells [.slice ja J.length jc, .int .i64 nx, .slice ca lx.length cc, .int .i64 now].toArray 27)).alloc (.cells [.int .i64 tk, .string me, .string ur, .string og, .int .i64 mo, .slice qa qh.length qc, .string qb, .bool ck].toArray 30)) [.int .u8 s0, .int .u8 s1, .int .u8 s2, .int .u8 s3] 66
      rw [show ((w.alloc (.cells [.slice ja J.length jc, .int .i64 nx, .slice ca lx.length cc, .int .i64 now].toArray 27)).alloc (.cells [.int .i64 tk, .string me, .string ur, .string og, .int .i64 mo, .slice qa qh.length qc, .string qb, .bool ck].toArray 30)).heap.size = w.heap.size + 1 + 1 by simp] at h
      exact h
  obtain ⟨W, hW⟩ : ∃ W, w.heap.size = W := ⟨_, rfl⟩
  obtain ⟨Q, hQ⟩ : ∃ Q, W + 1 = Q := ⟨_, rfl⟩
  obtain ⟨T, hT⟩ : ∃ T, Q + 1 = T := ⟨_, rfl⟩
  rw [hW] at W0 Q0 T0
  rw [hQ] at Q0 T0
  rw [hT] at T0
  have CF := Lib.hid (fit_is45 w0 (hM.below hb0 (Nat.le_refl _)))
  obtain ⟨R, hR⟩ : ∃ R, few4 J nx (lx.map (·.2)) qh ur og qb [] = R := ⟨_, rfl⟩
  have CW := Lib.hid (fun (w' : World) (hb : Below w.heap.size w w') => few4_is w' _ J nx _ lx now tk me ur og mo _ qh qb ck (.slice none 0 0) [] (HW.below hb) (HQ.below hb) (OIn.nil w') R hR)
  have a0 := W0.c 0 rfl; have a1 := W0.c 1 rfl; have a2 := W0.c 2 rfl; have a3 := W0.c 3 rfl
  have q0 := Q0.c 0 rfl; have q1 := Q0.c 1 rfl; have q2 := Q0.c 2 rfl; have q3 := Q0.c 3 rfl; have q4 := Q0.c 4 rfl; have q5 := Q0.c 5 rfl; have q6 := Q0.c 6 rfl; have q7 := Q0.c 7 rfl
  have al := W0.lt
  have ql := Q0.lt
  cases R with
  | false =>
    clear hR HW HQ hM
    go_enter Tryz.func7, Tryz.ntmps7
    go_wp2_with (first
      | (go_at_call 11; (with_reducible refine CF.out.mono ?_); rintro e1 w1 ⟨rfl, hb1⟩; have Q1 := Q0.next hb1; have W1 := W0.next hb1; have T1 := T0.next hb1; have hB1 := hb0.trans (hb1.mono hb0.size); clear q0 q1 q2 q3 q4 q5 q6 q7 a0 a1 a2 a3; have q0 := Q1.c 0 rfl; have q1 := Q1.c 1 rfl; have q2 := Q1.c 2 rfl; have q3 := Q1.c 3 rfl; have q4 := Q1.c 4 rfl; have q5 := Q1.c 5 rfl; have q6 := Q1.c 6 rfl; have q7 := Q1.c 7 rfl; have a0 := W1.c 0 rfl; have a1 := W1.c 1 rfl; have a2 := W1.c 2 rfl; have a3 := W1.c 3 rfl; have ql1 := Q1.lt; have al1 := W1.lt)
      | (go_at_call 12; (with_reducible refine (CW.out _ hB1).mono ?_); rintro e2 w2 ⟨rfl, hb2⟩; have Q2 := Q1.next hb2; have W2 := W1.next hb2; have T2 := T1.next hb2; have hB2 := hB1.trans (hb2.mono hB1.size); clear q0 q1 q2 q3 q4 q5 q6 q7 a0 a1 a2 a3; have q0 := Q2.c 0 rfl; have q1 := Q2.c 1 rfl; have q2 := Q2.c 2 rfl; have q3 := Q2.c 3 rfl; have q4 := Q2.c 4 rfl; have q5 := Q2.c 5 rfl; have q6 := Q2.c 6 rfl; have q7 := Q2.c 7 rfl; have a0 := W2.c 0 rfl; have a1 := W2.c 1 rfl; have a2 := W2.c 2 rfl; have a3 := W2.c 3 rfl; have ql2 := Q2.lt; have al2 := W2.lt)
      | fail)
    go_ret
    exact ⟨rfl, hB2⟩
  | true =>
    have hF := few4_ok hR
    obtain ⟨r, hr⟩ : ∃ r, runF now (rdOps og (stF s0 s1 s2 s3) 13) (startF now (newS tk me ur og mo qh qb ck) (J, nx) (lx.map (·.2))) = r := ⟨_, rfl⟩
    have hend := red_law hr
    have HEND := Lib.hid hend
    have HOG := Lib.hid (few4_sz hR).2.1
    have CR := Lib.hid (fun (w' : World) (hb : Below w.heap.size w w') (ov : Value) (lo : List (Value × Op4)) (hO : OIn w' ov lo) (hlo : lo.map (·.2) = rdOps og (stF s0 s1 s2 s3) 13) (hop : ∀ x ∈ lo, OpOk x.2 ∧ x.2.k < 256) (hl : lo.length ≤ 40) (hse : ∀ x ∈ lo, (∃ h ∈ x.2.hs, isH h scN = true) → SetC) => run_is w' _ J nx _ lx now tk me ur og mo _ qh qb ck ov lo (hM.below hb (Nat.le_refl _)) (Nat.lt_of_lt_of_le hG hb.size) (HW.below hb) (HQ.below hb) hO (hF.q tk me mo ck) hF.j hF.n1 hF.n2 hF.c hop hl hse r (by rw [hlo]; exact hr))
    clear hR HW HQ hM hF hr hend
    go_enter Tryz.func7, Tryz.ntmps7
    go_upto_region 6 with (first
      | (go_at_call 11; (with_reducible refine CF.out.mono ?_); rintro e1 w1 ⟨rfl, hb1⟩; have Q1 := Q0.next hb1; have W1 := W0.next hb1; have T1 := T0.next hb1; have hB1 := hb0.trans (hb1.mono hb0.size); clear q0 q1 q2 q3 q4 q5 q6 q7 a0 a1 a2 a3; have q0 := Q1.c 0 rfl; have q1 := Q1.c 1 rfl; have q2 := Q1.c 2 rfl; have q3 := Q1.c 3 rfl; have q4 := Q1.c 4 rfl; have q5 := Q1.c 5 rfl; have q6 := Q1.c 6 rfl; have q7 := Q1.c 7 rfl; have a0 := W1.c 0 rfl; have a1 := W1.c 1 rfl; have a2 := W1.c 2 rfl; have a3 := W1.c 3 rfl; have ql1 := Q1.lt; have al1 := W1.lt)
      | (go_at_call 12; (with_reducible refine (CW.out _ hB1).mono ?_); rintro e2 w2 ⟨rfl, hb2⟩; have Q2 := Q1.next hb2; have W2 := W1.next hb2; have T2 := T1.next hb2; have hB2 := hB1.trans (hb2.mono hB1.size); clear q0 q1 q2 q3 q4 q5 q6 q7 a0 a1 a2 a3; have q0 := Q2.c 0 rfl; have q1 := Q2.c 1 rfl; have q2 := Q2.c 2 rfl; have q3 := Q2.c 3 rfl; have q4 := Q2.c 4 rfl; have q5 := Q2.c 5 rfl; have q6 := Q2.c 6 rfl; have q7 := Q2.c 7 rfl; have a0 := W2.c 0 rfl; have a1 := W2.c 1 rfl; have a2 := W2.c 2 rfl; have a3 := W2.c 3 rfl; have ql2 := Q2.lt; have al2 := W2.lt)
      | fail)
    obtain ⟨N2, hN2⟩ : ∃ N2, w2.heap.size = N2 := ⟨_, rfl⟩
    have HN2 := Lib.hid hN2
    clear hN2 q0 q1 q2 q3 q4 q5 q6 q7 a0 a1 a2 a3 ql1 al1 ql2 al2 al ql Q0 W0 T0 Q1 W1 T1 hb0 hB1 hb1 CF CW
    go_wp2_with fail
    go_loopw [7, 22] (fun ov iv wr => ∃ (k : Nat) (lo : List (Value × Op4)), k ≤ 13 ∧ iv = .int .i64 k ∧ OpsIn wr w2.heap.size ov lo ∧ Hid (lo.length = k) ∧ Hid (lo.map (·.2) = rdOps og (stF s0 s1 s2 s3) k) ∧ Hid (∀ x ∈ lo, WtH x.2.hs) ∧ Below w2.heap.size w2 wr) (fun _ iv _ => 13 - (intOf iv).toNat)
    case atStart => exact ⟨0, [], by omega, rfl, OpsIn.nil _ _, Lib.hid rfl, Lib.hid rfl, Lib.hid (fun x hx => by cases hx), Below.refl _ _⟩
    case round =>
      obtain ⟨k, lo, hk, rfl, hO, hll, hlo, hwt, hbw⟩ := hrel
      have T3 := T2.next hbw
      have Q3 := Q2.next hbw
      have W3 := W2.next hbw
      have t0 := T3.c 0 rfl; have t1 := T3.c 1 rfl; have t2 := T3.c 2 rfl; have t3 := T3.c 3 rfl
      have q0 := Q3.c 0 rfl; have q1 := Q3.c 1 rfl; have q2 := Q3.c 2 rfl; have q3 := Q3.c 3 rfl; have q4 := Q3.c 4 rfl; have q5 := Q3.c 5 rfl; have q6 := Q3.c 6 rfl; have q7 := Q3.c 7 rfl
      have tl3 := T3.lt
      have ql3 := Q3.lt
      by_cases hlt : k < 13
      · go_upto_region 9 with fail
        go_cut [9] from 25 to 31 (fun c9 w9 => Value.int .i64 (stF s0 s1 s2 s3 k) = c9 ∧ Hid (wr = w9))
        case first =>
          rcases (show k % 4 = 0 ∨ k % 4 = 1 ∨ k % 4 = 2 ∨ k % 4 = 3 by omega) with h4 | h4 | h4 | h4
          · have e4 : (k : Int) % 4 = 0 := by omega
            rcases (show s0 % 5 = 0 ∨ s0 % 5 = 1 ∨ s0 % 5 = 2 ∨ s0 % 5 = 3 ∨ s0 % 5 = 4 by omega) with h5 | h5 | h5 | h5 | h5
            · have e5 : (s0 : Int) % 5 = 0 := by omega
              go_wp2_with fail
              go_meet
              case rel => exact ⟨by simp [stF, stA, h4, h5], Lib.hid rfl⟩
            · have e5 : (s0 : Int) % 5 = 1 := by omega
              go_wp2_with fail
              go_meet
              case rel => exact ⟨by simp [stF, stA, h4, h5], Lib.hid rfl⟩
            · have e5 : (s0 : Int) % 5 = 2 := by omega
              go_wp2_with fail
              go_meet
              case rel => exact ⟨by simp [stF, stA, h4, h5], Lib.hid rfl⟩
            · have e5 : (s0 : Int) % 5 = 3 := by omega
              go_wp2_with fail
              go_meet
              case rel => exact ⟨by simp [stF, stA, h4, h5], Lib.hid rfl⟩
            · have e5 : (s0 : Int) % 5 = 4 := by omega
              go_wp2_with fail
              go_meet
              case rel => exact ⟨by simp [stF, stA, h4, h5], Lib.hid rfl⟩
          · have e4 : (k : Int) % 4 = 1 := by omega
            rcases (show s1 % 5 = 0 ∨ s1 % 5 = 1 ∨ s1 % 5 = 2 ∨ s1 % 5 = 3 ∨ s1 % 5 = 4 by omega) with h5 | h5 | h5 | h5 | h5
            · have e5 : (s1 : Int) % 5 = 0 := by omega
              go_wp2_with fail
              go_meet
              case rel => exact ⟨by simp [stF, stA, h4, h5], Lib.hid rfl⟩
            · have e5 : (s1 : Int) % 5 = 1 := by omega
              go_wp2_with fail
              go_meet
              case rel => exact ⟨by simp [stF, stA, h4, h5], Lib.hid rfl⟩
            · have e5 : (s1 : Int) % 5 = 2 := by omega
              go_wp2_with fail
              go_meet
              case rel => exact ⟨by simp [stF, stA, h4, h5], Lib.hid rfl⟩
            · have e5 : (s1 : Int) % 5 = 3 := by omega
              go_wp2_with fail
              go_meet
              case rel => exact ⟨by simp [stF, stA, h4, h5], Lib.hid rfl⟩
            · have e5 : (s1 : Int) % 5 = 4 := by omega
              go_wp2_with fail
              go_meet
              case rel => exact ⟨by simp [stF, stA, h4, h5], Lib.hid rfl⟩
          · have e4 : (k : Int) % 4 = 2 := by omega
            rcases (show s2 % 5 = 0 ∨ s2 % 5 = 1 ∨ s2 % 5 = 2 ∨ s2 % 5 = 3 ∨ s2 % 5 = 4 by omega) with h5 | h5 | h5 | h5 | h5
            · have e5 : (s2 : Int) % 5 = 0 := by omega
              go_wp2_with fail
              go_meet
              case rel => exact ⟨by simp [stF, stA, h4, h5], Lib.hid rfl⟩
            · have e5 : (s2 : Int) % 5 = 1 := by omega
              go_wp2_with fail
              go_meet
              case rel => exact ⟨by simp [stF, stA, h4, h5], Lib.hid rfl⟩
            · have e5 : (s2 : Int) % 5 = 2 := by omega
              go_wp2_with fail
              go_meet
              case rel => exact ⟨by simp [stF, stA, h4, h5], Lib.hid rfl⟩
            · have e5 : (s2 : Int) % 5 = 3 := by omega
              go_wp2_with fail
              go_meet
              case rel => exact ⟨by simp [stF, stA, h4, h5], Lib.hid rfl⟩
            · have e5 : (s2 : Int) % 5 = 4 := by omega
              go_wp2_with fail
              go_meet
              case rel => exact ⟨by simp [stF, stA, h4, h5], Lib.hid rfl⟩
          · have e4 : (k : Int) % 4 = 3 := by omega
            rcases (show s3 % 5 = 0 ∨ s3 % 5 = 1 ∨ s3 % 5 = 2 ∨ s3 % 5 = 3 ∨ s3 % 5 = 4 by omega) with h5 | h5 | h5 | h5 | h5
            · have e5 : (s3 : Int) % 5 = 0 := by omega
              go_wp2_with fail
              go_meet
              case rel => exact ⟨by simp [stF, stA, h4, h5], Lib.hid rfl⟩
            · have e5 : (s3 : Int) % 5 = 1 := by omega
              go_wp2_with fail
              go_meet
              case rel => exact ⟨by simp [stF, stA, h4, h5], Lib.hid rfl⟩
            · have e5 : (s3 : Int) % 5 = 2 := by omega
              go_wp2_with fail
              go_meet
              case rel => exact ⟨by simp [stF, stA, h4, h5], Lib.hid rfl⟩
            · have e5 : (s3 : Int) % 5 = 3 := by omega
              go_wp2_with fail
              go_meet
              case rel => exact ⟨by simp [stF, stA, h4, h5], Lib.hid rfl⟩
            · have e5 : (s3 : Int) % 5 = 4 := by omega
              go_wp2_with fail
              go_meet
              case rel => exact ⟨by simp [stF, stA, h4, h5], Lib.hid rfl⟩
        case rest =>
          obtain ⟨rfl, hw9⟩ := hcut
          obtain rfl := hw9.out
          obtain ⟨b, X, hX, hqm, hcv⟩ := cv_ex wr k hlt
          have HX := Lib.hid hX
          have hlz : (k : Int) < 13 := by omega
          obtain ⟨ov1, oc1, rfl, _⟩ := own_reads hO.own
          have HO := Lib.hid hO
          have hwz := hbw.size
          have hbA : Below w2.heap.size w2 (wr.alloc (.cells [.int .u8 (97 + (k : Int))].toArray 5)) := hbw.alloc hwz _
          have hbB : Below w2.heap.size w2 ((wr.alloc (.cells [.int .u8 (97 + (k : Int))].toArray 5)).alloc (.cells [.string loN, .string X, .string acoC, .string og, .string accC, .string trueS].toArray 70)) := hbA.alloc hbA.size _
          have hoB := (hO.own.alloc (.cells [.int .u8 (97 + (k : Int))].toArray 5)).alloc (.cells [.string loN, .string X, .string acoC, .string og, .string accC, .string trueS].toArray 70)
          have hzB := hbB.size
          have hln : lo.length ≤ 13 := by have := hll.out; omega
          clear hX hO hk
          go_wp2_with (refine app2 slOp _ (by rfl) (.tmp 32) (.tmp 47) (by rfl) w2.heap.size _ _ _ (by rfl) hoB [_, _, _, _] 1 _ (by rfl) (by simp) (by rfl) (by intro u hu; simp at hu; rcases hu with rfl | rfl | rfl | rfl <;> rfl) (by decide) (by omega) (by omega) hzB ?_; intro v2 w8 hA2 gA fA)
          have hB8 := below_own hbB hoB gA hzB (Nat.le_refl _)
          have hON := rd_app (k := k) HO.out HX.out hA2 gA fA
          go_roundw
          case rel =>
            refine ⟨k + 1, _, by omega, by go_num, hON, Lib.hid (by rw [List.length_append, hll.out]; rfl), Lib.hid (by rw [List.map_append, hlo.out, rdOps_succ]; rfl), Lib.hid (fun x hx => ?_), hB8⟩
            rcases List.mem_append.1 hx with hx | hx
            · exact hwt.out x hx
            · obtain rfl := List.mem_singleton.1 hx
              exact rd_wt og k HOG.out
          case measure => simp [intOf]; omega
      · obtain rfl : k = 13 := by omega
        obtain ⟨ov1, oc1, rfl, _⟩ := own_reads hO.own
        have hB3 := hB2.trans (hbw.mono hB2.size)
        have hrd : ∀ x ∈ lo, OpOk x.2 ∧ x.2.k < 256 ∧ ∀ h ∈ x.2.hs, isH h scN = true → False := fun x hx => rd_ok og _ 13 HOG.out x.2 (by rw [← hlo.out]; exact List.mem_map_of_mem hx)
        have CR3 := Lib.hid (CR.out wr hB3 _ lo (hO.oin hwt.out) hlo.out (fun x hx => ⟨(hrd x hx).1, (hrd x hx).2.1⟩) (by rw [hll.out]; decide) (fun x hx ⟨h, hh, e⟩ => ((hrd x hx).2.2 h hh e).elim))
        clear hrd hO hk hlt
        have a0 := W3.c 0 rfl; have a1 := W3.c 1 rfl; have a2 := W3.c 2 rfl; have a3 := W3.c 3 rfl
        have al3 := W3.lt
        go_upto_region 13 with (first
          | (go_at_call 13; (with_reducible refine CR3.out.mono ?_); rintro e7 w7 hq7; obtain ⟨L, V, ea, n, ek, l, vj3, vc3, lx3, rfl, hn3, hL, hV, hRL⟩ := RunQ.law hq7; have Z3 := lawW_at w7; have Z4 := lawW_at2 w7 L; have HL := Lib.hid hL; have HV := Lib.hid hV; have HRL := Lib.hid hRL; have HN := Lib.hid hn3; clear hq7 hL hV hRL hn3)
          | (refine wpList_store_at rfl 40 _ _ rfl w7.heap.size L rfl rfl Z3 HL.out.1 (by rw [HL.out.1]; kernel_rfl) HL.out.2 ?_)
          | (refine wpList_store_at rfl 27 _ _ rfl (w7.heap.size + 1) V rfl rfl Z4 HV.out.1 (by rw [HV.out.1]; kernel_rfl) HV.out.2 ?_)
          | fail)
        obtain ⟨w8, hw8⟩ : ∃ w8 : World, (((w7.alloc (.cells fz.toArray 40)).alloc (.cells wz.toArray 27)).setCells w7.heap.size 0 L).setCells (w7.heap.size + 1) 0 V = w8 := ⟨_, rfl⟩
        have R8 : RunL wr now r w7.heap.size L (.slice ea n ek) l vj3 vc3 lx3 w8 := by rw [← hw8]; exact HRL.out
        obtain ⟨s1, hs1⟩ : ∃ s1, w7.heap.size = s1 := ⟨_, rfl⟩
        rw [hs1] at R8
        rw [hw8, hs1]
        obtain rfl : n = l.length := HN.out
        have W8 := W3.next R8.bl
        have hEV := R8.ev
        have hll8 := slk_len hEV
        have hPH := R8.ph
        have hER := R8.er
        have hsl := R8.st.lt
        have HEQ := Lib.hid R8.eq
        have HEV := Lib.hid (slk_at hEV)
        have HHS := Lib.hid R8.hs
        have hB8 := hB3.trans (R8.bl.mono hB3.size)
        clear hw8 hs1 HRL HL HV HN Z3 Z4 R8 hEV CR CR3 W3 Q3 T3 W2 Q2 T2 a0 a1 a2 a3 al3 t0 t1 t2 t3 q0 q1 q2 q3 q4 q5 q6 q7 tl3 ql3
        go_wp2_with fail
        go_loopw [13, 60] (fun nv iv wx => ∃ (kk m : Nat), kk ≤ l.length ∧ m ≤ kk ∧ iv = .int .i64 kk ∧ nv = .int .i64 m ∧ Hid (m = nA (r.ev.take kk)) ∧ Below w8.heap.size w8 wx) (fun _ iv _ => l.length - (intOf iv).toNat)
        case atStart => exact ⟨0, 0, Nat.zero_le _, Nat.le_refl _, rfl, rfl, Lib.hid rfl, Below.refl _ _⟩
        case round =>
          obtain ⟨kk, m, hkk, hmk, rfl, rfl, hm, hbx⟩ := hrel
          by_cases hlt2 : kk < l.length
          · obtain ⟨b0, off, cap, he, hb0', hcell⟩ := HEV.out (by omega)
            injection he with e1 e2 e3
            subst e1 e3
            clear e2
            have cc : ∀ j u, (evC l[kk])[j]? = some u → wr.cell? ⟨b0, off + kk * 7 + j, none⟩ = some u := fun j u hu => (brl hbx _ _ hb0').trans (hcell kk hlt2 j u hu)
            have hx := HHS.out _ (List.getElem_mem hlt2)
            have hev : kk < r.ev.length := by rw [← HEQ.out, List.length_map]; exact hlt2
            have hek : r.ev[kk] = l[kk].2 := by
              have := congrArg (fun l => l[kk]?) HEQ.out
              simp only [List.getElem?_map, List.getElem?_eq_getElem hlt2, List.getElem?_eq_getElem hev, Option.map_some] at this
              exact (Option.some.inj this).symm
            have hn := nA_succ hev
            rw [hek, ← hm.out] at hn
            obtain ⟨y, hy⟩ : ∃ y, l[kk] = y := ⟨_, rfl⟩
            rw [hy] at cc hx hn
            obtain ⟨yv, ye⟩ := y
            obtain ⟨xa, xc, hxv, _⟩ := hx.shape
            have hxv : yv = .slice xa ye.hs.length xc := hxv
            subst hxv
            have hn : nA (r.ev.take (kk + 1)) = m + if ye.k = 1 then 1 else 0 := hn
            clear hcell hy hx hek hev hm
            have c0 := cc 0 _ rfl
            have c1 := cc 1 _ rfl
            have c2 := cc 2 _ rfl
            have c3 := cc 3 _ rfl
            have c4 := cc 4 _ rfl
            have c5 := cc 5 _ rfl
            have c6 := cc 6 _ rfl
            simp only [Nat.add_zero] at c0
            simp only at c0 c1 c2 c3 c4 c5 c6
            clear cc
            have hki : (kk : Int) < (l.length : Int) := by omega
            have h0w : b0 < wr.heap.size := Nat.lt_of_lt_of_le hb0' hbx.size
            have hbn : Below w8.heap.size w8 (wr.alloc (.cells [.int .i64 ye.k, .string ye.me, .string ye.ur, .slice xa ye.hs.length xc, .string ye.bo, .int .i64 ye.st, .int .i64 ye.er].toArray 48)) := hbx.alloc hbx.size _
            by_cases hk1 : ye.k = 1
            · rw [if_pos hk1] at hn
              rw [hk1] at c0 hbn
              have HNN := Lib.hid hn
              clear hn hk1
              go_wp2_with fail
              go_roundw
              case rel => exact ⟨kk + 1, m + 1, by omega, by omega, by go_num, by go_num, Lib.hid HNN.out.symm, hbn⟩
              case measure => simp [intOf]; omega
            · rw [if_neg hk1, Nat.add_zero] at hn
              have hke : (ye.k == 1) = false := beq_eq_false_iff_ne.2 hk1
              have HNN := Lib.hid hn
              clear hn hk1
              go_wp2_with fail
              go_roundw
              case rel => exact ⟨kk + 1, m, by omega, by omega, by go_num, rfl, Lib.hid HNN.out.symm, hbn⟩
              case measure => simp [intOf]; omega
          · obtain rfl : kk = l.length := by omega
            have hmn : m = nA r.ev := by
              have h2 : r.ev.length = l.length := by rw [← HEQ.out, List.length_map]
              rw [hm.out, ← h2, List.take_length]
            obtain ⟨hp1, hp2, hn11, hend⟩ := HEND.out
            have hq1 : (r.s.ph == 1) = false := beq_eq_false_iff_ne.2 hp1
            have hq2 : (r.s.ph == 2) = false := beq_eq_false_iff_ne.2 hp2
            have hm11 : m ≤ 11 := by omega
            have c8 := (brl hbx _ _ hsl).trans hPH
            have c22 := (brl hbx _ _ hsl).trans hER
            have hsw : s1 < wr.heap.size := Nat.lt_of_lt_of_le hsl hbx.size
            have HBW := Lib.hid (hB8.trans (hbx.mono hB8.size))
            have W9 := W8.next hbx
            have a0 := W9.c 0 rfl; have a1 := W9.c 1 rfl; have a2 := W9.c 2 rfl; have a3 := W9.c 3 rfl
            have al9 := W9.lt
            by_cases hl0 : lx.length = 0
            · have hcs := hend (by rw [List.length_map]; exact hl0)
              rw [hl0] at a2
              rcases hcs with ⟨he, hn⟩ | hn
              · obtain rfl : m = 11 := by omega
                rw [he] at c22
                clear hmn hp1 hp2 hn11 hend hm11 hl0 he hn hm hPH hER HEND
                go_wp2_with fail
                all_goals
                  go_ret
                  first
                    | exact ⟨rfl, HBW.out⟩
                    | exact ⟨ret_bool (by simp), HBW.out⟩
                    | exact ⟨ret_bool (by simp; omega), HBW.out⟩
                    | fail
              · obtain rfl : m = 0 := by omega
                clear hmn hp1 hp2 hn11 hend hm11 hl0 hn hm hPH hER HEND
                go_wp2_with fail
                all_goals
                  go_ret
                  first
                    | exact ⟨rfl, HBW.out⟩
                    | exact ⟨ret_bool (by simp), HBW.out⟩
                    | exact ⟨ret_bool (by simp; omega), HBW.out⟩
                    | fail
            · have hlp : (0 : Int) < (lx.length : Int) := by omega
              have HL0 := Lib.hid (fun h : lx = [] => hl0 (by rw [h]; rfl))
              clear hmn hp1 hp2 hn11 hend hl0 hm hPH hER HEND
              go_wp2_with fail
              all_goals
                go_ret
                first
                  | exact absurd (by assumption : lx = []) HL0.out
                  | exact ⟨rfl, HBW.out⟩
                  | exact ⟨ret_bool (by simp), HBW.out⟩
                  | exact ⟨ret_bool (by simp; omega), HBW.out⟩
                  | fail
end Go.Proofs.YtjdhaacmlpegoaaGreatDoor
