/- Fetch: Begin (the laws' example). -/
import Derived.Test.YtjdhaacmlpegoaaGreatDoorTH
import Derived.Deep.MidRow
namespace Go.Proofs.YtjdhaacmlpegoaaGreatDoor
set_option linter.unusedVariables false
set_option linter.unusedSimpArgs false
open Go.RowKit

theorem retct_run {P : Program} {fn : Func} {q T r : Nat} (hr : fn.results = #[.cell q T, .tmp r]) {vs : List Value} (hz : ∀ w, (Go.sizeOf T).run P w = .ok vs.length w) (ha : ∀ w, (isAgg T).run P w = .ok true w) (tmps : Array Value) (W : World) (k : Nat) (x : Value) (h2 : tmps.getD q undef = .pointer (some ⟨k, 0, none⟩)) (h3 : tmps.getD r undef = x) (hA : AtL W k vs) :
    (results fn tmps).run P W = .ok (.tuple #[.agg vs.toArray, x]) W := by
  have hl : (loadCells ⟨k, 0, none⟩ vs.length).run P W = .ok vs.toArray W := run_loadCells_list (P := P) W ⟨k, 0, none⟩ vs (fun j v hv => by rw [Addr.add_lit, Nat.zero_add]; exact hA.c j hv)
  have hl2 : (loadCellsFrom ⟨k, 0, none⟩ 0 vs.length #[]).run P W = .ok vs.toArray W := by simpa [loadCells] using hl
  rw [Array.getD_eq_getD_getElem?] at h2 h3
  simp [results, hr, h2, h3, go_sem, ha, hz, hl2]
theorem AtL.setsFrom {k : Nat} : ∀ {W : World} {o : Nat} (pre rest vs : List Value), AtL W k (pre ++ rest) → pre.length = o → vs.length = rest.length → AtL (W.setCells k o vs) k (pre ++ vs)
  | W, o, pre, [], [], h, _, _ => h
  | W, o, pre, r :: rs, v :: vs, h, ho, hl => by
    have h1 : AtL (W.setCell ⟨k, o, none⟩ v) k (pre ++ v :: rs) := by
      have h2 := h.set o v
      rw [List.set_append, if_neg (by omega), show o - pre.length = 0 by omega] at h2
      exact h2
    have h3 : AtL (W.setCell ⟨k, o, none⟩ v) k ((pre ++ [v]) ++ rs) := by simpa using h1
    have h4 := AtL.setsFrom (o := o + 1) (pre ++ [v]) rs vs h3 (by simp [ho]) (by simpa using hl)
    simpa [World.setCells] using h4
theorem AtL.sets {k : Nat} {W : World} {vs us : List Value} (h : AtL W k us) (hl : vs.length = us.length) : AtL (W.setCells k 0 vs) k vs := AtL.setsFrom [] us vs h rfl hl
theorem AtL.farSets {k q : Nat} {ls : List Value} (hk : k ≠ q) : ∀ {W : World} {o : Nat} (vs : List Value), AtL W q ls → AtL (W.setCells k o vs) q ls
  | _, _, [], h => h
  | _, _, _ :: vs, h => AtL.farSets hk vs (h.far _ _ hk)
theorem But2.sets {n x y k : Nat} {w : World} (hp : k = x ∨ k = y ∨ n ≤ k) : ∀ {W : World} {o : Nat} (vs : List Value), But2 n x y w W → But2 n x y w (W.setCells k o vs)
  | _, _, [], h => h
  | _, _, _ :: vs, h => But2.sets hp vs (h.setCell ⟨k, _, none⟩ hp _)
theorem Below.sets {B k : Nat} {w : World} (hp : B ≤ k) : ∀ {W : World} {o : Nat} (vs : List Value), Below B w W → Below B w (W.setCells k o vs)
  | _, _, [], h => h
  | _, _, _ :: vs, h => Below.sets hp vs (h.setCell (p := ⟨k, _, none⟩) hp _)
theorem AtL.range {W : World} {k : Nat} {vs : List Value} (h : AtL W k vs) : W.rangeAt k 0 vs := fun j v hv => by rw [Nat.zero_add]; exact h.c j hv
theorem AtL.there {W : World} {k : Nat} {vs : List Value} (h : AtL W k vs) (n : Nat) (hn : n = vs.length) : W.there k 0 n := fun j hj => by
  subst hn
  rw [Nat.zero_add]
  exact ⟨by rw [h.c j (List.getElem?_eq_getElem hj)]; rfl, h.f j (List.getElem?_eq_getElem hj)⟩
theorem wpList_load_at {P : Program} {ops : Array Oper} {rest : List Oper} {op : Oper} {a : Act} {w : World} {Q : Exit → Act → World → Prop} (hgd : op.guard = none) (ty : TypeId) (x : Operand) (ho : op.op = .load ty x) (b : Nat) (hx : a.eval x = .pointer (some ⟨b, 0, none⟩)) {cs : List Value} (hA : AtL w b cs) {d : TypeDesc} (hu : P.underlying ty = some d) (hd : d.isRow = true) (hi : (P.info? ty).map (·.size) = some cs.length)
    (h : wpList P ops Q rest (a.put op.dst (.agg cs.toArray)) w) : wpList P ops Q (op :: rest) a w := wpList_load_mid hgd ty x ho b 0 hx cs d hA.range hu hd hi h
theorem wpList_store_at {P : Program} {ops : Array Oper} {rest : List Oper} {op : Oper} {a : Act} {w : World} {Q : Exit → Act → World → Prop} (hgd : op.guard = none) (ty : TypeId) (x y : Operand) (ho : op.op = .store ty x y) (b : Nat) (cs : List Value) (hx : a.eval x = .pointer (some ⟨b, 0, none⟩)) (hy : a.eval y = .agg cs.toArray) {us : List Value} (hA : AtL w b us) (hl : cs.length = us.length) (hi : (P.info? ty).map (·.size) = some cs.length) (h1 : cs.all (·.oneCell') = true)
    (h : wpList P ops Q rest (a.put op.dst undef) (w.setCells b 0 cs)) : wpList P ops Q (op :: rest) a w :=
  wpList_store_mid hgd ty x y ho b 0 cs.toArray hx hy (by simpa using hA.there _ hl) (by simpa using hi) (all_oneCell_toArray (List.all_eq_true.1 h1)) h
/-- what Begin answers in the example -/
def BeginQ (w : World) (cb : Nat) (tk : Int) (ur og bo a b c d e f T : ByteArray) (x : Ending) (w' : World) : Prop := ∃ (K : Nat) (vx : Option Addr) (vk : Nat), x = .returned (.tuple #[.agg #[.int .i64 tk, .string ⟨#[71, 69, 84]⟩, .string ur, .string og, .int .i64 2, .slice vx 0 vk, .string bo, .bool false, .int .i64 1, .string a, .string b, .string c, .string d, .string e, .string f, .string ⟨#[71, 69, 84]⟩, .int .i64 0, .bool false, .bool false, .int .i64 0, .slice none 0 0, .string ⟨#[]⟩, .int .i64 0], .slice (some ⟨K, 0, none⟩) 1 1]) ∧ AtL w' K [.int .i64 1, .string ⟨#[71, 69, 84]⟩, .string T, .slice none 0 0, .string bo, .int .i64 0, .int .i64 0] ∧ But2 w.heap.size cb cb w w'
theorem But2.drop {n m x y : Nat} {w w' : World} (h : But2 m x y w w') (hm : n ≤ m) (hx : n ≤ x) : But2 n y y w w' := ⟨h.os, h.tape, h.output, h.size, fun k hk h1 _ => h.block k (by omega) (by omega) h1⟩
set_option maxRecDepth 20000 in
set_option maxHeartbeats 2000000 in
theorem Begin_fit (jb cb B : Nat) (tk : Int) (ur og bo a b c d e f : ByteArray) (now : Int) (w : World) (hM : MaxAt w) (hG : 0 < B) (hBc : B ≤ cb) (hJ : CaIn w cb B (.slice none 0 0) []) (ha : a.size ≤ 40000) (hb : b.size ≤ 40000) (hc : c.size ≤ 40000) (hdd : d.size ≤ 40000) (he : e.size ≤ 40000) (hf : f.size ≤ 40000) (hO : og.data.toList = orgL (a.data.toList, b.data.toList, c.data.toList, d.data.toList, e.data.toList, f.data.toList)) (T : ByteArray) (hT : T.data.toList = formatL (a.data.toList, b.data.toList, c.data.toList, d.data.toList, e.data.toList, [])) (hus : ur.size ≤ 300000) (hP : parseL ur.data.toList = some (a.data.toList, b.data.toList, c.data.toList, d.data.toList, e.data.toList, f.data.toList)) (hW : webB a = true) :
    Calls Tryz.prog 30 #[.agg #[.int .i64 tk, .string ⟨#[71, 69, 84]⟩, .string ur, .string og, .int .i64 2, .slice none 0 0, .string bo, .bool false], .agg #[.pointer (some ⟨jb, 0, none⟩), .pointer (some ⟨cb, 0, none⟩), .int .i64 now]] w (BeginQ w cb tk ur og bo a b c d e f T) := by
  have hcw := hJ.at_.lt
  have hal1 := (Below.refl _ w).alloc (Nat.le_refl _) (.cells [.int .i64 tk, .string ⟨#[71, 69, 84]⟩, .string ur, .string og, .int .i64 2, .slice none 0 0, .string bo, .bool false].toArray 30)
  have hal2 := hal1.alloc (by simp) (.cells [.pointer (some ⟨jb, 0, none⟩), .pointer (some ⟨cb, 0, none⟩), .int .i64 now].toArray 83)
  have hal3 := hal2.alloc (by simp; omega) (.cells (fsC 0 ⟨#[]⟩ ⟨#[]⟩ ⟨#[]⟩ 0 (.slice none 0 0) ⟨#[]⟩ false 0 ⟨#[]⟩ ⟨#[]⟩ ⟨#[]⟩ ⟨#[]⟩ ⟨#[]⟩ ⟨#[]⟩ ⟨#[]⟩ 0 false false 0 (.slice none 0 0) ⟨#[]⟩ 0).toArray 40)
  have RB3 := ((AtL.new w [.int .i64 tk, .string ⟨#[71, 69, 84]⟩, .string ur, .string og, .int .i64 2, .slice none 0 0, .string bo, .bool false] 30).alloc (.cells [.pointer (some ⟨jb, 0, none⟩), .pointer (some ⟨cb, 0, none⟩), .int .i64 now].toArray 83)).alloc (.cells (fsC 0 ⟨#[]⟩ ⟨#[]⟩ ⟨#[]⟩ 0 (.slice none 0 0) ⟨#[]⟩ false 0 ⟨#[]⟩ ⟨#[]⟩ ⟨#[]⟩ ⟨#[]⟩ ⟨#[]⟩ ⟨#[]⟩ ⟨#[]⟩ 0 false false 0 (.slice none 0 0) ⟨#[]⟩ 0).toArray 40)
  have VB3 := (AtL.new (w.alloc (.cells [.int .i64 tk, .string ⟨#[71, 69, 84]⟩, .string ur, .string og, .int .i64 2, .slice none 0 0, .string bo, .bool false].toArray 30)) [.pointer (some ⟨jb, 0, none⟩), .pointer (some ⟨cb, 0, none⟩), .int .i64 now] 83).alloc (.cells (fsC 0 ⟨#[]⟩ ⟨#[]⟩ ⟨#[]⟩ 0 (.slice none 0 0) ⟨#[]⟩ false 0 ⟨#[]⟩ ⟨#[]⟩ ⟨#[]⟩ ⟨#[]⟩ ⟨#[]⟩ ⟨#[]⟩ ⟨#[]⟩ 0 false false 0 (.slice none 0 0) ⟨#[]⟩ 0).toArray 40)
  have RE3 := AtL.new ((w.alloc (.cells [.int .i64 tk, .string ⟨#[71, 69, 84]⟩, .string ur, .string og, .int .i64 2, .slice none 0 0, .string bo, .bool false].toArray 30)).alloc (.cells [.pointer (some ⟨jb, 0, none⟩), .pointer (some ⟨cb, 0, none⟩), .int .i64 now].toArray 83)) (fsC 0 ⟨#[]⟩ ⟨#[]⟩ ⟨#[]⟩ 0 (.slice none 0 0) ⟨#[]⟩ false 0 ⟨#[]⟩ ⟨#[]⟩ ⟨#[]⟩ ⟨#[]⟩ ⟨#[]⟩ ⟨#[]⟩ ⟨#[]⟩ 0 false false 0 (.slice none 0 0) ⟨#[]⟩ 0) 40
  rw [show (w.alloc (.cells [.int .i64 tk, .string ⟨#[71, 69, 84]⟩, .string ur, .string og, .int .i64 2, .slice none 0 0, .string bo, .bool false].toArray 30)).heap.size = w.heap.size + 1 by simp] at VB3
  rw [show ((w.alloc (.cells [.int .i64 tk, .string ⟨#[71, 69, 84]⟩, .string ur, .string og, .int .i64 2, .slice none 0 0, .string bo, .bool false].toArray 30)).alloc (.cells [.pointer (some ⟨jb, 0, none⟩), .pointer (some ⟨cb, 0, none⟩), .int .i64 now].toArray 83)).heap.size = w.heap.size + 1 + 1 by simp] at RE3
  have CCl := Lib.hid (fun (w' : World) => clo_is [] (.slice none 0 0) w' (slk0 _) (Nat.zero_le _))
  have CB := Lib.hid (fun (w' : World) (s0 : Nat) (vx : Option Addr) (vk : Nat) (hb' : Below w.heap.size w w') (hBs : B ≤ s0) (hsc : s0 ≠ cb) (S' : AtL w' s0 (fsC tk ⟨#[71, 69, 84]⟩ ur og 2 (.slice vx 0 vk) bo false 0 ⟨#[]⟩ ⟨#[]⟩ ⟨#[]⟩ ⟨#[]⟩ ⟨#[]⟩ ⟨#[]⟩ ⟨#[]⟩ 0 false false 0 (.slice none 0 0) ⟨#[]⟩ 0)) => begin_fit s0 jb cb B tk ur og vx vk bo a b c d e f now w' (hM.below hb' (Nat.le_refl _)) hG hBs hBc hsc S' (hJ.below hb' (Nat.le_refl _)) ha hb hc hdd he hf hO T hT hus hP hW)
  have r0 := RB3.c 0 rfl; have r1 := RB3.c 1 rfl; have r2 := RB3.c 2 rfl; have r3 := RB3.c 3 rfl; have r4 := RB3.c 4 rfl; have r5 := RB3.c 5 rfl; have r6 := RB3.c 6 rfl; have r7 := RB3.c 7 rfl
  have rl3 := RB3.lt
  have hBw : B ≤ w.heap.size := by omega
  clear hO hT hP hW hus hM hJ
  go_enter Tryz.func30, Tryz.ntmps30
  go_upto_region 3 with (first
    | (go_at_call 69; (with_reducible refine (CCl.out _).mono ?_); rintro e4 w4 hq4; obtain ⟨vx, vk, rfl, hs4, hb4, hn4⟩ := cloq_open hq4; have RB4 := RB3.next hb4; have VB4 := VB3.next hb4; have RE4 := RE3.next hb4; have hB4 := hal3.trans (hb4.mono hal3.size); clear r0 r1 r2 r3 r4 r5 r6 r7; have r0 := RB4.c 0 rfl; have r1 := RB4.c 1 rfl; have r2 := RB4.c 2 rfl; have r3 := RB4.c 3 rfl; have r4 := RB4.c 4 rfl; have r5 := RB4.c 5 rfl; have r6 := RB4.c 6 rfl; have r7 := RB4.c 7 rfl; have g0 := RB4.f 0 rfl; have g1 := RB4.f 1 rfl; have g2 := RB4.f 2 rfl; have g3 := RB4.f 3 rfl; have g4 := RB4.f 4 rfl; have g5 := RB4.f 5 rfl; have g6 := RB4.f 6 rfl; have g7 := RB4.f 7 rfl; have rl4 := RB4.lt; have Z6 := AtL.new (w4.setCell ⟨w.heap.size, 5, none⟩ (.slice vx 0 vk)) (fsC 0 ⟨#[]⟩ ⟨#[]⟩ ⟨#[]⟩ 0 (.slice none 0 0) ⟨#[]⟩ false 0 ⟨#[]⟩ ⟨#[]⟩ ⟨#[]⟩ ⟨#[]⟩ ⟨#[]⟩ ⟨#[]⟩ ⟨#[]⟩ 0 false false 0 (.slice none 0 0) ⟨#[]⟩ 0) 40; rw [World.size_setCell] at Z6)
    | (refine wpList_store_at rfl 40 _ _ rfl w4.heap.size (fsC tk ⟨#[71, 69, 84]⟩ ur og 2 (.slice vx 0 vk) bo false 0 ⟨#[]⟩ ⟨#[]⟩ ⟨#[]⟩ ⟨#[]⟩ ⟨#[]⟩ ⟨#[]⟩ ⟨#[]⟩ 0 false false 0 (.slice none 0 0) ⟨#[]⟩ 0) rfl rfl Z6 rfl (by kernel_rfl) rfl ?_)
    | fail)
  have RB5 := RB4.set 5 (.slice vx 0 vk)
  have VB5 := VB4.far ⟨w.heap.size, 5, none⟩ (.slice vx 0 vk) (by simp)
  have RE5 := RE4.far ⟨w.heap.size, 5, none⟩ (.slice vx 0 vk) (by show w.heap.size ≠ w.heap.size + 1 + 1; omega)
  have hB5 := hB4.setCell (p := ⟨w.heap.size, 5, none⟩) (Nat.le_refl _) (.slice vx 0 vk)
  have hs4 := hB4.size
  have hws4 := RE4.lt
  have hB6 := Below.sets (k := w4.heap.size) hs4 (o := 0) (fsC tk ⟨#[71, 69, 84]⟩ ur og 2 (.slice vx 0 vk) bo false 0 ⟨#[]⟩ ⟨#[]⟩ ⟨#[]⟩ ⟨#[]⟩ ⟨#[]⟩ ⟨#[]⟩ ⟨#[]⟩ 0 false false 0 (.slice none 0 0) ⟨#[]⟩ 0) (hB5.alloc (by rw [World.size_setCell]; exact hB4.size) (.cells (fsC 0 ⟨#[]⟩ ⟨#[]⟩ ⟨#[]⟩ 0 (.slice none 0 0) ⟨#[]⟩ false 0 ⟨#[]⟩ ⟨#[]⟩ ⟨#[]⟩ ⟨#[]⟩ ⟨#[]⟩ ⟨#[]⟩ ⟨#[]⟩ 0 false false 0 (.slice none 0 0) ⟨#[]⟩ 0).toArray 40))
  have VB6 := AtL.farSets (k := w4.heap.size) (by omega) (o := 0) (fsC tk ⟨#[71, 69, 84]⟩ ur og 2 (.slice vx 0 vk) bo false 0 ⟨#[]⟩ ⟨#[]⟩ ⟨#[]⟩ ⟨#[]⟩ ⟨#[]⟩ ⟨#[]⟩ ⟨#[]⟩ 0 false false 0 (.slice none 0 0) ⟨#[]⟩ 0) (VB5.alloc (.cells (fsC 0 ⟨#[]⟩ ⟨#[]⟩ ⟨#[]⟩ 0 (.slice none 0 0) ⟨#[]⟩ false 0 ⟨#[]⟩ ⟨#[]⟩ ⟨#[]⟩ ⟨#[]⟩ ⟨#[]⟩ ⟨#[]⟩ ⟨#[]⟩ 0 false false 0 (.slice none 0 0) ⟨#[]⟩ 0).toArray 40))
  have RE6 := AtL.farSets (k := w4.heap.size) (by omega) (o := 0) (fsC tk ⟨#[71, 69, 84]⟩ ur og 2 (.slice vx 0 vk) bo false 0 ⟨#[]⟩ ⟨#[]⟩ ⟨#[]⟩ ⟨#[]⟩ ⟨#[]⟩ ⟨#[]⟩ ⟨#[]⟩ 0 false false 0 (.slice none 0 0) ⟨#[]⟩ 0) (RE5.alloc (.cells (fsC 0 ⟨#[]⟩ ⟨#[]⟩ ⟨#[]⟩ 0 (.slice none 0 0) ⟨#[]⟩ false 0 ⟨#[]⟩ ⟨#[]⟩ ⟨#[]⟩ ⟨#[]⟩ ⟨#[]⟩ ⟨#[]⟩ ⟨#[]⟩ 0 false false 0 (.slice none 0 0) ⟨#[]⟩ 0).toArray 40))
  have S6 := AtL.sets (vs := (fsC tk ⟨#[71, 69, 84]⟩ ur og 2 (.slice vx 0 vk) bo false 0 ⟨#[]⟩ ⟨#[]⟩ ⟨#[]⟩ ⟨#[]⟩ ⟨#[]⟩ ⟨#[]⟩ ⟨#[]⟩ 0 false false 0 (.slice none 0 0) ⟨#[]⟩ 0)) Z6 rfl
  obtain ⟨w6, hw6⟩ : ∃ w6 : World, ((w4.setCell ⟨w.heap.size, 5, none⟩ (.slice vx 0 vk)).alloc (.cells (fsC 0 ⟨#[]⟩ ⟨#[]⟩ ⟨#[]⟩ 0 (.slice none 0 0) ⟨#[]⟩ false 0 ⟨#[]⟩ ⟨#[]⟩ ⟨#[]⟩ ⟨#[]⟩ ⟨#[]⟩ ⟨#[]⟩ ⟨#[]⟩ 0 false false 0 (.slice none 0 0) ⟨#[]⟩ 0).toArray 40)).setCells w4.heap.size 0 (fsC tk ⟨#[71, 69, 84]⟩ ur og 2 (.slice vx 0 vk) bo false 0 ⟨#[]⟩ ⟨#[]⟩ ⟨#[]⟩ ⟨#[]⟩ ⟨#[]⟩ ⟨#[]⟩ ⟨#[]⟩ 0 false false 0 (.slice none 0 0) ⟨#[]⟩ 0) = w6 := ⟨_, rfl⟩
  obtain ⟨s0, hs0⟩ : ∃ s0, w4.heap.size = s0 := ⟨_, rfl⟩
  have hws : w.heap.size + 1 + 1 < s0 := by omega
  rw [hw6] at hB6 VB6 RE6 S6
  rw [hs0] at S6
  rw [show ((w4.setCell ⟨w.heap.size, 5, none⟩ (.slice vx 0 vk)).alloc (.cells (fsC 0 ⟨#[]⟩ ⟨#[]⟩ ⟨#[]⟩ 0 (.slice none 0 0) ⟨#[]⟩ false 0 ⟨#[]⟩ ⟨#[]⟩ ⟨#[]⟩ ⟨#[]⟩ ⟨#[]⟩ ⟨#[]⟩ ⟨#[]⟩ 0 false false 0 (.slice none 0 0) ⟨#[]⟩ 0).toArray 40)).setCells w4.heap.size 0 (fsC tk ⟨#[71, 69, 84]⟩ ur og 2 (.slice vx 0 vk) bo false 0 ⟨#[]⟩ ⟨#[]⟩ ⟨#[]⟩ ⟨#[]⟩ ⟨#[]⟩ ⟨#[]⟩ ⟨#[]⟩ 0 false false 0 (.slice none 0 0) ⟨#[]⟩ 0) = w6 from hw6, hs0]
  have HB6 := Lib.hid hB6
  clear hw6 hs0 Z6 hws4 VB3 VB4 VB5 RE3 RE4 RE5 RB3 RB4 hB4 hB5 hB6 hb4 hs4 hn4 hal1 hal2 hal3 rl3 rl4 r0 r1 r2 r3 r4 r5 r6 r7 g0 g1 g2 g3 g4 g5 g6 g7
  have v0 := VB6.c 0 rfl; have v1 := VB6.c 1 rfl; have v2 := VB6.c 2 rfl
  have vl6 := VB6.lt
  go_wp2_with (first
    | (go_at_call 70; (with_reducible refine (CB.out w6 s0 vx vk HB6.out (by omega) (by omega) S6).mono ?_); rintro e9 w9 ⟨K, rfl, K9, S9, X9⟩; have RE9 := RE6.but2 X9 RE6.lt (by omega) (by omega))
    | (refine wpList_load_at rfl 40 _ rfl s0 rfl S9 Tryz.underlying40 rfl (by kernel_rfl) ?_)
    | (refine wpList_store_at rfl 40 _ _ rfl (w.heap.size + 1 + 1) [.int .i64 tk, .string ⟨#[71, 69, 84]⟩, .string ur, .string og, .int .i64 2, .slice vx 0 vk, .string bo, .bool false, .int .i64 1, .string a, .string b, .string c, .string d, .string e, .string f, .string ⟨#[71, 69, 84]⟩, .int .i64 0, .bool false, .bool false, .int .i64 0, .slice none 0 0, .string ⟨#[]⟩, .int .i64 0] rfl rfl RE9 rfl (by kernel_rfl) rfl ?_)
    | fail)
  have hKR : w.heap.size + 1 + 1 ≠ K := by
    rintro rfl
    have h1 := K9.c 0 rfl
    have h2 := RE9.c 0 rfl
    rw [h1] at h2
    cases h2
  have A := AtL.sets (vs := [.int .i64 tk, .string ⟨#[71, 69, 84]⟩, .string ur, .string og, .int .i64 2, .slice vx 0 vk, .string bo, .bool false, .int .i64 1, .string a, .string b, .string c, .string d, .string e, .string f, .string ⟨#[71, 69, 84]⟩, .int .i64 0, .bool false, .bool false, .int .i64 0, .slice none 0 0, .string ⟨#[]⟩, .int .i64 0]) RE9 rfl
  have K10 := AtL.farSets hKR (o := 0) [.int .i64 tk, .string ⟨#[71, 69, 84]⟩, .string ur, .string og, .int .i64 2, .slice vx 0 vk, .string bo, .bool false, .int .i64 1, .string a, .string b, .string c, .string d, .string e, .string f, .string ⟨#[71, 69, 84]⟩, .int .i64 0, .bool false, .bool false, .int .i64 0, .slice none 0 0, .string ⟨#[]⟩, .int .i64 0] K9
  have X10 := But2.sets (n := w.heap.size) (x := s0) (y := cb) (k := w.heap.size + 1 + 1) (.inr (.inr (by omega))) (o := 0) [.int .i64 tk, .string ⟨#[71, 69, 84]⟩, .string ur, .string og, .int .i64 2, .slice vx 0 vk, .string bo, .bool false, .int .i64 1, .string a, .string b, .string c, .string d, .string e, .string f, .string ⟨#[71, 69, 84]⟩, .int .i64 0, .bool false, .bool false, .int .i64 0, .slice none 0 0, .string ⟨#[]⟩, .int .i64 0] (((But2.refl w.heap.size s0 cb w).below HB6.out (Nat.le_refl _)).trans X9 HB6.out.size)
  exact bodyPost_ret (retct_run (vs := [.int .i64 tk, .string ⟨#[71, 69, 84]⟩, .string ur, .string og, .int .i64 2, .slice vx 0 vk, .string bo, .bool false, .int .i64 1, .string a, .string b, .string c, .string d, .string e, .string f, .string ⟨#[71, 69, 84]⟩, .int .i64 0, .bool false, .bool false, .int .i64 0, .slice none 0 0, .string ⟨#[]⟩, .int .i64 0]) Tryz.results30 Tryz.sizeOf40 Tryz.isAgg40 _ _ _ _ rfl rfl A) rfl ⟨K, vx, vk, rfl, K10, X10.drop (Nat.le_refl _) (by omega)⟩
end Go.Proofs.YtjdhaacmlpegoaaGreatDoor
