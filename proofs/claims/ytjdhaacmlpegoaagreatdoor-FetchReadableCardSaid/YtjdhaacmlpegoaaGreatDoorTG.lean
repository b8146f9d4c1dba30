/- Fetch: a message that is sent (the laws' example). -/
import Derived.Test.YtjdhaacmlpegoaaGreatDoorTF
namespace Go.Proofs.YtjdhaacmlpegoaaGreatDoor
set_option linter.unusedVariables false
set_option linter.unusedSimpArgs false
open Go.RowKit

theorem maxat_low {w w' : World} {B : Nat} (h : MaxAt w) (hb : Below B w w') (hG : 0 < B) : MaxAt w' := by
  obtain ⟨m, hm⟩ := h
  exact ⟨m, (hb.cell (p := ⟨0, 0, none⟩) hG).trans hm⟩
/-- all old blocks but two are as they were -/
structure But2 (n x y : Nat) (w w' : World) : Prop where
  os : w'.os = w.os
  tape : w'.tape = w.tape
  output : w'.output = w.output
  size : w.heap.size ≤ w'.heap.size
  block : ∀ k, k < n → k ≠ x → k ≠ y → w'.heap[k]? = w.heap[k]?
theorem But2.refl (n x y : Nat) (w : World) : But2 n x y w w := ⟨rfl, rfl, rfl, Nat.le_refl _, fun _ _ _ _ => rfl⟩
theorem But2.below {n x y B' : Nat} {W w w' : World} (h : But2 n x y W w) (k : Below B' w w') (hB : n ≤ B') : But2 n x y W w' :=
  ⟨k.os.trans h.os, k.tape.trans h.tape, k.output.trans h.output, Nat.le_trans h.size k.size, fun i hi hx hy => (k.block i (by omega)).trans (h.block i hi hx hy)⟩
theorem But2.setCell {n x y : Nat} {W w : World} (h : But2 n x y W w) (p : Addr) (hp : p.block = x ∨ p.block = y ∨ n ≤ p.block) (u : Value) : But2 n x y W (w.setCell p u) :=
  ⟨h.os, h.tape, h.output, by rw [World.size_setCell]; exact h.size, fun k hk hx hy => by
    have hne : k ≠ p.block := by
      rcases hp with hp | hp | hp
      · omega
      · omega
      · omega
    exact (Below.heap_setCell w p u k hne).trans (h.block k hk hx hy)⟩
theorem But2.row {n x y m : Nat} {W w w' : World} (h : But2 n x y W w) (k : RowBut m y none w w') (hm : n ≤ m) : But2 n x y W w' :=
  ⟨k.os.trans h.os, k.tape.trans h.tape, k.output.trans h.output, Nat.le_trans h.size k.size, fun i hi hx hy => (k.block i (by omega) hy (by simp)).trans (h.block i hi hx hy)⟩
theorem But2.trans {n m x y : Nat} {W w w' : World} (h : But2 n x y W w) (k : But2 m x y w w') (hm : n ≤ m) : But2 n x y W w' :=
  ⟨k.os.trans h.os, k.tape.trans h.tape, k.output.trans h.output, Nat.le_trans h.size k.size, fun i hi hx hy => (k.block i (by omega) hx hy).trans (h.block i hi hx hy)⟩
theorem But2.low {n x y B : Nat} {w w' : World} (h : But2 n x y w w') (hn : B ≤ n) (hx : B ≤ x) (hy : B ≤ y) : Below B w w' :=
  ⟨h.os, h.tape, h.output, h.size, fun k hk => h.block k (by omega) (by omega) (by omega)⟩
theorem AtL.but2 {n x y k : Nat} {w w' : World} {vs : List Value} (hA : AtL w k vs) (h : But2 n x y w w') (hk : k < n) (h1 : k ≠ x) (h2 : k ≠ y) : AtL w' k vs := by
  have hh := h.block k hk h1 h2
  exact ⟨Nat.lt_of_lt_of_le hA.1 h.size, fun j v hv => ⟨(World.cell?_of_block (w := w) hh).trans (hA.c j hv), (World.frozen?_of_block (w := w) hh).trans (hA.f j hv)⟩⟩
theorem rowbut_s8 {n y : Nat} {W w : World} (h : RowBut n y none W w) (k : Nat) (hk : n ≤ k) (a b c d e f g i : Value) : RowBut n y none W (set8 w k a b c d e f g i) :=
  (((((((h.setCell ⟨k, 0, none⟩ (Or.inr (Or.inr hk)) a).setCell ⟨k, 1, none⟩ (Or.inr (Or.inr hk)) b).setCell ⟨k, 2, none⟩ (Or.inr (Or.inr hk)) c).setCell ⟨k, 3, none⟩ (Or.inr (Or.inr hk)) d).setCell ⟨k, 4, none⟩ (Or.inr (Or.inr hk)) e).setCell ⟨k, 5, none⟩ (Or.inr (Or.inr hk)) f).setCell ⟨k, 6, none⟩ (Or.inr (Or.inr hk)) g).setCell ⟨k, 7, none⟩ (Or.inr (Or.inr hk)) i
abbrev zEv : List Value := [.int .i64 0, .string ⟨#[]⟩, .string ⟨#[]⟩, .slice none 0 0, .string ⟨#[]⟩, .int .i64 0, .int .i64 0]
abbrev set7 (W : World) (k : Nat) (a b c d e f g : Value) : World := ((((((W.setCell ⟨k, 0, none⟩ a).setCell ⟨k, 1, none⟩ b).setCell ⟨k, 2, none⟩ c).setCell ⟨k, 3, none⟩ d).setCell ⟨k, 4, none⟩ e).setCell ⟨k, 5, none⟩ f).setCell ⟨k, 6, none⟩ g
theorem AtL.set7 {W : World} {k : Nat} {vs : List Value} (hv : AtL W k vs) (hl : vs.length = 7) (a b c d e f g : Value) : AtL (set7 W k a b c d e f g) k [a, b, c, d, e, f, g] := by
  match vs, hl with
  | [_, _, _, _, _, _, _], _ => exact ((((((hv.set 0 a).set 1 b).set 2 c).set 3 d).set 4 e).set 5 f).set 6 g
theorem atl_fark7 {W : World} {k q : Nat} {vs : List Value} (h : AtL W q vs) (hk : k ≠ q) (a b c d e f g : Value) : AtL (set7 W k a b c d e f g) q vs :=
  ((((((h.far ⟨k, 0, none⟩ a hk).far ⟨k, 1, none⟩ b hk).far ⟨k, 2, none⟩ c hk).far ⟨k, 3, none⟩ d hk).far ⟨k, 4, none⟩ e hk).far ⟨k, 5, none⟩ f hk).far ⟨k, 6, none⟩ g hk
theorem atl_fark8 {W : World} {k q : Nat} {vs : List Value} (h : AtL W q vs) (hk : k ≠ q) (a b c d e f g i : Value) : AtL (set8 W k a b c d e f g i) q vs :=
  (((((((h.far ⟨k, 0, none⟩ a hk).far ⟨k, 1, none⟩ b hk).far ⟨k, 2, none⟩ c hk).far ⟨k, 3, none⟩ d hk).far ⟨k, 4, none⟩ e hk).far ⟨k, 5, none⟩ f hk).far ⟨k, 6, none⟩ g hk).far ⟨k, 7, none⟩ i hk
theorem below_set7 {B k : Nat} {w W : World} (h : Below B w W) (hk : B ≤ k) (a b c d e f g : Value) : Below B w (set7 W k a b c d e f g) :=
  ((((((h.setCell (p := ⟨k, 0, none⟩) hk a).setCell (p := ⟨k, 1, none⟩) hk b).setCell (p := ⟨k, 2, none⟩) hk c).setCell (p := ⟨k, 3, none⟩) hk d).setCell (p := ⟨k, 4, none⟩) hk e).setCell (p := ⟨k, 5, none⟩) hk f).setCell (p := ⟨k, 6, none⟩) hk g
theorem below_k8 {B k : Nat} {w W : World} (h : Below B w W) (hk : B ≤ k) (a b c d e f g x : Value) : Below B w (set8 W k a b c d e f g x) :=
  (((((((h.setCell (p := ⟨k, 0, none⟩) hk a).setCell (p := ⟨k, 1, none⟩) hk b).setCell (p := ⟨k, 2, none⟩) hk c).setCell (p := ⟨k, 3, none⟩) hk d).setCell (p := ⟨k, 4, none⟩) hk e).setCell (p := ⟨k, 5, none⟩) hk f).setCell (p := ⟨k, 6, none⟩) hk g).setCell (p := ⟨k, 7, none⟩) hk x
theorem askq_open3 {w : World} {jb B : Nat} {v : Value} {k : Int} {en : En} {hs : List Hd} {l' : List Ee} {e : Ending} {w' : World} (h : AskQ w jb B v k en hs l' e w') :
    ∃ (u : ByteArray) (a1 : Option Addr) (n1 k1 : Nat) (st : Int) (a2 : Option Addr) (n2 k2 : Nat) (bo : ByteArray) (ti : Int) (ua : Option Addr) (un uc : Nat), e = .returned (.agg #[.int .i64 k, .string u, .slice a1 n1 k1, .int .i64 st, .slice a2 n2 k2, .string bo, .int .i64 ti, .slice ua un uc]) ∧ CaTo w jb B v l' w' := by
  obtain ⟨r, u, h1, h2, h3, h4, _⟩ := h
  have hs2 := Rd.shp (x := (r, en)) h2
  obtain ⟨⟨a1, n1, k1, e1⟩, a2, n2, k2, e2⟩ := hs2
  obtain ⟨ua, uc, rfl, _⟩ := h3.shape
  obtain ⟨u, vv, st, hh, bo, ti⟩ := r
  have e1 : vv = .slice a1 n1 k1 := e1
  have e2 : hh = .slice a2 n2 k2 := e2
  subst e1 e2
  exact ⟨u, a1, n1, k1, st, a2, n2, k2, bo, ti, ua, _, uc, h1, h4⟩
/-- what lies in memory behind the call of Ask -/
def PlnAt (w0 : World) (cb s0 V : Nat) (S E : List Value) (c6 : Value) (w' : World) : Prop := ∃ (P : Nat) (xs : List Value), .pointer (some ⟨P, 0, none⟩) = c6 ∧ AtL w' P (.int .i64 1 :: xs) ∧ AtL w' s0 S ∧ AtL w' V E ∧ w0.heap.size ≤ P ∧ RowBut w0.heap.size cb none w0 w'
theorem plnat_ab {w0 w4 w5 : World} {B cb s0 V P : Nat} {S E : List Value} {l' : List Ee} (hJ : CaIn w0 cb B (.slice none 0 0) []) (hB : B ≤ cb) (h04 : Below w0.heap.size w0 w4) (hP : w0.heap.size ≤ P) (hA : AtL w4 P pl0) (hS : AtL w0 s0 S) (hE : AtL w0 V E) (hsc : s0 ≠ cb) (hvc : V ≠ cb) (hto : CaTo w4 cb B (.slice none 0 0) l' w5) (a b c d e f g : Value) :
    PlnAt w0 cb s0 V S E (.pointer (some ⟨P, 0, none⟩)) (set8 w5 P (.int .i64 1) a b c d e f g) := by
  have hj := hJ.at_.lt
  have hs := hS.lt
  have hv := hE.lt
  have h05 := ((RowBut.refl w0.heap.size cb none w0).below h04 (Nat.le_refl _)).trans (hto.2.mono h04.size)
  have A5 := hA.row hto.2 hA.lt (by omega) (by simp [Value.ownBlock])
  have S5 := (hS.next h04).row hto.2 (hS.next h04).lt hsc (by simp [Value.ownBlock])
  have E5 := (hE.next h04).row hto.2 (hE.next h04).lt hvc (by simp [Value.ownBlock])
  exact ⟨P, _, rfl, A5.set8 rfl _ _ _ _ _ _ _ _, atl_fark8 S5 (by omega) _ _ _ _ _ _ _ _, atl_fark8 E5 (by omega) _ _ _ _ _ _ _ _, hP, rowbut_s8 h05 P hP _ _ _ _ _ _ _ _⟩
theorem plnat_c {w0 w4 w5 : World} {B cb s0 V : Nat} {S E : List Value} {l' : List Ee} (hJ : CaIn w0 cb B (.slice none 0 0) []) (hB : B ≤ cb) (h04 : Below w0.heap.size w0 w4) (hS : AtL w0 s0 S) (hE : AtL w0 V E) (hsc : s0 ≠ cb) (hvc : V ≠ cb) (hto : CaTo w4 cb B (.slice none 0 0) l' w5) (a b c d e f g : Value) :
    PlnAt w0 cb s0 V S E (.pointer (some ⟨w5.heap.size, 0, none⟩)) (w5.alloc (.cells #[.int .i64 1, a, b, c, d, e, f, g] 178)) := by
  have h05 := ((RowBut.refl w0.heap.size cb none w0).below h04 (Nat.le_refl _)).trans (hto.2.mono h04.size)
  have hs4 := h04.size
  have hs5 := hto.size
  have S5 := (hS.next h04).row hto.2 (hS.next h04).lt hsc (by simp [Value.ownBlock])
  have E5 := (hE.next h04).row hto.2 (hE.next h04).lt hvc (by simp [Value.ownBlock])
  exact ⟨_, _, rfl, AtL.new w5 [.int .i64 1, a, b, c, d, e, f, g] 178, S5.alloc _, E5.alloc _, by omega, h05.below ((Below.refl _ w5).alloc (Nat.le_refl _) _) (by omega)⟩
/-- the event in a block of its own -/
def EvAt (w0 : World) (s0 : Nat) (S : List Value) (ev : List Value) (c8 : Value) (w' : World) : Prop := ∃ K : Nat, .pointer (some ⟨K, 0, none⟩) = c8 ∧ AtL w' K ev ∧ AtL w' s0 S ∧ w0.heap.size ≤ K ∧ Below w0.heap.size w0 w'
theorem v2_mk {W : World} {Q : Nat} {a b c : Value} (h : AtL W Q [a, b, c]) : W.cell? ⟨Q, 1, none⟩ = some b ∧ W.cell? ⟨Q, 2, none⟩ = some c := ⟨h.c 1 rfl, h.c 2 rfl⟩
/-- what send answers in the example -/
def SendQ (w : World) (cb s0 : Nat) (S : List Value) (T bo : ByteArray) (x : Ending) (w' : World) : Prop := ∃ K : Nat, x = .returned (.slice (some ⟨K, 0, none⟩) 1 1) ∧ AtL w' K [.int .i64 1, .string ⟨#[71, 69, 84]⟩, .string T, .slice none 0 0, .string bo, .int .i64 0, .int .i64 0] ∧ AtL w' s0 S ∧ But2 w.heap.size s0 cb w w'
theorem sendq_end {w wc : World} {cb s0 K : Nat} {S : List Value} {T bo : ByteArray} (X7 : But2 w.heap.size s0 cb w wc) (K7 : AtL wc K [.int .i64 1, .string ⟨#[71, 69, 84]⟩, .string T, .slice none 0 0, .string ⟨#[]⟩, .int .i64 0, .int .i64 0]) (S7 : AtL wc s0 S) (hs : w.heap.size ≤ wc.heap.size) (hKs : K ≠ s0) (hKn : w.heap.size ≤ K) (nq : Nat) :
    SendQ w cb s0 S T bo (.returned (.slice (some ⟨wc.heap.size, 0, none⟩) 1 1)) (((wc.drewN nq).setCell ⟨K, 4, none⟩ (.string bo)).alloc (.cells #[.int .i64 1, .string ⟨#[71, 69, 84]⟩, .string T, .slice none 0 0, .string bo, .int .i64 0, .int .i64 0] 48)) := by
  have K8 : AtL _ K [.int .i64 1, .string ⟨#[71, 69, 84]⟩, .string T, .slice none 0 0, .string bo, .int .i64 0, .int .i64 0] := (K7.drewN nq).set 4 (.string bo)
  have S8 := (S7.drewN nq).far ⟨K, 4, none⟩ (.string bo) hKs
  have X8 := (X7.below ⟨rfl, rfl, rfl, Nat.le_refl _, fun _ _ => rfl⟩ hs : But2 w.heap.size s0 cb w (wc.drewN nq)).setCell ⟨K, 4, none⟩ (Or.inr (Or.inr hKn)) (.string bo)
  have A := AtL.new ((wc.drewN nq).setCell ⟨K, 4, none⟩ (.string bo)) [.int .i64 1, .string ⟨#[71, 69, 84]⟩, .string T, .slice none 0 0, .string bo, .int .i64 0, .int .i64 0] 48
  rw [World.size_setCell] at A
  exact ⟨_, rfl, A, S8.alloc _, X8.below ((Below.refl _ _).alloc (Nat.le_refl _) _) X8.size⟩
set_option maxRecDepth 20000 in
set_option maxHeartbeats 2000000 in
theorem send_fit (s0 jb cb B : Nat) (tk : Int) (ur og : ByteArray) (mo : Int) (x : Option Addr) (kk : Nat) (bo : ByteArray) (ph : Int) (a b c d e f : ByteArray) (ho : Int) (ch hi : Bool) (st : Int) (wh : Value) (sb : ByteArray) (er now : Int) (w : World) (hM : MaxAt w) (hG : 0 < B) (hBs : B ≤ s0) (hBc : B ≤ cb) (hsc : s0 ≠ cb) (S0 : AtL w s0 (fsC tk ⟨#[71, 69, 84]⟩ ur og mo (.slice x 0 kk) bo false ph a b c d e f ⟨#[71, 69, 84]⟩ ho ch hi st wh sb er)) (hJ : CaIn w cb B (.slice none 0 0) []) (ha : a.size ≤ 40000) (hb : b.size ≤ 40000) (hc : c.size ≤ 40000) (hdd : d.size ≤ 40000) (he : e.size ≤ 40000) (hf : f.size ≤ 40000) (hO : og.data.toList = orgL (a.data.toList, b.data.toList, c.data.toList, d.data.toList, e.data.toList, f.data.toList)) (T : ByteArray) (hT : T.data.toList = formatL (a.data.toList, b.data.toList, c.data.toList, d.data.toList, e.data.toList, [])) :
    Calls Tryz.prog 116 #[.pointer (some ⟨s0, 0, none⟩), .agg #[.pointer (some ⟨jb, 0, none⟩), .pointer (some ⟨cb, 0, none⟩), .int .i64 now]] w (SendQ w cb s0 (fsC tk ⟨#[71, 69, 84]⟩ ur og mo (.slice x 0 kk) bo false 1 a b c d e f ⟨#[71, 69, 84]⟩ ho false hi st wh sb er) T bo) := by
  have hal := (Below.refl _ w).alloc (Nat.le_refl _) (.cells [.pointer (some ⟨jb, 0, none⟩), .pointer (some ⟨cb, 0, none⟩), .int .i64 now].toArray 83)
  have V1 := AtL.new w [.pointer (some ⟨jb, 0, none⟩), .pointer (some ⟨cb, 0, none⟩), .int .i64 now] 83
  have S1 := S0.next hal
  have J1 := hJ.below hal (Nat.le_refl _)
  have M1 := hM.below hal (Nat.le_refl _)
  have hsw := S0.lt
  have hcw := hJ.at_.lt
  have hBw : B ≤ w.heap.size := by omega
  obtain ⟨w1, hw1⟩ : ∃ w1 : World, w.alloc (.cells [.pointer (some ⟨jb, 0, none⟩), .pointer (some ⟨cb, 0, none⟩), .int .i64 now].toArray 83) = w1 := ⟨_, rfl⟩
  obtain ⟨V, hV⟩ : ∃ V, w.heap.size = V := ⟨_, rfl⟩
  have hsV : s0 ≠ V := by omega
  have hcV : V ≠ cb := by omega
  have hBV : B ≤ V := by omega
  rw [hw1] at hal V1 S1 J1 M1
  rw [hV] at V1
  have X1 := (But2.refl w.heap.size s0 cb w).below hal (by omega)
  have CHd := Lib.hid (headers_nil s0 tk ⟨#[71, 69, 84]⟩ ur og mo x kk bo false ph a b c d e f ho ch hi st wh sb er w1 M1 S1 ha hb hc hdd he hf hO)
  have CT1 := Lib.hid (fun (w' : World) (S' : AtL w' s0 (fsC tk ⟨#[71, 69, 84]⟩ ur og mo (.slice x 0 kk) bo false ph a b c d e f ⟨#[71, 69, 84]⟩ ho false hi st wh sb er)) => text_is s0 tk ⟨#[71, 69, 84]⟩ ur og mo (.slice x 0 kk) bo false ph a b c d e f ⟨#[71, 69, 84]⟩ ho false hi st wh sb er w' S' ha hb hc hdd he hf T hT)
  have CT2 := Lib.hid (fun (w' : World) (S' : AtL w' s0 (fsC tk ⟨#[71, 69, 84]⟩ ur og mo (.slice x 0 kk) bo false 1 a b c d e f ⟨#[71, 69, 84]⟩ ho false hi st wh sb er)) => text_is s0 tk ⟨#[71, 69, 84]⟩ ur og mo (.slice x 0 kk) bo false 1 a b c d e f ⟨#[71, 69, 84]⟩ ho false hi st wh sb er w' S' ha hb hc hdd he hf T hT)
  have CAs := Lib.hid (fun (w' : World) (hM' : MaxAt w') (J' : CaIn w' cb B (.slice none 0 0) []) => ask_no cb B (.slice none 0 0) [] w' hM' J' (fun x hx => by cases hx) (Nat.zero_le _) T [] (.slice none 0 0) (slk0 _) ⟨Nat.zero_le _, fun h hh => by cases hh⟩ now (-1) (.inl ⟨rfl, fun j hj => absurd hj (Nat.not_lt_zero _)⟩) _ rfl (.inl rfl))
  clear hO hT
  go_enter Tryz.func116, Tryz.ntmps116
  go_upto_region 1 with fail
  have HVV := Lib.hid hV
  have hV1 := V1.lt
  clear hw1 hV
  go_upto_region 4 with (first
    | (go_at_call 75; (with_reducible refine CHd.out.mono ?_); rintro e2 w2 ⟨rfl, hb2⟩; have S2 := S1.next hb2; have z0 := S2.c 0 rfl; have z1 := S2.c 1 rfl; have z2 := S2.c 2 rfl; have z3 := S2.c 3 rfl; have z4 := S2.c 4 rfl; have z5 := S2.c 5 rfl; have z6 := S2.c 6 rfl; have z7 := S2.c 7 rfl; have z8 := S2.c 8 rfl; have z9 := S2.c 9 rfl; have z10 := S2.c 10 rfl; have z11 := S2.c 11 rfl; have z12 := S2.c 12 rfl; have z13 := S2.c 13 rfl; have z14 := S2.c 14 rfl; have z15 := S2.c 15 rfl; have z16 := S2.c 16 rfl; have z17 := S2.c 17 rfl; have z18 := S2.c 18 rfl; have z19 := S2.c 19 rfl; have z20 := S2.c 20 rfl; have z21 := S2.c 21 rfl; have z22 := S2.c 22 rfl; have y0 := S2.f 0 rfl; have y1 := S2.f 1 rfl; have y2 := S2.f 2 rfl; have y3 := S2.f 3 rfl; have y4 := S2.f 4 rfl; have y5 := S2.f 5 rfl; have y6 := S2.f 6 rfl; have y7 := S2.f 7 rfl; have y8 := S2.f 8 rfl; have y9 := S2.f 9 rfl; have y10 := S2.f 10 rfl; have y11 := S2.f 11 rfl; have y12 := S2.f 12 rfl; have y13 := S2.f 13 rfl; have y14 := S2.f 14 rfl; have y15 := S2.f 15 rfl; have y16 := S2.f 16 rfl; have y17 := S2.f 17 rfl; have y18 := S2.f 18 rfl; have y19 := S2.f 19 rfl; have y20 := S2.f 20 rfl; have y21 := S2.f 21 rfl; have y22 := S2.f 22 rfl; have zl2 := S2.lt)
    | fail)
  have S3 : AtL (w2.setCell ⟨s0, 17, none⟩ (.bool false)) s0 (fsC tk ⟨#[71, 69, 84]⟩ ur og mo (.slice x 0 kk) bo false ph a b c d e f ⟨#[71, 69, 84]⟩ ho false hi st wh sb er) := S2.set 17 (.bool false)
  have V3 := (V1.next hb2).far ⟨s0, 17, none⟩ (.bool false) hsV
  have J3 := ca_set (J1.below hb2 (Nat.le_refl _)) ⟨s0, 17, none⟩ (.bool false) hsc (by simp [Value.ownBlock]) (fun y hy => by cases hy)
  have X3 := (X1.below hb2 (by have := hal.size; omega)).setCell ⟨s0, 17, none⟩ (Or.inl rfl) (.bool false)
  obtain ⟨w3, hw3⟩ : ∃ w3 : World, w2.setCell ⟨s0, 17, none⟩ (.bool false) = w3 := ⟨_, rfl⟩
  rw [hw3] at S3 V3 J3 X3
  rw [hw3]
  have M3 := maxat_low hM (X3.low hBw hBs hBc) hG
  have HJ3 := Lib.hid J3
  have HM3 := Lib.hid M3
  have HX3 := Lib.hid X3
  have hs3 := S3.lt
  have hc3 := J3.at_.lt
  clear hw3 S2 hb2 zl2 z0 z1 z2 z3 z4 z5 z6 z7 z8 z9 z10 z11 z12 z13 z14 z15 z16 z17 z18 z19 z20 z21 z22 y0 y1 y2 y3 y4 y5 y6 y7 y8 y9 y10 y11 y12 y13 y14 y15 y16 y17 y18 y19 y20 y21 y22 S1 V1 J1 M1 X1 X3 J3 M3 S0 hJ hal hV1
  go_cut [6] from 19 to 26 (fun c6 w' => PlnAt w3 cb s0 V (fsC tk ⟨#[71, 69, 84]⟩ ur og mo (.slice x 0 kk) bo false ph a b c d e f ⟨#[71, 69, 84]⟩ ho false hi st wh sb er) [.pointer (some ⟨jb, 0, none⟩), .pointer (some ⟨cb, 0, none⟩), .int .i64 now] c6 w')
  case first =>
    have v0 := V3.c 0 rfl; have v1 := V3.c 1 rfl; have v2 := V3.c 2 rfl
    have vl := V3.lt
    have hVP : w3.heap.size ≠ V := by omega
    go_region_held3 (fun w' => w'.cell? ⟨V, 1, none⟩ = some (.pointer (some ⟨cb, 0, none⟩)) ∧ w'.cell? ⟨V, 2, none⟩ = some (.int .i64 now))
      (first | with_reducible exact v2_mk V3.drew | with_reducible exact v2_mk (V3.alloc _).drew | with_reducible exact v2_mk V4 | with_reducible exact v2_mk (V4.alloc _) | with_reducible exact v2_mk V5 | with_reducible exact v2_mk (V5.alloc _) | exact v2_mk (atl_fark8 V5 hPV _ _ _ _ _ _ _ _) | go_keep)
      (first
        | (go_at_call 74; (with_reducible refine (CT1.out w3.drew S3.drew).mono ?_); rintro e4 w4 ⟨rfl, hbb4⟩; have h34 : Below w3.heap.size w3 w4 := (Below.refl w3.heap.size w3).drew.trans hbb4; have V4 := V3.next h34; have vl4 := V4.lt)
        | (go_at_call 74; (with_reducible refine (CT1.out (w3.alloc (.cells pl0.toArray 178)).drew (S3.alloc _).drew).mono ?_); rintro e4 w4 ⟨rfl, hbb4⟩; have h34 : Below w3.heap.size w3 w4 := ((Below.refl w3.heap.size w3).alloc (Nat.le_refl _) (.cells pl0.toArray 178)).drew.trans (hbb4.mono (by simp)); have V4 := V3.next h34; have A4 := (AtL.new w3 pl0 178).drew.next hbb4; have hPV := hVP; have vl4 := V4.lt)
        | (go_at_call 169; (with_reducible refine (CAs.out w4 (HM3.out.below h34 (Nat.le_refl _)) (HJ3.out.below h34 (Nat.le_refl _))).mono ?_); rintro e5 w5 hq5; obtain ⟨pu, pa1, pn1, pk1, pst, pa2, pn2, pk2, pbo, pti, pua, pun, puc, rfl, hto5⟩ := askq_open3 hq5; have V5 := V4.row hto5.2 V4.lt hcV (by simp [Value.ownBlock]); first | (have HN := Lib.hid (plnat_ab HJ3.out hBc h34 (Nat.le_refl _) A4 S3 V3 hsc hcV hto5 (.string pu) (.slice pa1 pn1 pk1) (.int .i64 pst) (.slice pa2 pn2 pk2) (.string pbo) (.int .i64 pti) (.slice pua pun puc)); have A5 := A4.row hto5.2 A4.lt (Nat.ne_of_gt hc3) (by simp [Value.ownBlock]); have p0 := A5.c 0 rfl; have p1 := A5.c 1 rfl; have p2 := A5.c 2 rfl; have p3 := A5.c 3 rfl; have p4 := A5.c 4 rfl; have p5 := A5.c 5 rfl; have p6 := A5.c 6 rfl; have p7 := A5.c 7 rfl; have g0 := A5.f 0 rfl; have g1 := A5.f 1 rfl; have g2 := A5.f 2 rfl; have g3 := A5.f 3 rfl; have g4 := A5.f 4 rfl; have g5 := A5.f 5 rfl; have g6 := A5.f 6 rfl; have g7 := A5.f 7 rfl; have apl := A5.lt) | (have HN := Lib.hid (plnat_c HJ3.out hBc h34 S3 V3 hsc hcV hto5 (.string pu) (.slice pa1 pn1 pk1) (.int .i64 pst) (.slice pa2 pn2 pk2) (.string pbo) (.int .i64 pti) (.slice pua pun puc))) | fail)
        | (go_at_call 169; have h34a := h34.alloc h34.size (.cells pl0.toArray 178); have A4b := AtL.new w4 pl0 178; have hPV : w4.heap.size ≠ V := Nat.ne_of_gt vl4; (with_reducible refine (CAs.out (w4.alloc (.cells pl0.toArray 178)) (HM3.out.below h34a (Nat.le_refl _)) (HJ3.out.below h34a (Nat.le_refl _))).mono ?_); rintro e5 w5 hq5; obtain ⟨pu, pa1, pn1, pk1, pst, pa2, pn2, pk2, pbo, pti, pua, pun, puc, rfl, hto5⟩ := askq_open3 hq5; have V5 := (V4.alloc (.cells pl0.toArray 178)).row hto5.2 (V4.alloc (.cells pl0.toArray 178)).lt hcV (by simp [Value.ownBlock]); have HN := Lib.hid (plnat_ab HJ3.out hBc h34a h34.size A4b S3 V3 hsc hcV hto5 (.string pu) (.slice pa1 pn1 pk1) (.int .i64 pst) (.slice pa2 pn2 pk2) (.string pbo) (.int .i64 pti) (.slice pua pun puc)); have A5 := A4b.row hto5.2 A4b.lt (Nat.ne_of_gt (Nat.lt_of_lt_of_le hc3 h34.size)) (by simp [Value.ownBlock]); have p0 := A5.c 0 rfl; have p1 := A5.c 1 rfl; have p2 := A5.c 2 rfl; have p3 := A5.c 3 rfl; have p4 := A5.c 4 rfl; have p5 := A5.c 5 rfl; have p6 := A5.c 6 rfl; have p7 := A5.c 7 rfl; have g0 := A5.f 0 rfl; have g1 := A5.f 1 rfl; have g2 := A5.f 2 rfl; have g3 := A5.f 3 rfl; have g4 := A5.f 4 rfl; have g5 := A5.f 5 rfl; have g6 := A5.f 6 rfl; have g7 := A5.f 7 rfl; have apl := A5.lt)
        | fail)
    all_goals
      go_wp2_with fail
      go_meet
      case rel => exact HN.out
  case rest =>
    obtain ⟨P, xs, rfl, P5, S5, V5, hP3, h35⟩ := hcut
    have p0 := P5.c 0 rfl
    have pl := P5.lt
    have z0 := S5.c 0 rfl; have z1 := S5.c 1 rfl; have z2 := S5.c 2 rfl; have z3 := S5.c 3 rfl; have z4 := S5.c 4 rfl; have z5 := S5.c 5 rfl; have z6 := S5.c 6 rfl; have z7 := S5.c 7 rfl; have z8 := S5.c 8 rfl; have z9 := S5.c 9 rfl; have z10 := S5.c 10 rfl; have z11 := S5.c 11 rfl; have z12 := S5.c 12 rfl; have z13 := S5.c 13 rfl; have z14 := S5.c 14 rfl; have z15 := S5.c 15 rfl; have z16 := S5.c 16 rfl; have z17 := S5.c 17 rfl; have z18 := S5.c 18 rfl; have z19 := S5.c 19 rfl; have z20 := S5.c 20 rfl; have z21 := S5.c 21 rfl; have z22 := S5.c 22 rfl; have y0 := S5.f 0 rfl; have y1 := S5.f 1 rfl; have y2 := S5.f 2 rfl; have y3 := S5.f 3 rfl; have y4 := S5.f 4 rfl; have y5 := S5.f 5 rfl; have y6 := S5.f 6 rfl; have y7 := S5.f 7 rfl; have y8 := S5.f 8 rfl; have y9 := S5.f 9 rfl; have y10 := S5.f 10 rfl; have y11 := S5.f 11 rfl; have y12 := S5.f 12 rfl; have y13 := S5.f 13 rfl; have y14 := S5.f 14 rfl; have y15 := S5.f 15 rfl; have y16 := S5.f 16 rfl; have y17 := S5.f 17 rfl; have y18 := S5.f 18 rfl; have y19 := S5.f 19 rfl; have y20 := S5.f 20 rfl; have y21 := S5.f 21 rfl; have y22 := S5.f 22 rfl
    have zl := S5.lt
    have X5 := HX3.out.row h35 HX3.out.size
    clear S3 V3 hs3 hc3
    go_upto_region 16 with fail
    have S6 : AtL (wc.setCell ⟨s0, 8, none⟩ (.int .i64 1)) s0 (fsC tk ⟨#[71, 69, 84]⟩ ur og mo (.slice x 0 kk) bo false 1 a b c d e f ⟨#[71, 69, 84]⟩ ho false hi st wh sb er) := S5.set 8 (.int .i64 1)
    have X6 := X5.setCell ⟨s0, 8, none⟩ (Or.inl rfl) (.int .i64 1)
    obtain ⟨w6, hw6⟩ : ∃ w6 : World, wc.setCell ⟨s0, 8, none⟩ (.int .i64 1) = w6 := ⟨_, rfl⟩
    rw [hw6] at S6 X6
    rw [hw6]
    have HX6 := Lib.hid X6
    have hs6 := S6.lt
    have hs6n : w6.heap.size ≠ s0 := by omega
    clear hw6 S5 zl P5 V5 p0 pl X5 X6 z0 z1 z2 z3 z4 z5 z6 z7 z8 z9 z10 z11 z12 z13 z14 z15 z16 z17 z18 z19 z20 z21 z22 y0 y1 y2 y3 y4 y5 y6 y7 y8 y9 y10 y11 y12 y13 y14 y15 y16 y17 y18 y19 y20 y21 y22
    go_cut [8] from 69 to 76 (fun c8 w' => EvAt w6 s0 (fsC tk ⟨#[71, 69, 84]⟩ ur og mo (.slice x 0 kk) bo false 1 a b c d e f ⟨#[71, 69, 84]⟩ ho false hi st wh sb er) [.int .i64 1, .string ⟨#[71, 69, 84]⟩, .string T, .slice none 0 0, .string ⟨#[]⟩, .int .i64 0, .int .i64 0] c8 w')
    case first =>
      have z15 := S6.c 15 rfl
      go_region_held3 (fun w' => w'.cell? ⟨s0, 15, none⟩ = some (.string ⟨#[71, 69, 84]⟩))
        (first | with_reducible exact S6.drew.c 15 rfl | with_reducible exact (S6.alloc _).drew.c 15 rfl | with_reducible exact S7.c 15 rfl | with_reducible exact (S7.alloc _).c 15 rfl | exact (atl_fark7 S7 hs6n _ _ _ _ _ _ _).c 15 rfl | go_keep)
        (first
          | (go_at_call 74; (with_reducible refine (CT2.out w6.drew S6.drew).mono ?_); rintro e7 w7 ⟨rfl, hbb7⟩; have h67 : Below w6.heap.size w6 w7 := (Below.refl w6.heap.size w6).drew.trans hbb7; have S7 := S6.next h67; have HN : Hid (EvAt w6 s0 (fsC tk ⟨#[71, 69, 84]⟩ ur og mo (.slice x 0 kk) bo false 1 a b c d e f ⟨#[71, 69, 84]⟩ ho false hi st wh sb er) [.int .i64 1, .string ⟨#[71, 69, 84]⟩, .string T, .slice none 0 0, .string ⟨#[]⟩, .int .i64 0, .int .i64 0] (.pointer (some ⟨w7.heap.size, 0, none⟩)) (w7.alloc (.cells #[.int .i64 1, .string ⟨#[71, 69, 84]⟩, .string T, .slice none 0 0, .string ⟨#[]⟩, .int .i64 0, .int .i64 0] 48))) := Lib.hid ⟨_, rfl, AtL.new w7 [.int .i64 1, .string ⟨#[71, 69, 84]⟩, .string T, .slice none 0 0, .string ⟨#[]⟩, .int .i64 0, .int .i64 0] 48, S7.alloc _, h67.size, h67.alloc h67.size _⟩)
          | (go_at_call 74; (with_reducible refine (CT2.out (w6.alloc (.cells zEv.toArray 48)).drew (S6.alloc _).drew).mono ?_); rintro e7 w7 ⟨rfl, hbb7⟩; have h67 : Below w6.heap.size w6 w7 := ((Below.refl w6.heap.size w6).alloc (Nat.le_refl _) (.cells zEv.toArray 48)).drew.trans (hbb7.mono (by simp)); have S7 := S6.next h67; have A7 := (AtL.new w6 zEv 48).drew.next hbb7; have HN : Hid (EvAt w6 s0 (fsC tk ⟨#[71, 69, 84]⟩ ur og mo (.slice x 0 kk) bo false 1 a b c d e f ⟨#[71, 69, 84]⟩ ho false hi st wh sb er) [.int .i64 1, .string ⟨#[71, 69, 84]⟩, .string T, .slice none 0 0, .string ⟨#[]⟩, .int .i64 0, .int .i64 0] (.pointer (some ⟨w6.heap.size, 0, none⟩)) (set7 w7 w6.heap.size (.int .i64 1) (.string ⟨#[71, 69, 84]⟩) (.string T) (.slice none 0 0) (.string ⟨#[]⟩) (.int .i64 0) (.int .i64 0))) := Lib.hid ⟨_, rfl, A7.set7 rfl _ _ _ _ _ _ _, atl_fark7 S7 hs6n _ _ _ _ _ _ _, Nat.le_refl _, below_set7 h67 (Nat.le_refl _) _ _ _ _ _ _ _⟩; have p0 := A7.c 0 rfl; have p1 := A7.c 1 rfl; have p2 := A7.c 2 rfl; have p3 := A7.c 3 rfl; have p4 := A7.c 4 rfl; have p5 := A7.c 5 rfl; have p6 := A7.c 6 rfl; have g0 := A7.f 0 rfl; have g1 := A7.f 1 rfl; have g2 := A7.f 2 rfl; have g3 := A7.f 3 rfl; have g4 := A7.f 4 rfl; have g5 := A7.f 5 rfl; have g6 := A7.f 6 rfl; have apl := A7.lt)
          | fail)
      all_goals
        go_wp2_with fail
        go_meet
        case rel => exact HN.out
    case rest =>
      obtain ⟨K, rfl, K7, S7, hK6, h67⟩ := hcut
      have p0 := K7.c 0 rfl; have p1 := K7.c 1 rfl; have p2 := K7.c 2 rfl; have p3 := K7.c 3 rfl; have p4 := K7.c 4 rfl; have p5 := K7.c 5 rfl; have p6 := K7.c 6 rfl; have g0 := K7.f 0 rfl; have g1 := K7.f 1 rfl; have g2 := K7.f 2 rfl; have g3 := K7.f 3 rfl; have g4 := K7.f 4 rfl; have g5 := K7.f 5 rfl; have g6 := K7.f 6 rfl
      have z0 := S7.c 0 rfl; have z1 := S7.c 1 rfl; have z2 := S7.c 2 rfl; have z3 := S7.c 3 rfl; have z4 := S7.c 4 rfl; have z5 := S7.c 5 rfl; have z6 := S7.c 6 rfl; have z7 := S7.c 7 rfl; have z8 := S7.c 8 rfl; have z9 := S7.c 9 rfl; have z10 := S7.c 10 rfl; have z11 := S7.c 11 rfl; have z12 := S7.c 12 rfl; have z13 := S7.c 13 rfl; have z14 := S7.c 14 rfl; have z15 := S7.c 15 rfl; have z16 := S7.c 16 rfl; have z17 := S7.c 17 rfl; have z18 := S7.c 18 rfl; have z19 := S7.c 19 rfl; have z20 := S7.c 20 rfl; have z21 := S7.c 21 rfl; have z22 := S7.c 22 rfl
      have kl := K7.lt
      have sl7 := S7.lt
      have X7 := HX6.out.below h67 HX6.out.size
      go_upto_region 17 with fail
      go_quiet (fail)
      go_wp2_with fail
      go_ret
      have hKn : w.heap.size ≤ K := Nat.le_trans HX6.out.size hK6
      exact sendq_end X7 K7 S7 (Nat.le_trans HX6.out.size h67.size) (Nat.ne_of_gt (Nat.lt_of_lt_of_le hs6 hK6)) hKn _
end Go.Proofs.YtjdhaacmlpegoaaGreatDoor
