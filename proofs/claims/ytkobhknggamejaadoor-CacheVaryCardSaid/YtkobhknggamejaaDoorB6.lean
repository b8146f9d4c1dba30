import Derived.Test.YtkobhknggamejaaDoorB5
import Derived.Test.YtkobhknggamejaaDoorB4
import Derived.BigQuiet
import Derived.ProofKit
import Derived.Deep.Slices
import Derived.JoinedCond
/- Cache: Put: its beginning; a response that may not be stored. -/
namespace Go.Proofs.YtkobhknggamejaaDoor
set_option linter.unusedVariables false
set_option linter.unusedSimpArgs false
open Go.RowKit

theorem RowBut.lowB {w w' : World} {jb B E s n : Nat} {v : Value} {xs : List Value} (h : RowBut w.heap.size jb v.ownBlock w w') (hown : w.ownsRow B E s v n xs) (hjB : B ≤ jb) (hBw : B ≤ w.heap.size) : Below B w w' :=
  ⟨h.os, h.tape, h.output, h.size, fun k hk => h.block k (by omega) (by omega) (fun e => by have := own_base hown e; omega)⟩
theorem MaxAt.low {w w' : World} {B : Nat} (h : MaxAt w) (hb : Below B w w') (hG : 0 < B) : MaxAt w' := by
  obtain ⟨m, hm⟩ := h
  exact ⟨m, (hb.cell (p := ⟨0, 0, none⟩) hG).trans hm⟩
/-- the closure of Put over entries -/
theorem put1_is (x : Ee) (url : ByteArray) (rq : List Hd) (vr : Value) (C D : Nat) (W : World) (hU : AtL W C [.string url]) (hQ : AtL W D [vr]) (hr : Rd W x.1 x.2) (hv : SlK hdC 2 W vr rq) (hz : HdSz rq) (hy : HdSz x.2.va) :
    Calls Tryd.prog 11 #[eeA x, .pointer (some ⟨C, 0, none⟩), .pointer (some ⟨D, 0, none⟩)] W fun e W' => e = .returned (.bool (ansB x.2 url rq)) ∧ Below W.heap.size W W' := by
  obtain ⟨R, hR⟩ : ∃ R, ansB x.2 url rq = R := ⟨_, rfl⟩
  rw [hR]
  have hal := (Below.refl _ W).alloc (Nat.le_refl _) (.cells (eeC x).toArray 36)
  have A0 := AtL.new W (eeC x) 36
  have CA := Lib.hid (ans_is x url rq vr _ (hr.below hal (Nat.le_refl _)) (hv.below hal (Nat.le_refl _)) hz hy R hR)
  have U1 := hU.next hal
  have Q1 := hQ.next hal
  obtain ⟨sa, sc, rfl, _⟩ := hv.shape
  obtain ⟨⟨a1, n1, k1, e1⟩, a2, n2, k2, e2⟩ := hr.shp
  obtain ⟨⟨u, vv, st, hh, bo, ti⟩, xe⟩ := x
  have e1 : vv = .slice a1 n1 k1 := e1
  have e2 : hh = .slice a2 n2 k2 := e2
  subst e1 e2
  have c0 := U1.c 0 rfl
  have q0 := Q1.c 0 rfl
  have cl := U1.lt
  have ql := Q1.lt
  have hcl := hU.lt
  have hql := hQ.lt
  have u0 := hU.c 0 rfl
  have v0 := hQ.c 0 rfl
  clear hR hv hr hz hy hU hQ U1 Q1
  go_enter Tryd.func11, Tryd.ntmps11
  go_wp2_with (go_at_call 12; with_reducible refine CA.out.mono ?_; rintro e w1 ⟨rfl, hb1⟩)
  go_ret
  exact ⟨rfl, hal.trans (hb1.mono hal.size)⟩
/-- the entries that a response does not replace -/
abbrev keepL (l : List Ee) (url : ByteArray) (rq : List Hd) : List Ee := l.filter (fun x => !ansB x.2 url rq)
set_option maxRecDepth 20000 in
set_option maxHeartbeats 4000000 in
theorem put_no (jb B : Nat) (v : Value) (l : List Ee) (w : World) (hM : MaxAt w) (hG : 0 < B) (hjB : B ≤ jb) (hJ : CaIn w jb B v l) (hz : ∀ x ∈ l, HdSz x.2.va) (hl : l.length ≤ 1000) (url : ByteArray) (rq hs : List Hd) (vr vh : Value) (hq : SlK hdC 2 w vr rq) (hh : SlK hdC 2 w vh hs) (hzq : HdSz rq) (hzh : HdSz hs) (hfq : FarV rq vr jb v.ownBlock) (hfh : FarV hs vh jb v.ownBlock) (st : Int) (body : ByteArray) (now : Int) (hS : storL st rq hs = false) :
    Calls Tryd.prog 6 #[.pointer (some ⟨jb, 0, none⟩), .string url, vr, .int .i64 st, vh, .string body, .int .i64 now] w fun e w' => e = .returned (.bool false) ∧ CaTo w jb B v (keepL l url rq) w' := by
  have hjl := hJ.at_.lt
  have hB0 : Below w.heap.size w ((w.alloc (.cells [.string url].toArray 9)).alloc (.cells [vr].toArray 22)) := ((Below.refl _ w).alloc (Nat.le_refl _) _).alloc (by simp) _
  have U0 := (AtL.new w [.string url] 9).alloc (.cells [vr].toArray 22)
  have Q0 := AtL.new (w.alloc (.cells [.string url].toArray 9)) [vr] 22
  rw [show (w.alloc (.cells [.string url].toArray 9)).heap.size = w.heap.size + 1 by simp] at Q0
  have J0 := hJ.below hB0 (Nat.le_refl _)
  have q0 := hq.below hB0 (Nat.le_refl _)
  have ho := hown_lt hJ.own
  have CDel := Lib.hid (eedel (fun x => ansB x.2 url rq) 11 #[.pointer (some ⟨w.heap.size, 0, none⟩), .pointer (some ⟨w.heap.size + 1, 0, none⟩)] (enters_of Tryd.func11 (by kernel_rfl) rfl) l v _ B (fun x hx => (J0.rd x hx).shp) J0.own
    (fun W d hd hr => put1_is d url rq vr _ _ W (U0.row (hr jb) U0.lt (by omega) (fun e => by have := ho _ e; omega)) (Q0.row (hr jb) Q0.lt (by omega) (fun e => by have := ho _ e; omega)) ((J0.rd d hd).row (hr jb) (Nat.le_refl _) (J0.far d hd)) (slk_row q0 (hr jb) (Nat.le_refl _) hfq) hzq (hz d hd)) (by omega))
  have h0 := hh.below hB0 (Nat.le_refl _)
  have M0 := hM.below hB0 (Nat.le_refl _)
  have j0 := J0.at_.c 0 rfl
  have CS := Lib.hid (fun w hM hv hw => stor_is st rq hs vr vh w hM hv hw hzq hzh _ hS)
  have HJ := Lib.hid hJ
  have HJ0 := Lib.hid J0
  have HQ0 := Lib.hid q0
  have HH0 := Lib.hid h0
  have HM0 := Lib.hid M0
  have HFQ := Lib.hid hfq
  have HFH := Lib.hid hfh
  obtain ⟨sa, sc, rfl, _⟩ := hq.shape
  obtain ⟨sb, sd, rfl, _⟩ := hh.shape
  obtain ⟨ta, tc, hve, _⟩ := hJ.reads.shape
  subst hve
  have hjne : jb ≠ jb + 1 := by omega
  clear hq hh hM hJ hS J0 q0 h0 M0 hz hzq hfq hfh
  go_enter Tryd.func6, Tryd.ntmps6
  go_wp2_with (first
    | (go_at_call 10; refine CDel.out.mono ?_; rintro e w1 hq1; obtain ⟨a1, c1, rfl, hown1, hob1, hr1⟩ := delq_open hq1; clear hq1; have hrj := hr1 jb; have RI := HJ0.out.row.less hown1 (fun y hy => (List.mem_filter.1 hy).1) hrj hob1; have J1 := HJ0.out.at_.row (hr1 (jb + 1)) HJ0.out.at_.lt (by omega) HJ0.out.ne; have j1 := J1.c 0 rfl; have f1 := J1.f 0 rfl; have jl1 := J1.lt; have RS := RI.store J1; have hb3 := (hrj.lowB HJ0.out.own hjB HJ0.out.le).setCell (p := ⟨jb, 0, none⟩) hjB (.slice a1 (keepL l url rq).length c1); have M3 := HM0.out.low hb3 hG; have q3 := slk_far (x := .slice a1 (keepL l url rq).length c1) (slk_row HQ0.out hrj (Nat.le_refl _) HFQ.out) HFQ.out; have h3 := slk_far (x := .slice a1 (keepL l url rq).length c1) (slk_row HH0.out hrj (Nat.le_refl _) HFH.out) HFH.out; have U3 := (U0.row hrj U0.lt (by omega) (fun e => by have := ho _ e; omega)).far ⟨jb, 0, none⟩ (.slice a1 (keepL l url rq).length c1) (by show jb ≠ w.heap.size; omega); have Q3 := (Q0.row hrj Q0.lt (by omega) (fun e => by have := ho _ e; omega)).far ⟨jb, 0, none⟩ (.slice a1 (keepL l url rq).length c1) (by show jb ≠ w.heap.size + 1; omega); have qc3 := Q3.c 0 rfl; have ql3 := Q3.lt; have hR3 : RowBut w.heap.size jb (Value.slice ta l.length tc).ownBlock w (w1.setCell ⟨jb, 0, none⟩ (.slice a1 (keepL l url rq).length c1)) := (((RowBut.refl w.heap.size jb (Value.slice ta l.length tc).ownBlock w).below hB0 (Nat.le_refl _)).trans (hrj.mono hB0.size)).setCell ⟨jb, 0, none⟩ (Or.inl rfl) _; have hT3 : RowTo (.slice ta l.length tc) (.slice a1 (keepL l url rq).length c1) w.heap.size := fun g e => .inl (by rw [← hob1]; exact e); clear j0)
      | (go_at_call 13; with_reducible refine (CS.out _ M3 q3 h3).mono ?_; rintro e w4 ⟨rfl, hb4⟩)
    )
  go_ret
  exact ⟨rfl, CaTo.below ⟨⟨_, RS, hT3⟩, hR3⟩ hb4⟩
end Go.Proofs.YtkobhknggamejaaDoor

/- Cache: Put of a response that is stored. -/
namespace Go.Proofs.YtkobhknggamejaaDoor
set_option linter.unusedVariables false
set_option linter.unusedSimpArgs false
open Go.RowKit

/-- the headers of a request that a response depends on -/
def vstep (rq : List Hd) (va : List Hd) (w : List UInt8) : List Hd := if va.any (fun d => d.1.data.toList == lowL w) then va else va ++ [(bs (lowL w), valL rq (lowL w))]
def varyE (rq hs : List Hd) : List Hd := (varyL hs).foldl (vstep rq) []
theorem put2_is (T : ByteArray) (d : Hd) (N : Nat) (W : World) (hA : AtL W N [.string T]) :
    Calls Tryd.prog 18 #[hdA d, .pointer (some ⟨N, 0, none⟩)] W fun e W' => e = .returned (.bool (d.1.toList == T.toList)) ∧ Below W.heap.size W W' := by
  obtain ⟨yn, yv⟩ := d
  have a0 := hA.c 0 rfl
  have al := hA.lt
  go_enter Tryd.func18, Tryd.ntmps18
  go_wp2
  go_ret
  exact ⟨rfl, (Below.refl _ W).alloc (Nat.le_refl _) _⟩
abbrev setE6 (W : World) (k : Nat) (a b c d e f : Value) : World := (((((W.setCell ⟨k, 0, none⟩ a).setCell ⟨k, 1, none⟩ b).setCell ⟨k, 2, none⟩ c).setCell ⟨k, 3, none⟩ d).setCell ⟨k, 4, none⟩ e).setCell ⟨k, 5, none⟩ f
theorem AtL.setE6 {W : World} {k : Nat} {vs : List Value} (hv : AtL W k vs) (hl : vs.length = 6) (a b c d e f : Value) : AtL (setE6 W k a b c d e f) k [a, b, c, d, e, f] := by
  match vs, hl with
  | [_, _, _, _, _, _], _ => exact (((((hv.set 0 a).set 1 b).set 2 c).set 3 d).set 4 e).set 5 f
theorem below_setE6 {B k : Nat} {w W : World} (h : Below B w W) (hk : B ≤ k) (a b c d e f : Value) : Below B w (setE6 W k a b c d e f) :=
  (((((h.setCell (p := ⟨k, 0, none⟩) hk a).setCell (p := ⟨k, 1, none⟩) hk b).setCell (p := ⟨k, 2, none⟩) hk c).setCell (p := ⟨k, 3, none⟩) hk d).setCell (p := ⟨k, 4, none⟩) hk e).setCell (p := ⟨k, 5, none⟩) hk f
theorem slk_setE6 {hs : List Hd} {u : Value} {w : World} {k : Nat} (h : SlK hdC 2 w u hs) (hf : FarV hs u k none) (x0 x1 x2 x3 x4 x5 : Value) : SlK hdC 2 (setE6 w k x0 x1 x2 x3 x4 x5) u hs :=
  slk_row h ((((((( RowBut.refl w.heap.size k none w).setCell ⟨k, 0, none⟩ (Or.inl rfl) x0).setCell ⟨k, 1, none⟩ (Or.inl rfl) x1).setCell ⟨k, 2, none⟩ (Or.inl rfl) x2).setCell ⟨k, 3, none⟩ (Or.inl rfl) x3).setCell ⟨k, 4, none⟩ (Or.inl rfl) x4).setCell ⟨k, 5, none⟩ (Or.inl rfl) x5) (Nat.le_refl _) hf
theorem c_setE6 {w : World} {k b o : Nat} {u : Value} (h : w.cell? ⟨b, o, none⟩ = some u) (hk : k ≠ b) (x0 x1 x2 x3 x4 x5 : Value) : (setE6 w k x0 x1 x2 x3 x4 x5).cell? ⟨b, o, none⟩ = some u := by
  have c := fun (w : World) (h : w.cell? ⟨b, o, none⟩ = some u) (i : Nat) (x : Value) => (World.cell?_setCell_far w ⟨k, i, none⟩ ⟨b, o, none⟩ x hk).trans h
  exact c _ (c _ (c _ (c _ (c _ (c _ h 0 x0) 1 x1) 2 x2) 3 x3) 4 x4) 5 x5
/-- a change of a row that lies where another lay, or behind all that was there -/
theorem RowTo.grown {v v' : Value} {jb : Nat} {w w4 w' : World} (h : RowTo v v' w.heap.size) (hr : RowBut w.heap.size jb v.ownBlock w w4) (hg : w4.grownBy w' v'.ownBlock) (hn : w.heap.size ≤ w4.heap.size) : RowBut w.heap.size jb v.ownBlock w w' :=
  ⟨hg.os.trans hr.os, hg.tape.trans hr.tape, hg.output.trans hr.output, Nat.le_trans hr.size hg.size, fun k hk h1 h2 => (hg.block k (by omega) (fun e => by
    rcases h k e.symm with h3 | h3
    · exact h2 h3
    · omega)).trans (hr.block k hk h1 h2)⟩
/-- the new entry in a block of its own -/
def NewAt (w4 : World) (url : ByteArray) (st : Int) (body : ByteArray) (now : Int) (hs : List Hd) (c : Value) (w5 : World) : Prop :=
  ∃ (E : Nat) (ha : Option Addr) (hc : Nat), .pointer (some ⟨E, 0, none⟩) = c ∧ AtL w5 E [.string url, .slice none 0 0, .int .i64 st, .slice ha hs.length hc, .string body, .int .i64 now] ∧ SlK hdC 2 w5 (.slice ha hs.length hc) hs ∧ (∀ b off n k, Value.slice ha hs.length hc = .slice (some ⟨b, off, none⟩) n k → w4.heap.size ≤ b) ∧ FarV hs (.slice ha hs.length hc) E none ∧ w4.heap.size ≤ E ∧ Below w4.heap.size w4 w5
abbrev zE : List Value := [.string ⟨#[]⟩, .slice none 0 0, .int .i64 0, .slice none 0 0, .string ⟨#[]⟩, .int .i64 0]
theorem newat_a {w4 w5 : World} {url : ByteArray} {st : Int} {body : ByteArray} {now : Int} {hs : List Hd} {ha : Option Addr} {hc : Nat} (hs5 : SlK hdC 2 w5 (.slice ha hs.length hc) hs) (hb5 : Below (w4.alloc (.cells zE.toArray 36)).drew.heap.size (w4.alloc (.cells zE.toArray 36)).drew w5) (hn5 : ∀ b off n k, Value.slice ha hs.length hc = .slice (some ⟨b, off, none⟩) n k → (w4.alloc (.cells zE.toArray 36)).drew.heap.size ≤ b) :
    NewAt w4 url st body now hs (.pointer (some ⟨w4.heap.size, 0, none⟩)) (setE6 w5 w4.heap.size (.string url) (.slice none 0 0) (.int .i64 st) (.slice ha hs.length hc) (.string body) (.int .i64 now)) := by
  have hsz : (w4.alloc (.cells zE.toArray 36)).drew.heap.size = w4.heap.size + 1 := by simp
  have hA := (AtL.new w4 zE 36).drew.next hb5
  have hb : Below w4.heap.size w4 w5 := ((Below.refl _ w4).alloc (Nat.le_refl _) _).drew.trans (hb5.mono (by rw [hsz]; omega))
  have hf : FarV hs (.slice ha hs.length hc) w4.heap.size none := fun _ b off n k e => ⟨by have := hn5 b off n k e; omega, by simp⟩
  exact ⟨_, ha, hc, rfl, hA.setE6 rfl _ _ _ _ _ _, slk_setE6 hs5 hf _ _ _ _ _ _, fun b off n k e => by have := hn5 b off n k e; omega, hf, Nat.le_refl _, below_setE6 hb (Nat.le_refl _) _ _ _ _ _ _⟩
theorem newat_b {w4 w5 : World} {url : ByteArray} {st : Int} {body : ByteArray} {now : Int} {hs : List Hd} {ha : Option Addr} {hc : Nat} (hs5 : SlK hdC 2 w5 (.slice ha hs.length hc) hs) (hb5 : Below w4.drew.heap.size w4.drew w5) (hn5 : ∀ b off n k, Value.slice ha hs.length hc = .slice (some ⟨b, off, none⟩) n k → w4.drew.heap.size ≤ b) :
    NewAt w4 url st body now hs (.pointer (some ⟨w5.heap.size, 0, none⟩)) (w5.alloc (.cells #[.string url, .slice none 0 0, .int .i64 st, .slice ha hs.length hc, .string body, .int .i64 now] 36)) := by
  have hA := AtL.new w5 [.string url, .slice none 0 0, .int .i64 st, .slice ha hs.length hc, .string body, .int .i64 now] 36
  have hb : Below w4.heap.size w4 w5 := (Below.refl _ w4).drew.trans hb5
  have hf : FarV hs (.slice ha hs.length hc) w5.heap.size none := slk_new hs5 (Nat.le_refl _)
  have hal : Below w5.heap.size w5 (w5.alloc (.cells #[.string url, .slice none 0 0, .int .i64 st, .slice ha hs.length hc, .string body, .int .i64 now] 36)) := (Below.refl _ w5).alloc (Nat.le_refl _) _
  exact ⟨_, ha, hc, rfl, hA, hs5.below hal (Nat.le_refl _), hn5, hf, hb.size, hb.trans (hal.mono hb.size)⟩
set_option maxRecDepth 20000 in
set_option maxHeartbeats 8000000 in
theorem put_yes (jb B : Nat) (v : Value) (l : List Ee) (w : World) (hM : MaxAt w) (hG : 0 < B) (hjB : B ≤ jb) (hJ : CaIn w jb B v l) (hz : ∀ x ∈ l, HdSz x.2.va) (hl : l.length ≤ 1000) (url : ByteArray) (rq hs : List Hd) (vr vh : Value) (hq : SlK hdC 2 w vr rq) (hh : SlK hdC 2 w vh hs) (hzq : HdSz rq) (hzh : HdSz hs) (hfq : FarV rq vr jb v.ownBlock) (hfh : FarV hs vh jb v.ownBlock) (st : Int) (body : ByteArray) (now : Int) (hS : storL st rq hs = true) :
    Calls Tryd.prog 6 #[.pointer (some ⟨jb, 0, none⟩), .string url, vr, .int .i64 st, vh, .string body, .int .i64 now] w fun e w' => e = .returned (.bool true) ∧ ∃ r : Er, CaTo w jb B v (keepL l url rq ++ [(r, ⟨url, varyE rq hs, st, hs, body, now⟩)]) w' := by
  have CCl := Lib.hid (fun (w : World) hv => clo_is hs vh w hv hzh.1)
  obtain ⟨L, hL⟩ : ∃ L, varyL hs = L := ⟨_, rfl⟩
  have CV := Lib.hid (fun w hM hv => vary_is hs vh w hM hv hzh L hL)
  have CH := Lib.hid (fun (w : World) (T : ByteArray) (hT : T.size ≤ 100000) (hv : SlK hdC 2 w vr rq) => hdr_at rq vr T w hv hzq hT (valL rq T.data.toList) _ rfl rfl)
  have HL := Lib.hid hL
  clear hL
  have hjl := hJ.at_.lt
  have hB0 : Below w.heap.size w ((w.alloc (.cells [.string url].toArray 9)).alloc (.cells [vr].toArray 22)) := ((Below.refl _ w).alloc (Nat.le_refl _) _).alloc (by simp) _
  have U0 := (AtL.new w [.string url] 9).alloc (.cells [vr].toArray 22)
  have Q0 := AtL.new (w.alloc (.cells [.string url].toArray 9)) [vr] 22
  rw [show (w.alloc (.cells [.string url].toArray 9)).heap.size = w.heap.size + 1 by simp] at Q0
  have J0 := hJ.below hB0 (Nat.le_refl _)
  have q0 := hq.below hB0 (Nat.le_refl _)
  have ho := hown_lt hJ.own
  have CDel := Lib.hid (eedel (fun x => ansB x.2 url rq) 11 #[.pointer (some ⟨w.heap.size, 0, none⟩), .pointer (some ⟨w.heap.size + 1, 0, none⟩)] (enters_of Tryd.func11 (by kernel_rfl) rfl) l v _ B (fun x hx => (J0.rd x hx).shp) J0.own
    (fun W d hd hr => put1_is d url rq vr _ _ W (U0.row (hr jb) U0.lt (by omega) (fun e => by have := ho _ e; omega)) (Q0.row (hr jb) Q0.lt (by omega) (fun e => by have := ho _ e; omega)) ((J0.rd d hd).row (hr jb) (Nat.le_refl _) (J0.far d hd)) (slk_row q0 (hr jb) (Nat.le_refl _) hfq) hzq (hz d hd)) (by omega))
  have h0 := hh.below hB0 (Nat.le_refl _)
  have M0 := hM.below hB0 (Nat.le_refl _)
  have j0 := J0.at_.c 0 rfl
  have CS := Lib.hid (fun w hM hv hw => stor_is st rq hs vr vh w hM hv hw hzq hzh _ hS)
  have HJ := Lib.hid hJ
  have HJ0 := Lib.hid J0
  have HQ0 := Lib.hid q0
  have HH0 := Lib.hid h0
  have HM0 := Lib.hid M0
  have HFQ := Lib.hid hfq
  have HFH := Lib.hid hfh
  obtain ⟨sa, sc, rfl, _⟩ := hq.shape
  obtain ⟨sb, sd, rfl, _⟩ := hh.shape
  obtain ⟨ta, tc, hve, _⟩ := hJ.reads.shape
  subst hve
  have hjne : jb ≠ jb + 1 := by omega
  clear hq hh hM hJ hS J0 q0 h0 M0 hz hzq hfq hfh
  go_enter Tryd.func6, Tryd.ntmps6
  go_upto_region 4 with (first
    | (go_at_call 10; refine CDel.out.mono ?_; rintro e w1 hq1; obtain ⟨a1, c1, rfl, hown1, hob1, hr1⟩ := delq_open hq1; clear hq1; have hrj := hr1 jb; have RI := HJ0.out.row.less hown1 (fun y hy => (List.mem_filter.1 hy).1) hrj hob1; have J1 := HJ0.out.at_.row (hr1 (jb + 1)) HJ0.out.at_.lt (by omega) HJ0.out.ne; have j1 := J1.c 0 rfl; have f1 := J1.f 0 rfl; have jl1 := J1.lt; have RS := RI.store J1; have hb3 := (hrj.lowB HJ0.out.own hjB HJ0.out.le).setCell (p := ⟨jb, 0, none⟩) hjB (.slice a1 (keepL l url rq).length c1); have M3 := HM0.out.low hb3 hG; have q3 := slk_far (x := .slice a1 (keepL l url rq).length c1) (slk_row HQ0.out hrj (Nat.le_refl _) HFQ.out) HFQ.out; have h3 := slk_far (x := .slice a1 (keepL l url rq).length c1) (slk_row HH0.out hrj (Nat.le_refl _) HFH.out) HFH.out; have U3 := (U0.row hrj U0.lt (by omega) (fun e => by have := ho _ e; omega)).far ⟨jb, 0, none⟩ (.slice a1 (keepL l url rq).length c1) (by show jb ≠ w.heap.size; omega); have Q3 := (Q0.row hrj Q0.lt (by omega) (fun e => by have := ho _ e; omega)).far ⟨jb, 0, none⟩ (.slice a1 (keepL l url rq).length c1) (by show jb ≠ w.heap.size + 1; omega); have qc3 := Q3.c 0 rfl; have ql3 := Q3.lt; have hR3 : RowBut w.heap.size jb (Value.slice ta l.length tc).ownBlock w (w1.setCell ⟨jb, 0, none⟩ (.slice a1 (keepL l url rq).length c1)) := (((RowBut.refl w.heap.size jb (Value.slice ta l.length tc).ownBlock w).below hB0 (Nat.le_refl _)).trans (hrj.mono hB0.size)).setCell ⟨jb, 0, none⟩ (Or.inl rfl) _; have hT3 : RowTo (.slice ta l.length tc) (.slice a1 (keepL l url rq).length c1) w.heap.size := fun g e => .inl (by rw [← hob1]; exact e); clear j0)
      | (go_at_call 13; with_reducible refine (CS.out _ M3 q3 h3).mono ?_; rintro e w4 ⟨rfl, hb4⟩)
    )
  obtain ⟨w3, hw3⟩ : ∃ w3 : World, w1.setCell ⟨jb, 0, none⟩ (.slice a1 (keepL l url rq).length c1) = w3 := ⟨_, rfl⟩
  rw [hw3] at hb4 RS M3 q3 h3 U3 Q3 hR3
  have M4 := M3.below hb4 (Nat.le_refl _)
  have q4 := q3.below hb4 (Nat.le_refl _)
  have h4 := h3.below hb4 (Nat.le_refl _)
  have U4 := U3.next hb4
  have Q4 := Q3.next hb4
  have RS4 := RS.below hb4 (Nat.le_refl _)
  have hR4 := hR3.below hb4 (by have := hR3.size; omega)
  obtain ⟨C, hC⟩ : ∃ C, w.heap.size = C := ⟨_, rfl⟩
  obtain ⟨D, hD⟩ : ∃ D, w.heap.size + 1 = D := ⟨_, rfl⟩
  have hgC : w.heap.size = C := hC
  rw [hC] at U4
  rw [hD] at Q4
  rw [hD, hC]
  have HCC := Lib.hid hC
  have HDD := Lib.hid hD
  have uc := U4.c 0 rfl
  have ul := U4.lt
  have h4d := h4.below (Below.refl _ w4).drew (Nat.le_refl _)
  have h4a := (h4.below ((Below.refl _ w4).alloc (Nat.le_refl _) (.cells zE.toArray 36)) (Nat.le_refl _)).below (Below.refl _ (w4.alloc (.cells zE.toArray 36))).drew (Nat.le_refl _)
  clear hC hD hgC hw3
  go_cut [15] from 35 to 41 (fun c15 w5 => NewAt w4 url st body now hs c15 w5)
  case first =>
    have hC4 : w4.heap.size ≠ C := by omega
    go_region_held3 (fun w' => w'.cell? ⟨C, 0, none⟩ = some (.string url)) (first | with_reducible exact U4.drew.c 0 rfl | with_reducible exact (U4.alloc _).drew.c 0 rfl | with_reducible exact uc5 | with_reducible exact (U5.alloc _).c 0 rfl | exact c_setE6 uc5 hC4 _ _ _ _ _ _ | exact c_setE6 ((U5.alloc _).c 0 rfl) hC5 _ _ _ _ _ _)
      (first
        | (go_at_call 14; (with_reducible refine (CCl.out w4.drew h4d).mono ?_); rintro e w5 hq5; obtain ⟨ha, hc, rfl, hs5, hb5, hn5⟩ := cloq_open hq5; have U5 := U4.drew.next hb5; have uc5 := U5.c 0 rfl; have hC5 : w5.heap.size ≠ C := (by have := U5.lt; omega); have HN := Lib.hid (newat_b (url := url) (st := st) (body := body) (now := now) hs5 hb5 hn5))
        | (go_at_call 14; (with_reducible refine (CCl.out (w4.alloc (.cells zE.toArray 36)).drew h4a).mono ?_); rintro e w5 hq5; obtain ⟨ha, hc, rfl, hs5, hb5, hn5⟩ := cloq_open hq5; have U5 := (U4.alloc _).drew.next hb5; have uc5 := U5.c 0 rfl; have hC5 : w5.heap.size ≠ C := (by have := U5.lt; omega); have HN := Lib.hid (newat_a (url := url) (st := st) (body := body) (now := now) hs5 hb5 hn5); have EA := (AtL.new w4 zE 36).drew.next hb5; have z0 := EA.c 0 rfl; have z1 := EA.c 1 rfl; have z2 := EA.c 2 rfl; have z3 := EA.c 3 rfl; have z4 := EA.c 4 rfl; have z5 := EA.c 5 rfl; have f0 := EA.f 0 rfl; have f1 := EA.f 1 rfl; have f2 := EA.f 2 rfl; have f3 := EA.f 3 rfl; have f4 := EA.f 4 rfl; have f5 := EA.f 5 rfl; have eal := EA.lt))
    all_goals
      go_wp2_with fail
      go_meet
      case rel => exact HN.out
  case rest =>
    obtain ⟨E, ha, hc, rfl, AE, hsE, hnE, hfE, hE4, hb5⟩ := hcut
    have hvz := hdr_size hs [118, 97, 114, 121] hzh
    obtain ⟨VV, hVV⟩ : ∃ VV, (hdrL hs [118, 97, 114, 121]).getD ⟨#[]⟩ = VV := ⟨_, rfl⟩
    rw [hVV] at hvz
    have hLV : wordsL VV.data.toList = L := by rw [← hVV]; exact HL.out
    go_wp2_with (go_at_call 15; with_reducible refine (CV.out _ (M4.below hb5 (Nat.le_refl _)) (h4.below hb5 (Nat.le_refl _))).mono ?_; rintro e w6 hq6; obtain ⟨ps, pa, pc, rfl, hownw, hps, hb6⟩ := wordsq_open hq6; clear hq6)
    have hpz : ∀ p ∈ ps, p.size ≤ 100000 := fun p hp => by
      have := words_size VV.data.toList p.data.toList (by rw [hLV, ← hps]; exact List.mem_map_of_mem hp)
      rw [size_len, size_len] at this
      omega
    have hpl : ps.length ≤ 100001 := by
      have h1 : (wordsL VV.data.toList).length ≤ VV.size + 1 := by
        unfold wordsL
        refine Nat.le_trans (List.length_filter_le _ _) ?_
        rw [List.length_map]
        have := segs_count 44 VV.data.toList
        rwa [size_len] at this
      rw [hLV, ← hps] at h1
      simp [lists] at h1
      omega
    have HPS := Lib.hid hps
    have HPZ := Lib.hid hpz
    have A6 := AE.next hb6
    have hEl := A6.lt
    have hE5 := AE.lt
    have hb46 := hb5.trans (hb6.mono hb5.size)
    have q6 := q4.below hb46 (Nat.le_refl _)
    have Q6 := Q4.next hb46
    have RS6 := RS4.below hb46 (Nat.le_refl _)
    have sE6 := hsE.below hb6 (Nat.le_refl _)
    obtain ⟨_, _, hve, hlc, hlm, hra⟩ := own_reads hownw
    injection hve with e1 _ e3
    subst e1 e3
    have HRA := Lib.hid hra
    have hDE : D ≠ E := by have := Q4.lt; omega
    have hDl := Q6.lt
    have HBK := Lib.hid hb46
    have HQ4 := Lib.hid q4
    have HRS4 := Lib.hid RS4
    clear hps hpz hra hVV hLV hb46 q4 h4 U4 Q4 RS4 hsE AE
    go_loopw [45] (fun iv wr => ∃ (k : Nat) (va : List Hd) (u : Value), k ≤ ps.length ∧ iv = .int .i64 k ∧ va.length ≤ k ∧ Hid (va = ((lists ps).take k).foldl (vstep rq) []) ∧ AtL wr E [.string url, u, .int .i64 st, .slice ha hs.length hc, .string body, .int .i64 now] ∧ wr.ownsRow w6.heap.size 31 2 u va.length (cellsK hdC va) ∧ BelowBut w6.heap.size E w6 wr) (fun iv _ => ps.length - (intOf iv).toNat)
    case atStart => exact ⟨0, [], _, Nat.zero_le _, rfl, Nat.le_refl _, Lib.hid rfl, A6, World.ownsRow_nil _ _ _ _, BelowBut.refl _ _ _⟩
    case round =>
      obtain ⟨k, va, u, hk, rfl, hvk, HV, AW, hown, hbb⟩ := hrel
      have hwz := hbb.size
      by_cases hlt : k < ps.length
      · have hki : (k : Int) < (ps.length : Int) := by omega
        have hk0 : (0 : Int) ≤ (k : Int) := by omega
        rcases HRA.out with ⟨_, h0⟩ | ⟨gw, rfl, hgB, hgw, hcg⟩
        · omega
        have c0 := (hbb.cell (p := ⟨gw, k, none⟩) hgw (by show gw ≠ E; omega)).trans (hcg k (.string ps[k]) (by simp [strsV, hlt]))
        have hx := HPZ.out _ (List.getElem_mem hlt)
        have hfs := fold_step (vstep rq) [] (lists ps) k (by simpa [lists] using hlt) ps[k].data.toList (by simp [lists]) va HV.out.symm
        obtain ⟨x, hxe⟩ : ∃ x, ps[k] = x := ⟨_, rfl⟩
        rw [hxe] at c0 hx hfs
        obtain ⟨T, hT⟩ : ∃ T, bs (lowL x.data.toList) = T := ⟨_, rfl⟩
        have hTl : T.data.toList = lowL x.data.toList := by rw [← hT]; rfl
        have hTz : T.size ≤ 100000 := by rw [← hT, low_size]; exact hx
        have CLo := Lib.hid (fun w => lowh_is x T hTl w (by omega))
        obtain ⟨ua, uc, rfl, _, _, _⟩ := own_reads hown
        have hst : vstep rq va x.data.toList = if va.any (fun d => d.1.toList == T.toList) then va else va ++ [(T, valL rq T.data.toList)] := by
          unfold vstep
          have e : (fun d : Hd => d.1.data.toList == lowL x.data.toList) = (fun d : Hd => d.1.toList == T.toList) := by
            funext d
            rw [ByteArray.toList_eq, ByteArray.toList_eq, hTl]
          rw [e, hT, hTl]
        rw [hst] at hfs
        obtain ⟨R, hR⟩ : ∃ R, va.any (fun d => d.1.toList == T.toList) = R := ⟨_, rfl⟩
        have CCo := Lib.hid (fun (W : World) (N : Nat) (hA : AtL W N [.string T]) (hv : SlK hdC 2 W (.slice ua va.length uc) va) => hdcont (fun d => d.1.toList == T.toList) 18 #[.pointer (some ⟨N, 0, none⟩)] (enters_of Tryd.func18 (by kernel_rfl) rfl) va _ W hv (fun W' d hd hb => put2_is T d N W' (hA.next hb)) (by omega) R hR)
        rw [hR] at hfs
        have hgl : gw < wr.heap.size := Nat.lt_of_lt_of_le hgw hwz
        have hElr : E < wr.heap.size := AW.lt
        obtain ⟨V, hV⟩ : ∃ V, valL rq T.data.toList = V := ⟨_, rfl⟩
        rw [hV] at hfs
        have CHe := Lib.hid (fun (w : World) (hv : SlK hdC 2 w (.slice sa rq.length sc) rq) => by have := CH.out w T hTz hv; rw [hV] at this; exact this)
        have HQ6 := Lib.hid Q6
        cases R with
        | true =>
          rw [if_pos rfl] at hfs
          have HFS := Lib.hid hfs
          clear hfs hst hR hT hTl hxe hcg hV
          go_wp2_with (first
            | (go_at_call 16; with_reducible refine (CLo.out _).mono ?_; rintro e w7 ⟨rfl, hb7⟩; have A8 := (AW.next hb7).alloc (.cells #[.string T] 9); have N8 := AtL.new w7 [.string T] 9; have o8 := (own_below hown hb7 (Nat.le_refl _)).alloc (.cells #[.string T] 9); have hb8 := (but_below hbb hb7 hwz).alloc (Nat.le_trans hwz hb7.size) (.cells #[.string T] 9); have z1 := A8.c 1 rfl; have al8 := A8.lt)
            | (go_at_call 17; refine (CCo.out _ _ N8 (SlK.of_own hdC_len o8)).mono ?_; rintro e w9 ⟨rfl, hb9⟩))
          go_roundw
          case rel => exact ⟨k + 1, va, _, by omega, by go_num, by omega, Lib.hid HFS.out.symm, A8.next hb9, own_below o8 hb9 (Nat.le_refl _), but_below hb8 hb9 hb8.size⟩
          case measure => simp [intOf]; omega
        | false =>
          rw [if_neg (by simp)] at hfs
          have HFS := Lib.hid hfs
          clear hfs hst hR hT hTl hxe hcg hV
          go_wp2_with (first
            | (go_at_call 16; with_reducible refine (CLo.out _).mono ?_; rintro e w7 ⟨rfl, hb7⟩; have A8 := (AW.next hb7).alloc (.cells #[.string T] 9); have N8 := AtL.new w7 [.string T] 9; have o8 := (own_below hown hb7 (Nat.le_refl _)).alloc (.cells #[.string T] 9); have hb8 := (but_below hbb hb7 hwz).alloc (Nat.le_trans hwz hb7.size) (.cells #[.string T] 9); have z1 := A8.c 1 rfl; have al8 := A8.lt)
            | (go_at_call 17; refine (CCo.out _ _ N8 (SlK.of_own hdC_len o8)).mono ?_; rintro e w9 ⟨rfl, hb9⟩; have A9 := A8.next hb9; have N9 := N8.next hb9; have o9 := own_below o8 hb9 (Nat.le_refl _); have hb99 := but_below hb8 hb9 hb8.size; have q9 := SlK.below HQ4.out (BelowBut.to_below hb99 HBK.out HBK.out.size hE4) (Nat.le_refl _); have D9 := HQ6.out.but hb99 hDl hDE; have dc9 := D9.c 0 rfl; have dl9 := D9.lt; have nc9 := N9.c 0 rfl; have nl9 := N9.lt; clear z1)
            | (go_at_call 7; with_reducible refine (CHe.out _ q9).mono ?_; rintro e w10 ⟨rfl, hb10⟩; have A10 := A9.next hb10; have o10 := own_below o9 hb10 (Nat.le_refl _); have hb101 := but_below hb99 hb10 hb99.size; have z1 := A10.c 1 rfl; have al10 := A10.lt; have N10 := N9.next hb10; have nc10 := N10.c 0 rfl; have nl10 := N10.lt; have hz10 := hb101.size)
            | (refine app2 slH _ (by rfl) (.tmp 63) (.tmp 67) (by rfl) w6.heap.size _ _ _ (by rfl) o10 [_, _] 1 _ (by rfl) rfl (by rfl) (by intro u hu; simp at hu; rcases hu with rfl | rfl <;> rfl) (by decide) (by omega) (by omega) hz10 ?_; intro v11 w11 o11 g11 f11; obtain ⟨ub, uk, rfl, _, _, _⟩ := own_reads o11; have A11 := A10.grown g11 (fun e => by have := own_base o10 e; omega); have z1 := A11.c 1 rfl; have y1 := A11.f 1 rfl; have al11 := A11.lt))
          go_roundw
          case rel => exact ⟨k + 1, va ++ [(T, V)], _, by omega, by go_num, by simp; omega, Lib.hid HFS.out.symm, A11.set 1 _, own_eq (ownsRow_setCell_other (a := ⟨E, 1, none⟩) o11 (by intro e; have h1 : w6.heap.size ≤ E := own_base o11 e; omega) _) (by simp) (by rw [cellsK_app]; rfl), (hb101.grown o10 g11 hz10).setCell ⟨E, 1, none⟩ (Or.inl rfl) _⟩
          case measure => simp [intOf]; omega
      · obtain rfl : k = ps.length := by omega
        have hVV : va = varyE rq hs := by
          rw [HV.out]; unfold varyE; rw [HL.out, ← HPS.out, List.take_of_length_le (by simp [lists])]
        have HVV := Lib.hid hVV
        have hb4r := BelowBut.to_below hbb HBK.out HBK.out.size hE4
        have RSr := HRS4.out.below hb4r (Nat.le_refl _)
        have hRr := hR4.below hb4r hR4.size
        have sEr : SlK hdC 2 wr (.slice ha hs.length hc) hs := slk_row (jb := E) (o := none) sE6 ⟨hbb.os, hbb.tape, hbb.output, hbb.size, fun k hk h1 _ => hbb.block k hk h1⟩ (Nat.le_refl _) hfE
        obtain ⟨ua, uc, rfl, _, _, hub⟩ := own_reads hown
        have hKl : (keepL l url rq).length ≤ 1000 := Nat.le_trans (List.length_filter_le _ _) hl
        have hjr := RSr.at_.lt
        have hj4 := HRS4.out.at_.lt
        have ha4 := hown_lt HRS4.out.own
        have hfx : FarE (⟨url, .slice ua va.length uc, st, .slice ha hs.length hc, body, now⟩, ⟨url, va, st, hs, body, now⟩) jb (Value.slice a1 (keepL l url rq).length c1).ownBlock := by
          refine ⟨fun _ b off n c e => ?_, fun _ b off n c e => ?_⟩
          · rcases hub with ⟨h1, _⟩ | ⟨gu, h1, h2, _⟩
            · have e : Value.slice ua va.length uc = .slice (some ⟨b, off, none⟩) n c := e
              rw [h1] at e; cases e
            · have e : Value.slice ua va.length uc = .slice (some ⟨b, off, none⟩) n c := e
              rw [h1] at e
              injection e with e1 _ _
              injection e1 with e1
              injection e1 with e1
              subst e1
              have := HBK.out.size
              exact ⟨by omega, fun e2 => by have := ha4 _ e2; omega⟩
          · have := hnE b off n c e
            exact ⟨by omega, fun e2 => by have := ha4 _ e2; omega⟩
        have hrx : Rd wr (⟨url, .slice ua va.length uc, st, .slice ha hs.length hc, body, now⟩ : Er) ⟨url, va, st, hs, body, now⟩ := ⟨rfl, rfl, rfl, rfl, SlK.of_own hdC_len hown, sEr⟩
        have HFX := Lib.hid hfx
        have HRX := Lib.hid hrx
        have HONE := Lib.hid (one6 (⟨url, .slice ua va.length uc, st, .slice ha hs.length hc, body, now⟩, ⟨url, va, st, hs, body, now⟩) ⟨⟨_, _, _, rfl⟩, ⟨_, _, _, rfl⟩⟩)
        have HRS := Lib.hid RSr
        have HRR := Lib.hid hRr
        have hjE : jb ≠ E := by omega
        have j0 := RSr.at_.c 0 rfl
        have f0 := RSr.at_.f 0 rfl
        have hBr := RSr.le
        have hgj := RSr.ne
        have hwr := HRR.out.size
        have z0 := AW.c 0 rfl; have z1 := AW.c 1 rfl; have z2 := AW.c 2 rfl; have z3 := AW.c 3 rfl; have z4 := AW.c 4 rfl; have z5 := AW.c 5 rfl
        have awl := AW.lt
        have hal1 := (Below.refl _ wr).alloc (Nat.le_refl _) (.cells (eeC (⟨url, .slice ua va.length uc, st, .slice ha hs.length hc, body, now⟩, ⟨url, va, st, hs, body, now⟩)).toArray 36)
        have R9 := (RSr.row.al (.cells (eeC (⟨url, .slice ua va.length uc, st, .slice ha hs.length hc, body, now⟩, ⟨url, va, st, hs, body, now⟩)).toArray 36)).dr
        have X9 : Rd (wr.alloc (.cells (eeC (⟨url, .slice ua va.length uc, st, .slice ha hs.length hc, body, now⟩, ⟨url, va, st, hs, body, now⟩)).toArray 36)).drew (⟨url, .slice ua va.length uc, st, .slice ha hs.length hc, body, now⟩ : Er) ⟨url, va, st, hs, body, now⟩ := hrx.below hal1.drew (Nat.le_refl _)
        have J9 := (RSr.at_.alloc (.cells (eeC (⟨url, .slice ua va.length uc, st, .slice ha hs.length hc, body, now⟩, ⟨url, va, st, hs, body, now⟩)).toArray 36)).drew
        have B9 : RowBut w.heap.size jb (Value.slice ta l.length tc).ownBlock w (wr.alloc (.cells (eeC (⟨url, .slice ua va.length uc, st, .slice ha hs.length hc, body, now⟩, ⟨url, va, st, hs, body, now⟩)).toArray 36)).drew := hRr.below hal1.drew hwr
        have hs9 : B ≤ (wr.alloc (.cells (eeC (⟨url, .slice ua va.length uc, st, .slice ha hs.length hc, body, now⟩, ⟨url, va, st, hs, body, now⟩)).toArray 36)).drew.heap.size := by simp; omega
        have hk9 : jb < (wr.alloc (.cells (eeC (⟨url, .slice ua va.length uc, st, .slice ha hs.length hc, body, now⟩, ⟨url, va, st, hs, body, now⟩)).toArray 36)).drew.heap.size := by simp; omega
        have hw9 : w.heap.size ≤ (wr.alloc (.cells (eeC (⟨url, .slice ua va.length uc, st, .slice ha hs.length hc, body, now⟩, ⟨url, va, st, hs, body, now⟩)).toArray 36)).drew.heap.size := by simp; omega
        have HR9 := Lib.hid R9
        have HX9 := Lib.hid X9
        have HJ9 := Lib.hid J9
        have HB9 := Lib.hid B9
        have HS9 := Lib.hid hs9
        have HK9 := Lib.hid hk9
        have HW9 := Lib.hid hw9
        have HT3 := Lib.hid hT3
        clear hVV RSr hRr sEr hub hfx hrx ha4 hgj HV R9 X9 J9 B9 hal1 hs9 hk9 hw9 hT3
        go_wp2_with fail
        go_region_law (first
          | (refine step_appG slE (wr.alloc (.cells (eeC (⟨url, .slice ua va.length uc, st, .slice ha hs.length hc, body, now⟩, ⟨url, va, st, hs, body, now⟩)).toArray 36)).drew (by rfl) (.tmp 75) (.tmp 77) (by rfl) B _ (keepL l url rq).length (cellsK eeC (keepL l url rq)) (by rfl) HR9.out.own (eeC (⟨url, .slice ua va.length uc, st, .slice ha hs.length hc, body, now⟩, ⟨url, va, st, hs, body, now⟩)) 1 wr.heap.size (by rfl) (AtL.new wr (eeC (⟨url, .slice ua va.length uc, st, .slice ha hs.length hc, body, now⟩, ⟨url, va, st, hs, body, now⟩)) 36).drew rfl HONE.out (by decide) (by omega) (by omega) HS9.out ?_; intro g5 cap5 w8 hown8 hgrow hat hlt8; have F8 := RowIn.app HR9.out HX9.out HFX.out HK9.out rfl hown8 hgrow hat; have J8 := HJ9.out.grown hgrow HR9.out.ne; have t8 := J8.c 0 rfl; have s8 := J8.f 0 rfl; have jl8 := J8.lt; have B8 := HT3.out.grown HB9.out hgrow HW9.out))
        all_goals
          go_wp2_with fail
          go_ret
          refine ⟨rfl, ⟨url, .slice ua va.length uc, st, .slice ha hs.length hc, body, now⟩, ?_⟩
          rw [← HVV.out]
          refine ⟨⟨_, F8.1.store J8, fun g' e => ?_⟩, B8.setCell ⟨jb, 0, none⟩ (Or.inl rfl) _⟩
          rcases F8.2 g' e with h1 | h1
          · exact HT3.out g' h1
          · exact .inr (Nat.le_trans HW9.out h1)
end Go.Proofs.YtkobhknggamejaaDoor

/- Cache: SameAttrs, SameEntry, Same of what reads alike. -/
namespace Go.Proofs.YtkobhknggamejaaDoor
set_option linter.unusedVariables false
set_option linter.unusedSimpArgs false
open Go.RowKit

/-- two slices of headers that read alike -/
theorem two_h {w : World} {l : List Hd} {sa sb : Option Addr} {sc sd : Nat} (hv : SlK hdC 2 w (.slice sa l.length sc) l) (hv2 : SlK hdC 2 w (.slice sb l.length sd) l) :
    0 < l.length → ∃ b0 off b2 off2 : Nat, sa = some ⟨b0, off, none⟩ ∧ sb = some ⟨b2, off2, none⟩ ∧ ∀ kk (h : kk < l.length) j u, (hdC l[kk])[j]? = some u → w.cell? ⟨b0, off + kk * 2 + j, none⟩ = some u ∧ w.cell? ⟨b2, off2 + kk * 2 + j, none⟩ = some u := by
  intro hlt
  rcases hv with ⟨rfl, _⟩ | ⟨_, b0, off, cap, he, hc1, hc2, hc3, hcell⟩
  · simp at hlt
  rcases hv2 with ⟨rfl, _⟩ | ⟨_, b2, off2, cap2, he2, hd1, hd2, hd3, hcell2⟩
  · simp at hlt
  injection he with e1 e2 e3
  injection he2 with f1 f2 f3
  exact ⟨b0, off, b2, off2, e1, f1, fun kk h j u hu => ⟨hcell kk h j u hu, hcell2 kk h j u hu⟩⟩
theorem two_e {w : World} {l l2 : List Ee} {sa sb : Option Addr} {n sc sd : Nat} (hn : l.length = n) (hm : l.map (·.2) = l2.map (·.2)) (hv : SlK eeC 6 w (.slice sa n sc) l) (hv2 : SlK eeC 6 w (.slice sb n sd) l2) (hr : ∀ x ∈ l, Rd w x.1 x.2) (hr2 : ∀ x ∈ l2, Rd w x.1 x.2) :
    0 < n → ∃ b0 off b2 off2 : Nat, sa = some ⟨b0, off, none⟩ ∧ sb = some ⟨b2, off2, none⟩ ∧ ∀ kk (h : kk < n), ∃ x y : Ee, x ∈ l ∧ x.2 = y.2 ∧ Rd w x.1 x.2 ∧ Rd w y.1 y.2 ∧ (∀ j u, (eeC x)[j]? = some u → w.cell? ⟨b0, off + kk * 6 + j, none⟩ = some u) ∧ (∀ j u, (eeC y)[j]? = some u → w.cell? ⟨b2, off2 + kk * 6 + j, none⟩ = some u) := by
  intro hlt
  have hl2 : l2.length = n := by have := congrArg List.length hm; simp at this; omega
  rcases hv with ⟨rfl, _⟩ | ⟨_, b0, off, cap, he, hc1, hc2, hc3, hcell⟩
  · simp at hn; omega
  rcases hv2 with ⟨rfl, _⟩ | ⟨_, b2, off2, cap2, he2, hd1, hd2, hd3, hcell2⟩
  · simp at hl2; omega
  injection he with e1 e2 e3
  injection he2 with f1 f2 f3
  refine ⟨b0, off, b2, off2, e1, f1, fun kk h => ⟨l[kk], l2[kk], List.getElem_mem _, ?_, hr _ (List.getElem_mem _), hr2 _ (List.getElem_mem _), fun j u hu => hcell kk (by omega) j u hu, fun j u hu => hcell2 kk (by omega) j u hu⟩⟩
  have := congrArg (fun z => z[kk]?) hm
  simp only [List.getElem?_map, List.getElem?_eq_getElem (show kk < l.length by omega), List.getElem?_eq_getElem (show kk < l2.length by omega), Option.map_some, Option.some.injEq] at this
  exact this
theorem e12_mk {W w' : World} {b o c p : Nat} {x0 x1 x2 x3 x4 x5 y0 y1 y2 y3 y4 y5 : Value} (hx : ∀ j u, [x0, x1, x2, x3, x4, x5][j]? = some u → W.cell? ⟨b, o + j, none⟩ = some u) (hy : ∀ j u, [y0, y1, y2, y3, y4, y5][j]? = some u → W.cell? ⟨c, p + j, none⟩ = some u) (hb : Below W.heap.size W w') :
    w'.cell? ⟨b, o, none⟩ = some x0 ∧ w'.cell? ⟨b, o + 1, none⟩ = some x1 ∧ w'.cell? ⟨b, o + 2, none⟩ = some x2 ∧ w'.cell? ⟨b, o + 3, none⟩ = some x3 ∧ w'.cell? ⟨b, o + 4, none⟩ = some x4 ∧ w'.cell? ⟨b, o + 5, none⟩ = some x5 ∧ w'.cell? ⟨c, p, none⟩ = some y0 ∧ w'.cell? ⟨c, p + 1, none⟩ = some y1 ∧ w'.cell? ⟨c, p + 2, none⟩ = some y2 ∧ w'.cell? ⟨c, p + 3, none⟩ = some y3 ∧ w'.cell? ⟨c, p + 4, none⟩ = some y4 ∧ w'.cell? ⟨c, p + 5, none⟩ = some y5 :=
  have k := fun (b o : Nat) (u : Value) (h : W.cell? ⟨b, o, none⟩ = some u) => (hb.cell (p := ⟨b, o, none⟩) (cell_lt h)).trans h
  ⟨k _ _ _ (hx 0 _ rfl), k _ _ _ (hx 1 _ rfl), k _ _ _ (hx 2 _ rfl), k _ _ _ (hx 3 _ rfl), k _ _ _ (hx 4 _ rfl), k _ _ _ (hx 5 _ rfl), k _ _ _ (hy 0 _ rfl), k _ _ _ (hy 1 _ rfl), k _ _ _ (hy 2 _ rfl), k _ _ _ (hy 3 _ rfl), k _ _ _ (hy 4 _ rfl), k _ _ _ (hy 5 _ rfl)⟩
end Go.Proofs.YtkobhknggamejaaDoor

/- Cache: the laws' check of sizes: attrs, few. -/
namespace Go.Proofs.YtkobhknggamejaaDoor
set_option linter.unusedVariables false
set_option linter.unusedSimpArgs false
open Go.RowKit

abbrev okH (h : Hd) : Bool := decide (h.1.size + h.2.size ≤ 200)
def attrB (l : List Hd) : Bool := l.all okH && decide (l.length ≤ 10)
/-- sizes that no machine passes -/
def WtH (l : List Hd) : Prop := ∀ h ∈ l, h.1.size ≤ 140737488355328 ∧ h.2.size ≤ 140737488355328
theorem attrB_sz {l : List Hd} (h : attrB l = true) : HdSz l ∧ l.length ≤ 10 ∧ ∀ x ∈ l, x.1.size + x.2.size ≤ 200 := by
  unfold attrB at h
  rw [Bool.and_eq_true, List.all_eq_true, decide_eq_true_eq] at h
  have h1 : ∀ x ∈ l, x.1.size + x.2.size ≤ 200 := fun x hx => of_decide_eq_true (h.1 x hx)
  exact ⟨⟨by omega, fun x hx => by have := h1 x hx; omega⟩, h.2, h1⟩
set_option maxRecDepth 20000 in
theorem attrs_is (l : List Hd) (v : Value) (w : World) (hv : SlK hdC 2 w v l) (hz : WtH l) (R : Bool) (hR : attrB l = R) :
    Calls Tryd.prog 5 #[v] w fun e w' => e = .returned (.bool R) ∧ Below w.heap.size w w' := by
  have HR := Lib.hid hR
  have HZ := Lib.hid hz
  have hle : l.length ≤ 9223372036854775807 := by
    rcases hv with ⟨rfl, _⟩ | ⟨_, b0, off, cap, he, hc1, hc2, hc3, hcell⟩
    · exact Nat.zero_le _
    · unfold maxLen at hc2; omega
  have HC : Hid (0 < l.length → ∃ b0 off cap : Nat, v = .slice (some ⟨b0, off, none⟩) l.length cap ∧ b0 < w.heap.size ∧ ∀ kk (h : kk < l.length) j u, (hdC l[kk])[j]? = some u → w.cell? ⟨b0, off + kk * 2 + j, none⟩ = some u) := Lib.hid (by
    intro h0
    rcases hv with ⟨rfl, _⟩ | ⟨_, b0, off, cap, he, hc1, hc2, hc3, hcell⟩
    · simp at h0
    · exact ⟨b0, off, cap, he, hc3, hcell⟩)
  obtain ⟨sa, sc, rfl, _⟩ := hv.shape
  clear hv hR hz
  go_enter Tryd.func5, Tryd.ntmps5
  go_wp2_with fail
  go_loopw [7] (fun iv wr => ∃ k : Nat, k ≤ l.length ∧ iv = .int .i64 k ∧ Hid ((l.take k).all okH = true) ∧ Below w.heap.size w wr) (fun iv _ => l.length - (intOf iv).toNat)
  case atStart => exact ⟨0, Nat.zero_le _, rfl, Lib.hid rfl, Below.refl _ _⟩
  case round =>
    obtain ⟨kk, hk, rfl, HA, hbw⟩ := hrel
    by_cases hlt : kk < l.length
    · obtain ⟨b0, off, cap, he, hb0, hcell⟩ := HC.out (by omega)
      injection he with e1 e2 e3
      subst e1 e3
      have cc : ∀ j u, (hdC l[kk])[j]? = some u → wr.cell? ⟨b0, off + kk * 2 + j, none⟩ = some u := fun j u hu => (brl hbw _ _ hb0).trans (hcell kk hlt j u hu)
      have hzz := HZ.out _ (List.getElem_mem hlt)
      have hst : (l.take (kk + 1)).all okH = okH l[kk] := by
        rw [List.take_succ_eq_append_getElem hlt, List.all_append, HA.out]; simp
      have hmem : l[kk] ∈ l := List.getElem_mem hlt
      obtain ⟨y, hy⟩ : ∃ y, l[kk] = y := ⟨_, rfl⟩
      rw [hy] at cc hzz hst hmem
      clear hy hcell e2
      obtain ⟨yn, yv⟩ := y
      have hz1 : yn.size ≤ 140737488355328 := hzz.1
      have hz2 : yv.size ≤ 140737488355328 := hzz.2
      have c0 := cc 0 _ rfl
      have c1 := cc 1 _ rfl
      simp only [Nat.add_zero] at c0
      have HST := Lib.hid hst
      have HMEM := Lib.hid hmem
      clear cc hzz hst hmem
      have hki : (kk : Int) < (l.length : Int) := by omega
      have hal : Below w.heap.size w (wr.alloc (.cells #[.string yn, .string yv] 31)) := hbw.alloc hbw.size _
      by_cases hbig : yn.size + yv.size ≤ 200
      · have g1 : ¬ (200 : Int) < (yn.size : Int) + (yv.size : Int) := by omega
        go_wp2_with fail
        go_roundw
        case rel => exact ⟨kk + 1, by omega, by go_num, Lib.hid (by rw [HST.out]; exact decide_eq_true hbig), hal⟩
        case measure => simp [intOf]; omega
      · have g1 : (200 : Int) < (yn.size : Int) + (yv.size : Int) := by omega
        go_wp2_with fail
        go_ret
        refine ⟨ret_bool ?_, hal⟩
        rw [← HR.out]
        unfold attrB
        have : l.all okH = false := by
          rw [Bool.eq_false_iff]
          intro h
          exact hbig (of_decide_eq_true (List.all_eq_true.1 h _ HMEM.out))
        rw [this]; rfl
    · obtain rfl : kk = l.length := by omega
      have hall : l.all okH = true := by have := HA.out; rwa [List.take_length] at this
      have HALL := Lib.hid hall
      clear hall
      go_wp2_with fail
      go_ret
      refine ⟨ret_bool ?_, hbw⟩
      rw [← HR.out]
      unfold attrB
      rw [HALL.out, Bool.true_and, Bool.eq_iff_iff, decide_eq_true_eq, decide_eq_true_eq]
      omega
def okE (e : En) : Bool := attrB e.va && (attrB e.hd && decide (e.bo.size ≤ 500))
def fewA (es : List En) (rq : List Hd) : Bool := es.all okE && (decide (es.length ≤ 12) && attrB rq)
def WtE (e : En) : Prop := WtH e.va ∧ WtH e.hd ∧ e.bo.size ≤ 140737488355328
theorem okE_sz {e : En} (h : okE e = true) : HdSz e.va ∧ HdSz e.hd ∧ e.bo.size ≤ 500 := by
  unfold okE at h
  rw [Bool.and_eq_true, Bool.and_eq_true, decide_eq_true_eq] at h
  exact ⟨(attrB_sz h.1).1, (attrB_sz h.2.1).1, h.2.2⟩
theorem fewA_sz {es : List En} {rq : List Hd} (h : fewA es rq = true) : (∀ e ∈ es, okE e = true) ∧ es.length ≤ 12 ∧ attrB rq = true := by
  unfold fewA at h
  rw [Bool.and_eq_true, Bool.and_eq_true, decide_eq_true_eq, List.all_eq_true] at h
  exact ⟨h.1, h.2⟩
end Go.Proofs.YtkobhknggamejaaDoor

/- Cache: the laws' copy of a cache. -/
namespace Go.Proofs.YtkobhknggamejaaDoor
set_option linter.unusedVariables false
set_option linter.unusedSimpArgs false
open Go.RowKit

/-- a copy of a cache: it reads the same, and all its memory is new -/
def CloneQ (w : World) (es : List En) (x : Ending) (w' : World) : Prop := ∃ (jb : Nat) (a : Option Addr) (c : Nat) (lo : List Ee), x = .returned (.pointer (some ⟨jb, 0, none⟩)) ∧ w.heap.size ≤ jb ∧ CaIn w' jb w.heap.size (.slice a lo.length c) lo ∧ lo.map (·.2) = es ∧ Below w.heap.size w w'
def CpAt (w4 : World) (N : Nat) (r : Er) (e : En) (w5 : World) : Prop := ∃ (a b : Option Addr) (c d : Nat), AtL w5 N [.string r.u, .slice a e.va.length c, .int .i64 r.st, .slice b e.hd.length d, .string r.bo, .int .i64 r.ti] ∧ SlK hdC 2 w5 (.slice a e.va.length c) e.va ∧ SlK hdC 2 w5 (.slice b e.hd.length d) e.hd ∧ NewE (⟨r.u, .slice a e.va.length c, r.st, .slice b e.hd.length d, r.bo, r.ti⟩, e) w4.heap.size ∧ BelowBut w4.heap.size N w4 w5
theorem cpat_mk {w4 w6 w7 : World} {N : Nat} {u bo : ByteArray} {st ti : Int} {e : En} {vv hh : Value} {a b : Option Addr} {c d : Nat} (hN : N < w4.heap.size) (X : AtL w7 N [.string u, vv, .int .i64 st, hh, .string bo, .int .i64 ti]) (h6 : SlK hdC 2 w6 (.slice a e.va.length c) e.va) (n6 : ∀ b' off n k, Value.slice a e.va.length c = .slice (some ⟨b', off, none⟩) n k → w4.heap.size ≤ b') (b6 : Below w4.heap.size w4 w6) (h7 : SlK hdC 2 w7 (.slice b e.hd.length d) e.hd) (n7 : ∀ b' off n k, Value.slice b e.hd.length d = .slice (some ⟨b', off, none⟩) n k → w6.heap.size ≤ b') (b7 : Below w6.heap.size w6 w7) :
    CpAt w4 N ⟨u, vv, st, hh, bo, ti⟩ e ((w7.setCell ⟨N, 1, none⟩ (.slice a e.va.length c)).setCell ⟨N, 3, none⟩ (.slice b e.hd.length d)) := by
  have f6 : ∀ b' off n k, Value.slice a e.va.length c = .slice (some ⟨b', off, none⟩) n k → b' ≠ N := fun b' off n k h => by have := n6 b' off n k h; omega
  have f7 : ∀ b' off n k, Value.slice b e.hd.length d = .slice (some ⟨b', off, none⟩) n k → b' ≠ N := fun b' off n k h => by have := n7 b' off n k h; have := b6.size; omega
  refine ⟨a, b, c, d, (X.set 1 _).set 3 _, slk_cell (slk_cell (h6.below b7 (Nat.le_refl _)) ⟨N, 1, none⟩ _ f6) ⟨N, 3, none⟩ _ f6, slk_cell (slk_cell h7 ⟨N, 1, none⟩ _ f7) ⟨N, 3, none⟩ _ f7, ⟨fun b' off n k h => n6 b' off n k h, fun b' off n k h => Nat.le_trans b6.size (n7 b' off n k h)⟩, ?_⟩
  exact (((BelowBut.refl w4.heap.size N w4).below b6 (Nat.le_refl _)).below b7 b6.size).setCell ⟨N, 1, none⟩ (Or.inl rfl) _ |>.setCell ⟨N, 3, none⟩ (Or.inl rfl) _
end Go.Proofs.YtkobhknggamejaaDoor

/- Cache: the reference's Last, Back. -/
namespace Go.Proofs.YtkobhknggamejaaDoor
set_option linter.unusedVariables false
set_option linter.unusedSimpArgs false
open Go.RowKit

theorem ee_cells {w : World} {l : List Ee} {sa : Option Addr} {n c : Nat} (hv : SlK eeC 6 w (.slice sa n c) l) (hn : l.length = n) :
    0 < n → ∃ b0 off : Nat, sa = some ⟨b0, off, none⟩ ∧ b0 < w.heap.size ∧ ∀ kk (h : kk < l.length) j u, (eeC l[kk])[j]? = some u → w.cell? ⟨b0, off + kk * 6 + j, none⟩ = some u := by
  intro h0
  rcases hv with ⟨rfl, _⟩ | ⟨_, b0, off, cap, he, hc1, hc2, hc3, hcell⟩
  · simp at hn; omega
  · injection he with e1 _ _
    exact ⟨b0, off, e1, hc3, hcell⟩
theorem e6_mk {W : World} {b o : Nat} {x0 x1 x2 x3 x4 x5 : Value} (hx : ∀ j u, [x0, x1, x2, x3, x4, x5][j]? = some u → W.cell? ⟨b, o + j, none⟩ = some u) :
    W.cell? ⟨b, o, none⟩ = some x0 ∧ W.cell? ⟨b, o + 1, none⟩ = some x1 ∧ W.cell? ⟨b, o + 2, none⟩ = some x2 ∧ W.cell? ⟨b, o + 3, none⟩ = some x3 ∧ W.cell? ⟨b, o + 4, none⟩ = some x4 ∧ W.cell? ⟨b, o + 5, none⟩ = some x5 :=
  ⟨hx 0 _ rfl, hx 1 _ rfl, hx 2 _ rfl, hx 3 _ rfl, hx 4 _ rfl, hx 5 _ rfl⟩
/-- sizes at which the code's functions on entries are walked -/
def SzE (e : En) : Prop := HdSz e.va ∧ HdSz e.hd
theorem back_step {α : Type} (l : List α) (i k : Nat) (hk : k < l.length) : (l.take (k + 1)).eraseIdx i = if k = i then (l.take k).eraseIdx i else (l.take k).eraseIdx i ++ [l[k]] := by
  have hl : (l.take k).length = k := by rw [List.length_take]; omega
  rw [List.take_succ_eq_append_getElem hk]
  by_cases h : k = i
  · subst h
    rw [if_pos rfl, List.eraseIdx_append_of_length_le (by omega), hl, Nat.sub_self, List.eraseIdx_of_length_le (l := l.take k) (by omega)]
    simp
  · rw [if_neg h]
    by_cases h2 : i < k
    · rw [List.eraseIdx_append_of_lt_length (by omega)]
    · rw [List.eraseIdx_append_of_length_le (by omega), hl, List.eraseIdx_of_length_le (l := l.take k) (by omega), List.eraseIdx_of_length_le (by simp; omega)]
/-- a new row with these entries -/
def RowQ (w : World) (l : List Ee) (x : Ending) (w' : World) : Prop := ∃ (a : Option Addr) (c : Nat), x = .returned (.slice a l.length c) ∧ w'.ownsRow w.heap.size 36 6 (.slice a l.length c) l.length (cellsK eeC l) ∧ Below w.heap.size w w'
end Go.Proofs.YtkobhknggamejaaDoor

/- Cache: the laws' check: fit. -/
namespace Go.Proofs.YtkobhknggamejaaDoor
set_option linter.unusedVariables false
set_option linter.unusedSimpArgs false
open Go.RowKit

abbrev fitA : ByteArray := ⟨#[99, 97, 99, 104, 101, 45, 99, 111, 110, 116, 114, 111, 108]⟩
abbrev fitB : ByteArray := ⟨#[109, 97, 120, 45, 97, 103, 101, 61, 49, 48]⟩
abbrev fitH : List Hd := [(fitA, fitB)]
abbrev fitE : En := ⟨⟨#[117]⟩, [], 200, fitH, ⟨#[98]⟩, 5000⟩
theorem fit_stor : storL 200 [] fitH = true := by decide +kernel
theorem fit_vary : varyE [] fitH = [] := by decide +kernel
theorem fit_dir : dirL [] = ⟨false, false, false, -1⟩ := rfl
theorem fit_use1 : useB ⟨false, false, false, -1⟩ fitE 14999 = true := by decide +kernel
theorem fit_use2 : useB ⟨false, false, false, -1⟩ fitE 15000 = false := by decide +kernel
theorem fit_chk : chkL fitH = [] := by decide +kernel
theorem fit_ans : ansB fitE ⟨#[117]⟩ [] = true := by decide +kernel
theorem fit_last (r : Er) : LastAt (fun x => ansB x.2 ⟨#[117]⟩ []) [((r, fitE) : Ee)] (0 : Nat) := .inr ⟨0, by simp, rfl, fit_ans, fun j h h0 => absurd h0 (by simp at h; omega)⟩
theorem fit_szH : HdSz fitH := ⟨by decide, fun h hh => by obtain rfl := List.mem_singleton.1 hh; exact ⟨by decide, by decide⟩⟩
theorem HdSz0 : HdSz [] := ⟨by decide, fun h hh => by cases hh⟩
/-- what a change of a cache leaves of what lay below its memory -/
theorem CaTo.lowB {w w' : World} {jb B : Nat} {v : Value} {l l' : List Ee} (h : CaTo w jb B v l' w') (hJ : CaIn w jb B v l) (hjB : B ≤ jb) : Below B w w' := h.2.lowB hJ.own hjB hJ.le
theorem fld_plan0 (a b c d e f g h : Value) (w : World) : (Instr.field 38 (.agg #[a, b, c, d, e, f, g, h]) 0).run Tryd.prog w = .ok a w := by
  simp [Instr.field, run_underlying Tryd.underlying38, go_sem, asAgg]
attribute [local go_sem] fld_plan0
set_option maxRecDepth 20000 in
set_option maxHeartbeats 1000000 in
theorem fit_is43 (w : World) (hM : MaxAt w) : Calls Tryd.prog 4 #[] w fun e w' => e = .returned (.bool true) ∧ Below w.heap.size w w' := by
  have hG := hM.lt
  have hB1 : Below w.heap.size w ((w.alloc (.cells [.slice none 0 0].toArray 29)).alloc (.cells [.string fitA, .string fitB].toArray 31)) := ((Below.refl _ w).alloc (Nat.le_refl _) _).alloc (by simp) _
  have J1 := (AtL.new w [.slice none 0 0] 29).alloc (.cells [.string fitA, .string fitB].toArray 31)
  have H1 := AtL.new (w.alloc (.cells [.slice none 0 0].toArray 29)) [.string fitA, .string fitB] 31
  rw [show (w.alloc (.cells [.slice none 0 0].toArray 29)).heap.size = w.heap.size + 1 by simp] at H1
  have hJ1 : CaIn _ w.heap.size w.heap.size (.slice none 0 0) [] := ⟨J1, World.ownsRow_nil _ _ _ _, by simp [Value.ownBlock], hB1.size, (fun x hx => by cases hx), (fun x hx => by cases hx)⟩
  have sh1 : SlK hdC 2 ((w.alloc (.cells [.slice none 0 0].toArray 29)).alloc (.cells [.string fitA, .string fitB].toArray 31)) (.slice (some ⟨w.heap.size + 1, 0, none⟩) 1 1) fitH :=
    .inr ⟨by simp, _, _, _, rfl, by decide, by decide, H1.lt, fun i hi j u hu => by
      obtain rfl : i = 0 := by simp at hi; omega
      simp only [List.getElem_cons_zero] at hu
      simpa using H1.c j hu⟩
  have CP := Lib.hid (put_yes w.heap.size w.heap.size (.slice none 0 0) [] _ (hM.below hB1 (Nat.le_refl _)) hG (Nat.le_refl _) hJ1 (fun x hx => by cases hx) (by simp) ⟨#[117]⟩ [] fitH (.slice none 0 0) _ (slk0 _) sh1 HdSz0 fit_szH (fun h => absurd rfl h) (fun _ b off n c e => by
    injection e with e1 _ _
    injection e1 with e1
    injection e1 with e1
    exact ⟨by omega, by simp [Value.ownBlock]⟩) 200 ⟨#[98]⟩ 5000 fit_stor)
  rw [fit_vary] at CP
  have CA := Lib.hid (fun (w3 : World) (v : Value) (r : Er) (hM : MaxAt w3) (hJ : CaIn w3 w.heap.size w.heap.size v [((r, fitE) : Ee)]) => ask_use w.heap.size w.heap.size v [(r, fitE)] w3 hM hJ (fun x hx => by obtain rfl := List.mem_singleton.1 hx; exact ⟨HdSz0, fit_szH⟩) (by simp) ⟨#[117]⟩ [] (.slice none 0 0) (slk0 _) HdSz0 14999 0 (by simp) (r, fitE) rfl (fit_last r) false false (-1) fit_dir fit_use1)
  have CB := Lib.hid (fun (w3 : World) (v : Value) (r : Er) (hM : MaxAt w3) (hJ : CaIn w3 w.heap.size w.heap.size v [((r, fitE) : Ee)]) => ask_chk0 w.heap.size w.heap.size v [(r, fitE)] w3 hM hJ (fun x hx => by obtain rfl := List.mem_singleton.1 hx; exact ⟨HdSz0, fit_szH⟩) (by simp) ⟨#[117]⟩ [] (.slice none 0 0) (slk0 _) HdSz0 15000 0 (by simp) (r, fitE) rfl (fit_last r) false false (-1) fit_dir fit_use2 fit_chk)
  have HJ := Lib.hid hJ1
  have HB := Lib.hid hB1
  have HM1 := Lib.hid (hM.below hB1 (Nat.le_refl _))
  clear hJ1 sh1 J1 H1 hM hB1
  go_enter Tryd.func4, Tryd.ntmps4
  go_wp2_with (first
    | (go_at_call 6; (with_reducible refine CP.out.mono ?_); rintro e w3 ⟨rfl, r, hto3⟩; have hb3 := hto3.lowB HJ.out (Nat.le_refl _); have M3 := HM1.out.low hb3 hG; obtain ⟨a3, c3, J3, -, -⟩ := hto3.out; have HJ3 := Lib.hid J3; have HB3 := Lib.hid (HB.out.trans hb3); have HM3 := Lib.hid M3; clear J3 M3 hto3 hb3)
    | (go_at_call 8; (with_reducible refine (CA.out _ _ _ HM3.out HJ3.out).mono ?_); rintro e w4 ⟨r4, u4, rfl, _, _, hto4⟩; have hb4 := hto4.lowB HJ3.out (Nat.le_refl _); have M4 := HM3.out.low hb4 hG; obtain ⟨a4, c4, J4, -, -⟩ := hto4.out; have HJ4 := Lib.hid J4; have HB4 := Lib.hid (HB3.out.trans hb4); have HM4 := Lib.hid M4; clear J4 M4 hto4 hb4)
    | (go_at_call 8; (with_reducible refine (CB.out _ _ _ HM4.out HJ4.out).mono ?_); rintro e w5 ⟨r5, u5, rfl, _, _, hto5⟩; have hb5 := hto5.lowB HJ4.out (Nat.le_refl _); have HB5 := Lib.hid (HB4.out.trans hb5); clear hto5 hb5))
  go_ret
  exact ⟨rfl, HB5.out⟩
end Go.Proofs.YtkobhknggamejaaDoor

/- Cache: Drop, Size. -/
namespace Go.Proofs.YtkobhknggamejaaDoor
set_option linter.unusedVariables false
set_option linter.unusedSimpArgs false
open Go.RowKit

abbrev dropL (l : List Ee) (url : ByteArray) : List Ee := l.filter (fun x => !urlB x.2.u url)
def sumB (es : List En) : Nat := (es.map (·.bo.size)).sum
theorem sumB_snoc (l : List En) (k : Nat) (h : k < l.length) : sumB (l.take (k + 1)) = sumB (l.take k) + l[k].bo.size := by
  unfold sumB
  rw [List.take_succ_eq_append_getElem h, List.map_append, List.sum_append]
  simp only [List.map_cons, List.map_nil, List.sum_cons, List.sum_nil, Nat.add_zero]
theorem sumB_le (l : List En) (m : Nat) (h : ∀ e ∈ l, e.bo.size ≤ m) : ∀ k, sumB (l.take k) ≤ k * m := by
  intro k
  induction k with
  | zero => simp [sumB]
  | succ k ih =>
    by_cases hk : k < l.length
    · rw [sumB_snoc l k hk, Nat.succ_mul]
      have := h _ (List.getElem_mem hk)
      omega
    · rw [List.take_of_length_le (by omega)] at ih ⊢
      rw [Nat.succ_mul]; omega
end Go.Proofs.YtkobhknggamejaaDoor

/- CacheDrop: the law. -/
namespace Go.Proofs.YtkobhknggamejaaDoor
set_option linter.unusedVariables false
set_option linter.unusedSimpArgs false
open Go.RowKit

def goneB (es : List En) (url : ByteArray) : Nat := sumB (es.filter (fun e => urlB e.u url))
theorem goneB_snoc (l : List En) (url : ByteArray) (k : Nat) (h : k < l.length) : goneB (l.take (k + 1)) url = goneB (l.take k) url + if urlB l[k].u url then l[k].bo.size else 0 := by
  unfold goneB sumB
  rw [List.take_succ_eq_append_getElem h, List.filter_append, List.map_append, List.sum_append]
  congr 1
  cases hu : urlB l[k].u url <;> simp [hu]
theorem gone_keep (es : List En) (url : ByteArray) : sumB (es.filter (fun e => !urlB e.u url)) + goneB es url = sumB es := by
  unfold goneB sumB
  induction es with
  | nil => rfl
  | cons e es ih =>
    cases hu : urlB e.u url <;> simp [hu] <;> omega
theorem keep_snoc (l : List Ee) (p : Ee → Bool) (k : Nat) (h : k < l.length) (x : Ee) (hx : l[k] = x) : (l.take (k + 1)).filter p = (l.take k).filter p ++ if p x then [x] else [] := by
  subst hx
  rw [List.take_succ_eq_append_getElem h, List.filter_append]
  congr 1
  cases hp : p l[k] <;> simp [hp]
/-- the start of a law over a cache: few and the copy -/
theorem map_filter_en (l : List Ee) (es : List En) (h : l.map (·.2) = es) (p : En → Bool) : (l.filter (fun x => p x.2)).map (·.2) = es.filter p := by
  subst h
  rw [List.filter_map]
  rfl
theorem own_rowbut {b e s n m jb : Nat} {o : Option Nat} {w w' : World} {v : Value} {xs : List Value} (h : w.ownsRow b e s v n xs) (hr : RowBut m jb o w w') (hm : w.heap.size ≤ m) (hj : jb < b) (ho : ∀ g, o = some g → g < b) : w'.ownsRow b e s v n xs := by
  refine ⟨h.1, ?_⟩
  rcases h.2 with h2 | ⟨g, cap, cur, hv, hg, hh, r⟩
  · exact .inl h2
  · exact .inr ⟨g, cap, cur, hv, hg, by rw [hr.block g (by have := (Array.getElem?_eq_some_iff.1 hh).1; omega) (by omega) (fun e => by have := ho g e; omega)]; exact hh, r⟩
abbrev rq0 : List Value := [.string ⟨#[]⟩, .slice none 0 0, .int .i64 0]
end Go.Proofs.YtkobhknggamejaaDoor

/- Cache: the reference's Put. -/
namespace Go.Proofs.YtkobhknggamejaaDoor
set_option linter.unusedVariables false
set_option linter.unusedSimpArgs false
open Go.RowKit

abbrev keepE (es : List En) (url : ByteArray) (rq : List Hd) : List En := es.filter (fun x => !ansB x url rq)
/-- what Put answers, and the list then -/
def RPutQ (w : World) (es : List En) (b : Bool) (x : Ending) (w' : World) : Prop := ∃ (a : Option Addr) (c : Nat) (lo : List Ee), x = .returned (.tuple #[.slice a lo.length c, .bool b]) ∧ SlK eeC 6 w' (.slice a lo.length c) lo ∧ (∀ y ∈ lo, Rd w' y.1 y.2) ∧ lo.map (·.2) = es ∧ Below w.heap.size w w'
theorem lowB_idem (b : UInt8) : lowB (lowB b) = lowB b := by
  unfold lowB
  by_cases h : 65 ≤ b.toNat ∧ b.toNat ≤ 90
  · rw [if_pos h, if_neg]
    have : (b + 32).toNat = b.toNat + 32 := by rw [UInt8.toNat_add]; simp; omega
    omega
  · rw [if_neg h, if_neg h]
theorem lowL_idem (l : List UInt8) : lowL (lowL l) = lowL l := by
  unfold lowL
  rw [List.map_map]
  exact List.map_congr_left fun b _ => lowB_idem b
def Lows (va : List Hd) : Prop := ∀ d ∈ va, lowL d.1.data.toList = d.1.data.toList
/-- among small names, 'has' is 'is among them' -/
theorem has_any (va : List Hd) (h : Lows va) (T : ByteArray) (hT : lowL T.data.toList = T.data.toList) : (hdrL va T.data.toList).isSome = va.any (fun d => d.1.toList == T.toList) := by
  unfold hdrL
  rw [Option.isSome_map]
  rw [Bool.eq_iff_iff, List.find?_isSome, List.any_eq_true]
  have hh : ∀ d ∈ va, hitH T.data.toList d = (d.1.toList == T.toList) := fun d hd => by
    unfold hitH
    rw [h d hd, hT, ByteArray.toList_eq, ByteArray.toList_eq]
  constructor
  · rintro ⟨d, hd, hp⟩; exact ⟨d, hd, by rw [← hh d hd]; exact hp⟩
  · rintro ⟨d, hd, hp⟩; exact ⟨d, hd, by rw [hh d hd]; exact hp⟩
theorem RowBut.of_but {n g : Nat} {w w' : World} (h : BelowBut n g w w') : RowBut n g none w w' := ⟨h.os, h.tape, h.output, h.size, fun k hk h1 _ => h.block k hk h1⟩
theorem e7_mk {W w' : World} {b o c : Nat} {x0 x1 x2 x3 x4 x5 y0 : Value} (hx : ∀ j u, [x0, x1, x2, x3, x4, x5][j]? = some u → W.cell? ⟨b, o + j, none⟩ = some u) (hy : W.cell? ⟨c, 0, none⟩ = some y0) (hb : Below W.heap.size W w') :
    w'.cell? ⟨b, o, none⟩ = some x0 ∧ w'.cell? ⟨b, o + 1, none⟩ = some x1 ∧ w'.cell? ⟨b, o + 2, none⟩ = some x2 ∧ w'.cell? ⟨b, o + 3, none⟩ = some x3 ∧ w'.cell? ⟨b, o + 4, none⟩ = some x4 ∧ w'.cell? ⟨b, o + 5, none⟩ = some x5 ∧ w'.cell? ⟨c, 0, none⟩ = some y0 :=
  have k := fun (b o : Nat) (u : Value) (h : W.cell? ⟨b, o, none⟩ = some u) => (hb.cell (p := ⟨b, o, none⟩) (cell_lt h)).trans h
  ⟨k _ _ _ (hx 0 _ rfl), k _ _ _ (hx 1 _ rfl), k _ _ _ (hx 2 _ rfl), k _ _ _ (hx 3 _ rfl), k _ _ _ (hx 4 _ rfl), k _ _ _ (hx 5 _ rfl), k _ _ _ hy⟩
end Go.Proofs.YtkobhknggamejaaDoor

/- CachePut: the law. -/
namespace Go.Proofs.YtkobhknggamejaaDoor
set_option linter.unusedVariables false
set_option linter.unusedSimpArgs false
open Go.RowKit

theorem far_old {w : World} {hs : List Hd} {u : Value} {jb : Nat} {o : Option Nat} (h : SlK hdC 2 w u hs) (h1 : w.heap.size ≤ jb) (h2 : ∀ g, o = some g → w.heap.size ≤ g) : FarV hs u jb o := by
  intro h0 b off n c e
  rcases h with ⟨h3, _⟩ | ⟨_, b2, off2, cap, hv, _, _, h4, _⟩
  · exact absurd h3 h0
  · rw [hv] at e
    injection e with e1 _ _
    injection e1 with e1
    injection e1 with e1
    subst e1
    exact ⟨by omega, fun e2 => by have := h2 _ e2; omega⟩
theorem far_new {hs : List Hd} {u : Value} {jb N : Nat} {o : Option Nat} (hn : ∀ b off n k, u = .slice (some ⟨b, off, none⟩) n k → N ≤ b) (h1 : jb < N) (h2 : ∀ g, o = some g → g < N) : FarV hs u jb o :=
  fun _ b off n c e => ⟨by have := hn b off n c e; omega, fun e2 => by have := hn b off n c e; have := h2 _ e2; omega⟩
abbrev putEs (es : List En) (url : ByteArray) (rq : List Hd) (st : Int) (hs : List Hd) (body : ByteArray) (now : Int) (S : Bool) : List En := keepE es url rq ++ (if S then [⟨url, varyE rq hs, st, hs, body, now⟩] else [])
def PutQ (w : World) (jb B : Nat) (v : Value) (S : Bool) (es : List En) (e : Ending) (w' : World) : Prop := e = .returned (.bool S) ∧ ∃ l' : List Ee, CaTo w jb B v l' w' ∧ l'.map (·.2) = es
theorem put_any (jb B : Nat) (v : Value) (l : List Ee) (w : World) (hM : MaxAt w) (hG : 0 < B) (hjB : B ≤ jb) (hJ : CaIn w jb B v l) (hz : ∀ x ∈ l, HdSz x.2.va) (hl : l.length ≤ 1000) (url : ByteArray) (rq hs : List Hd) (vr vh : Value) (hq : SlK hdC 2 w vr rq) (hh : SlK hdC 2 w vh hs) (hzq : HdSz rq) (hzh : HdSz hs) (hfq : FarV rq vr jb v.ownBlock) (hfh : FarV hs vh jb v.ownBlock) (st : Int) (body : ByteArray) (now : Int) (S : Bool) (hS : storL st rq hs = S) (es : List En) (hes : putEs (l.map (·.2)) url rq st hs body now S = es) :
    Calls Tryd.prog 6 #[.pointer (some ⟨jb, 0, none⟩), .string url, vr, .int .i64 st, vh, .string body, .int .i64 now] w (PutQ w jb B v S es) := by
  have hk : (keepL l url rq).map (·.2) = keepE (l.map (·.2)) url rq := map_filter_en l _ rfl (fun e => !ansB e url rq)
  cases S with
  | false =>
    refine (put_no jb B v l w hM hG hjB hJ hz hl url rq hs vr vh hq hh hzq hzh hfq hfh st body now hS).mono ?_
    rintro e w' ⟨h1, h2⟩
    exact ⟨h1, _, h2, by rw [hk, ← hes]; simp⟩
  | true =>
    refine (put_yes jb B v l w hM hG hjB hJ hz hl url rq hs vr vh hq hh hzq hzh hfq hfh st body now hS).mono ?_
    rintro e w' ⟨h1, r, h2⟩
    exact ⟨h1, _, h2, by rw [List.map_append, hk, ← hes]; simp⟩
theorem s6_mk {W w' : World} {Q E : Nat} {a b c d e f g h i : Value} (h1 : AtL W Q [a, b, c]) (h2 : AtL W E [d, e, f, g, h, i]) (hb : Below W.heap.size W w') : w'.cell? ⟨Q, 0, none⟩ = some a ∧ w'.cell? ⟨Q, 1, none⟩ = some b ∧ w'.cell? ⟨Q, 2, none⟩ = some c ∧ w'.cell? ⟨E, 2, none⟩ = some f ∧ w'.cell? ⟨E, 3, none⟩ = some g ∧ w'.cell? ⟨E, 4, none⟩ = some h :=
  ⟨(brl hb _ _ h1.lt).trans (h1.c 0 rfl), (brl hb _ _ h1.lt).trans (h1.c 1 rfl), (brl hb _ _ h1.lt).trans (h1.c 2 rfl), (brl hb _ _ h2.lt).trans (h2.c 2 rfl), (brl hb _ _ h2.lt).trans (h2.c 3 rfl), (brl hb _ _ h2.lt).trans (h2.c 4 rfl)⟩
theorem varyE_len (rq hs : List Hd) (hz : HdSz hs) : (varyE rq hs).length ≤ 1000000 := by
  have h1 : ∀ (L : List (List UInt8)) (va : List Hd), (L.foldl (vstep rq) va).length ≤ va.length + L.length := by
    intro L
    induction L with
    | nil => intro va; simp
    | cons x L ih =>
      intro va
      have h := ih (vstep rq va x)
      have h2 : (vstep rq va x).length ≤ va.length + 1 := by unfold vstep; split <;> simp
      simp only [List.foldl_cons, List.length_cons]
      omega
  have h2 : (varyL hs).length ≤ 100001 := by
    unfold varyL wordsL
    refine Nat.le_trans (List.length_filter_le _ _) ?_
    rw [List.length_map]
    have h3 := segs_count 44 ((hdrL hs [118, 97, 114, 121]).getD ⟨#[]⟩).data.toList
    rw [size_len] at h3
    have h4 := hdr_size hs [118, 97, 114, 121] hz
    omega
  have := h1 (varyL hs) []
  unfold varyE
  simp at this
  omega
end Go.Proofs.YtkobhknggamejaaDoor

/- CacheUse, CacheOne: what Ask and Put make of a new entry. -/
namespace Go.Proofs.YtkobhknggamejaaDoor
set_option linter.unusedVariables false
set_option linter.unusedSimpArgs false
open Go.RowKit

def UseQ (w : World) (jb B : Nat) (v : Value) (U : Bool) (en : En) (e : Ending) (w' : World) : Prop := ∃ (r : Er) (k : Int) (ua : Option Addr) (un uc : Nat), e = .returned (.agg #[.int .i64 k, .string r.u, r.vv, .int .i64 r.st, r.hv, .string r.bo, .int .i64 r.ti, .slice ua un uc]) ∧ eeShp (r, en) ∧ (U = true → k = 2 ∧ r.bo = en.bo ∧ r.st = en.st) ∧ (U = false → k = 1 ∨ k = 3) ∧ ∃ l', CaTo w jb B v l' w'
theorem ask_U (jb B : Nat) (v : Value) (l : List Ee) (w : World) (hM : MaxAt w) (hJ : CaIn w jb B v l) (hz : ∀ x ∈ l, HdSz x.2.va ∧ HdSz x.2.hd) (hl : l.length ≤ 1000) (url : ByteArray) (rq : List Hd) (vr : Value) (hq : SlK hdC 2 w vr rq) (hzq : HdSz rq) (now : Int) (i : Nat) (hi : i < l.length) (x : Ee) (hx : l[i] = x) (hR : LastAt (fun x => ansB x.2 url rq) l (i : Int)) (d2 d3 : Bool) (d4 : Int) (hD : dirL rq = ⟨false, d2, d3, d4⟩) (U : Bool) (hu : useB ⟨false, d2, d3, d4⟩ x.2 now = U) :
    Calls Tryd.prog 8 #[.pointer (some ⟨jb, 0, none⟩), .string url, vr, .int .i64 now] w (UseQ w jb B v U x.2) := by
  cases U with
  | true =>
    refine (ask_use jb B v l w hM hJ hz hl url rq vr hq hzq now i hi x hx hR d2 d3 d4 hD hu).mono ?_
    rintro e w' ⟨r, u, h1, h2, h3, h4⟩
    obtain ⟨ua, uc, rfl, _⟩ := h3.shape
    exact ⟨r, 2, ua, _, uc, h1, Rd.shp (x := (r, x.2)) h2, fun _ => ⟨rfl, h2.bo, h2.st⟩, (fun h => by cases h), _, h4⟩
  | false =>
    by_cases hc : chkL x.2.hd = []
    · refine (ask_chk0 jb B v l w hM hJ hz hl url rq vr hq hzq now i hi x hx hR d2 d3 d4 hD hu hc).mono ?_
      rintro e w' ⟨r, u, h1, h2, h3, h4⟩
      have hs := Rd.shp (x := (r, en0)) h2
      obtain ⟨ua, uc, rfl, _⟩ := h3.shape
      exact ⟨r, 1, ua, _, uc, h1, hs, (fun h => by cases h), fun _ => .inl rfl, _, h4⟩
    · refine (ask_chk1 jb B v l w hM hJ hz hl url rq vr hq hzq now i hi x hx hR d2 d3 d4 hD hu _ rfl hc).mono ?_
      rintro e w' ⟨r, u, h1, h2, h3, h4⟩
      obtain ⟨ua, uc, rfl, _⟩ := h3.shape
      exact ⟨r, 3, ua, _, uc, h1, Rd.shp (x := (r, x.2)) h2, (fun h => by cases h), fun _ => .inr rfl, _, h4⟩
theorem vstep_ok (rq : List Hd) (va : List Hd) (w : List UInt8) (h : va.any (misH rq) = false) : (vstep rq va w).any (misH rq) = false := by
  unfold vstep
  split
  · exact h
  · rw [List.any_append, h]
    simp only [List.any_cons, List.any_nil, Bool.or_false, Bool.false_or]
    unfold misH
    simp
    rfl
theorem varyE_ok (rq hs : List Hd) : (varyE rq hs).any (misH rq) = false := by
  unfold varyE
  have : ∀ (L : List (List UInt8)) (va : List Hd), va.any (misH rq) = false → (L.foldl (vstep rq) va).any (misH rq) = false := by
    intro L
    induction L with
    | nil => intro va h; exact h
    | cons x L ih => intro va h; exact ih _ (vstep_ok rq va x h)
  exact this _ [] rfl
/-- the new entry answers its request -/
theorem new_ans (url : ByteArray) (rq hs : List Hd) (st : Int) (body : ByteArray) (now : Int) : ansB ⟨url, varyE rq hs, st, hs, body, now⟩ url rq = true := by
  unfold ansB
  show (urlB url url && !(varyE rq hs).any (misH rq)) = true
  rw [varyE_ok]
  unfold urlB
  simp
theorem keep_none (es : List En) (url : ByteArray) (rq : List Hd) : ∀ e ∈ keepE es url rq, ansB e url rq = false := fun e he => by
  have := (List.mem_filter.1 he).2
  simpa using this
theorem none_last (lp : List Ee) (es : List En) (url : ByteArray) (rq : List Hd) (h : lp.map (·.2) = keepE es url rq) : LastAt (fun x => ansB x.2 url rq) lp (-1) := .inl ⟨rfl, fun j hj => keep_none es url rq _ (by rw [← h]; exact List.mem_map_of_mem (List.getElem_mem hj))⟩
theorem some_last (lp : List Ee) (es : List En) (url : ByteArray) (rq : List Hd) (n : En) (hn : ansB n url rq = true) (h : lp.map (·.2) = keepE es url rq ++ [n]) : ∃ i, ∃ hi : i < lp.length, ∃ x : Ee, lp[i] = x ∧ x.2 = n ∧ i + 1 = lp.length ∧ LastAt (fun x => ansB x.2 url rq) lp (i : Int) := by
  have hl := congrArg List.length h
  rw [List.length_map, List.length_append] at hl
  have hl : lp.length = (keepE es url rq).length + 1 := hl
  have h2 : lp[(keepE es url rq).length].2 = n := by
    have := congrArg (fun z => z[(keepE es url rq).length]?) h
    simp only [List.getElem?_map, List.getElem?_eq_getElem (show (keepE es url rq).length < lp.length by omega), Option.map_some] at this
    rw [List.getElem?_append_right (Nat.le_refl _)] at this
    simpa using this
  refine ⟨(keepE es url rq).length, by omega, _, rfl, h2, by omega, .inr ⟨_, by omega, rfl, by show ansB _ url rq = true; rw [h2]; exact hn, fun j hj hlt => by omega⟩⟩
theorem age_sum (now ti : Int) (h : 0 ≤ now ∧ now ≤ 1125899906842624) (h2 : 0 ≤ ti ∧ ti ≤ 1125899906842624) : ageE now (now + ti) = ti := by
  unfold ageE clockI
  omega
theorem stor_ns {st : Int} {rq hs : List Hd} (h : storL st rq hs = true) : (dirL rq).ns = false := by
  unfold storL at h
  rw [Bool.and_eq_true, Bool.and_eq_true] at h
  have := h.2.1
  cases hn : (dirL rq).ns
  · rfl
  · rw [hn] at this; simp at this
theorem HdSz.vary {rq hs : List Hd} (hq : HdSz rq) (hh : HdSz hs) : HdSz (varyE rq hs) := by
  refine ⟨varyE_len rq hs hh, ?_⟩
  have h0 : ∀ p ∈ varyL hs, p.length ≤ 100000 := fun p hp => by
    have h1 := words_size ((hdrL hs [118, 97, 114, 121]).getD ⟨#[]⟩).data.toList p hp
    rw [size_len] at h1
    have := hdr_size hs [118, 97, 114, 121] hh
    omega
  have : ∀ (L : List (List UInt8)) (va : List Hd), (∀ p ∈ L, p.length ≤ 100000) → (∀ d ∈ va, d.1.size ≤ 100000 ∧ d.2.size ≤ 100000) → ∀ d ∈ L.foldl (vstep rq) va, d.1.size ≤ 100000 ∧ d.2.size ≤ 100000 := by
    intro L
    induction L with
    | nil => intro va _ h; exact h
    | cons x L ih =>
      intro va hL hva
      refine ih _ (fun p hp => hL p (List.mem_cons_of_mem _ hp)) (fun d hd => ?_)
      unfold vstep at hd
      split at hd
      · exact hva d hd
      · rcases List.mem_append.1 hd with h1 | h1
        · exact hva d h1
        · obtain rfl := List.mem_singleton.1 h1
          refine ⟨?_, hdr_size rq _ hq⟩
          have h2 := hL x List.mem_cons_self
          have h3 : (bs (lowL x)).size = x.length := by
            rw [← size_len]
            show (lowL x).length = _
            simp [lowL]
          show (bs (lowL x)).size ≤ 100000
          omega
  exact this _ [] h0 (fun d hd => by cases hd)
end Go.Proofs.YtkobhknggamejaaDoor

/- What the form's own reach says of the sizes of an argument's parts. -/
namespace Go.Proofs.YtkobhknggamejaaDoor
set_option linter.unusedVariables false
set_option linter.unusedSimpArgs false
open Go.RowKit

theorem wt_each {H : Type} {P : Program} : ∀ {ts : List TypeId} {ds : List (DataW H)} (i : Nat) {t : TypeId} {d : DataW H} {n : Nat}, ts[i]? = some t → ds[i]? = some d → n ∈ d.weights P t → n ∈ DataW.weightsEach P ts ds := by
  intro ts
  induction ts with
  | nil => intro ds i t d n h; simp at h
  | cons u ts ih =>
    intro ds i t d n h1 h2 h3
    cases ds with
    | nil => simp at h2
    | cons x ds =>
      unfold DataW.weightsEach
      cases i with
      | zero =>
        simp at h1 h2
        subst h1 h2
        exact List.mem_append_left _ h3
      | succ i => exact List.mem_append_right _ (ih i (by simpa using h1) (by simpa using h2) h3)
theorem wt_all {H : Type} {P : Program} {e : TypeId} : ∀ {ds : List (DataW H)} (i : Nat) {d : DataW H} {n : Nat}, ds[i]? = some d → n ∈ d.weights P e → n ∈ DataW.weightsAll P e ds := by
  intro ds
  induction ds with
  | nil => intro i d n h; simp at h
  | cons x ds ih =>
    intro i d n h1 h2
    unfold DataW.weightsAll
    cases i with
    | zero =>
      simp at h1
      subst h1
      exact List.mem_append_left _ h2
    | succ i => exact List.mem_append_right _ (ih i (by simpa using h1) h2)
theorem wt_struct {H : Type} {P : Program} {t : TypeId} {fs : Array Field} (ht : P.underlying t = some (.struct fs)) {parts : List (DataW H)} (i : Nat) {f : Field} {d : DataW H} {n : Nat} (hf : fs[i]? = some f) (hd : parts[i]? = some d) (h : n ∈ d.weights P f.type) : n ∈ (DataW.agg parts).weights P t := by
  unfold DataW.weights
  rw [ht]
  refine wt_each i ?_ hd h
  rw [List.getElem?_map]
  have : fs.toList[i]? = some f := by simpa using hf
  rw [this]; rfl
theorem wt_slice {H : Type} {P : Program} {t e : TypeId} (ht : P.underlying t = some (.slice e)) {elems spare : List (DataW H)} (i : Nat) {d : DataW H} {n : Nat} (hd : elems[i]? = some d) (h : n ∈ d.weights P e) : n ∈ (DataW.slice elems spare).weights P t := by
  unfold DataW.weights
  rw [ht]
  exact List.mem_cons_of_mem _ (List.mem_append_left _ (wt_all i hd h))
theorem wt_len {H : Type} {P : Program} {t e : TypeId} (ht : P.underlying t = some (.slice e)) {elems spare : List (DataW H)} : (elems.length + spare.length) * P.bytesOf e ∈ (DataW.slice elems spare).weights P t := by
  unfold DataW.weights
  rw [ht]
  exact List.mem_cons_self
theorem wt_string {H : Type} {P : Program} {t : TypeId} (s : ByteArray) : s.size ∈ (DataW.lit (H := H) (.string s.data.toList)).weights P t := by
  unfold DataW.weights
  simp
/-- all weights of a datum are within the reach -/
def WtOk {H : Type} (P : Program) (t : TypeId) (d : DataW H) : Prop := ∀ n ∈ d.weights P t, n ≤ reachBytes
theorem wt_at {H : Type} {P : Program} {ts : List TypeId} {ds : List (DataW H)} (h : (DataW.weightsEach P ts ds).all (· ≤ reachBytes) = true) (i : Nat) {t : TypeId} {d : DataW H} (ht : ts[i]? = some t) (hd : ds[i]? = some d) : WtOk P t d := fun n hn => by
  have := List.all_eq_true.1 h n (wt_each i ht hd hn)
  simpa using this
theorem WtOk.struct {H : Type} {P : Program} {t : TypeId} {fs : Array Field} {parts : List (DataW H)} (h : WtOk P t (.agg parts)) (ht : P.underlying t = some (.struct fs)) (i : Nat) {f : Field} {d : DataW H} (hf : fs[i]? = some f) (hd : parts[i]? = some d) : WtOk P f.type d := fun n hn => h n (wt_struct ht i hf hd hn)
theorem WtOk.slice {H : Type} {P : Program} {t e : TypeId} {elems spare : List (DataW H)} (h : WtOk P t (.slice elems spare)) (ht : P.underlying t = some (.slice e)) (i : Nat) {d : DataW H} (hd : elems[i]? = some d) : WtOk P e d := fun n hn => h n (wt_slice ht i hd hn)
theorem WtOk.str {H : Type} {P : Program} {t : TypeId} {s : ByteArray} (h : WtOk P t (DataW.lit (H := H) (.string s.data.toList))) : s.size ≤ 140737488351232 := h _ (wt_string s)
end Go.Proofs.YtkobhknggamejaaDoor

/- What a caller hands in: headers, entries, caches, requests, with their sizes out of the form's reach. -/
namespace Go.Proofs.YtkobhknggamejaaDoor
set_option linter.unusedVariables false
set_option linter.unusedSimpArgs false
open Go.RowKit

section
variable {H : Type} {enc : TypeId × Value → H} {P : Program} {w : World} {base : Nat} {held : Bool}
theorem pick_rows {α : Type} (n : Nat) (Q : Nat → α → Prop) (h : ∀ i, i < n → ∃ p, Q i p) : ∃ l : List α, l.length = n ∧ ∀ i (hi : i < l.length), Q i l[i] := by
  induction n with
  | zero => exact ⟨[], rfl, fun i hi => by simp at hi⟩
  | succ n ih =>
    obtain ⟨l, hl, hq⟩ := ih (fun i hi => h i (by omega))
    obtain ⟨p, hp⟩ := h n (by omega)
    refine ⟨l ++ [p], by simp [hl], fun i hi => ?_⟩
    by_cases hin : i < l.length
    · rw [List.getElem_append_left hin]; exact hq i hin
    · obtain rfl : i = l.length := by simp at hi; omega
      rw [List.getElem_append_right (Nat.le_refl _)]
      simpa [hl] using hp
theorem cell_spot2 {w : World} {a : Addr} {u : Value} (h : w.cell? a = some u) : a.spot = none ∧ a.block < w.heap.size := by
  unfold World.cell? at h
  by_cases hlt : a.block < w.heap.size
  · refine ⟨?_, hlt⟩
    cases hs : a.spot with
    | none => rfl
    | some k =>
      split at h
      · simp [hs] at h
      · cases h
  · rw [Array.getElem?_eq_none (by omega)] at h
    simp at h
/-- a slice of things that are opened one by one -/
theorem open_rows {α : Type} (en : α → List Value) (K : Nat) (hK : ∀ x, (en x).length = K) (hK0 : 0 < K) (Good Wt : α → Prop) {t e : TypeId} {fuel : Nat} {cs : List Value} {x : DataW H × List MemPlace}
    (ht : P.underlying t = some (.slice e)) (hce : P.cellsOf e = K)
    (each : ∀ n cs (x : DataW H × List MemPlace), DataW.trod enc P w base (fun _ => true) held n e cs = some x → ∃ c, cs = en c ∧ Good c ∧ (WtOk P e x.1 → Wt c))
    (h : DataW.trod enc P w base (fun _ => true) held fuel t cs = some x) : ∃ v l, cs = [v] ∧ SlK en K w v l ∧ (∀ c ∈ l, Good c) ∧ (WtOk P t x.1 → ∀ c ∈ l, Wt c) := by
  rcases Go.Deep.open_slice ht h with ⟨hc0, -⟩ | ⟨a, len, cap, m, n, D, Pl, hcs, hb, hl, hm, hmm, hx, hi⟩
  · exact ⟨_, [], hc0, .inl ⟨rfl, none, 0, rfl, Nat.zero_le _⟩, (fun c hc => by cases hc), (fun _ c hc => by cases hc)⟩
  · have key : ∀ k, k < len → ∃ c : α, (∀ j u, (en c)[j]? = some u → w.cell? ((a.add (k * K)).add j) = some u) ∧ Good c ∧ (WtOk P e (D k) → Wt c) := fun k hk => by
      obtain ⟨cs', hc', ht'⟩ := hi k (by rw [hmm]; simp; omega)
      rw [hce] at hc'
      obtain ⟨_, hcl, hat⟩ := World.cells?_some hc'
      obtain ⟨c, rfl, hg, hw⟩ := each _ _ _ ht'
      refine ⟨c, fun j u hu => ?_, hg, hw⟩
      have hj : j < K := by rw [← hK c]; exact (List.getElem?_eq_some_iff.1 hu).1
      rw [hat j hj]; exact hu
    obtain ⟨l, hll, hq⟩ := pick_rows len _ key
    refine ⟨_, l, hcs, ?_, fun c hc => ?_, fun hw c hc => ?_⟩
    · cases l with
      | nil => exact .inl ⟨rfl, some a, cap, by rw [← hll]; rfl, hm⟩
      | cons p l =>
        have hp : 0 < (en p).length := by rw [hK]; exact hK0
        have z0 := (hq 0 (by simp)).1 0 _ (List.getElem?_eq_getElem hp)
        have hz : (a.add (0 * K)).add 0 = a := by unfold Addr.add; simp
        rw [hz] at z0
        obtain ⟨hsp, hlt⟩ := cell_spot2 z0
        obtain ⟨ab, ao, sp⟩ := a
        have hsp : sp = none := hsp
        subst hsp
        refine .inr ⟨by simp, ab, ao, cap, by rw [hll], by omega, hm, hlt, fun k hk j u hu => ?_⟩
        have := (hq k hk).1 j u hu
        have e1 : ∀ o x : Nat, (⟨ab, o, none⟩ : Addr).add x = ⟨ab, o + x, none⟩ := fun o x => by unfold Addr.add; split <;> simp_all
        rw [e1, e1] at this
        exact this
    · obtain ⟨k, hk, rfl⟩ := List.getElem_of_mem hc
      exact (hq k hk).2.1
    · obtain ⟨k, hk, rfl⟩ := List.getElem_of_mem hc
      rw [hx] at hw
      exact (hq k hk).2.2 (hw.slice ht k (d := D k) (by rw [List.getElem?_map, List.getElem?_range (by omega)]; rfl))
/-- a header -/
theorem open_hd {e s : TypeId} {f0 f1 : Field} {fuel : Nat} {cs : List Value} {x : DataW H × List MemPlace} (he : P.underlying e = some (.struct #[f0, f1])) (hs : P.underlying s = some .string) (o : f0.offset = 0 ∧ f1.offset = 1 ∧ f0.type = s ∧ f1.type = s) (hcs : P.cellsOf s = 1) (hce : P.cellsOf e = 2)
    (h : DataW.trod enc P w base (fun _ => true) held fuel e cs = some x) : ∃ c : Hd, cs = hdC c ∧ True ∧ (WtOk P e x.1 → c.1.size ≤ 140737488355328 ∧ c.2.size ≤ 140737488355328) := by
  obtain ⟨xs, n, _, rfl, hl, hlen, hf⟩ := DataW.trod_struct he h
  match xs, hlen with
  | [y0, y1], _ =>
    have g0 := hf 0 f0 rfl
    have g1 := hf 1 f1 rfl
    rw [o.1, o.2.2.1, hcs] at g0
    rw [o.2.1, o.2.2.2, hcs] at g1
    obtain ⟨s0, e0, d0, _⟩ := DataW.trod_string hs g0
    obtain ⟨s1, e1, d1, _⟩ := DataW.trod_string hs g1
    rw [hce] at hl
    match cs, hl with
    | [u0, u1], _ =>
      simp at e0 e1
      subst e0 e1
      refine ⟨(s0, s1), rfl, trivial, fun hw => ?_⟩
      have w0 := hw.struct he 0 (f := f0) (d := y0.1) rfl rfl
      have w1 := hw.struct he 1 (f := f1) (d := y1.1) rfl rfl
      rw [d0] at w0
      rw [d1] at w1
      exact ⟨Nat.le_trans w0.str (by decide), Nat.le_trans w1.str (by decide)⟩
/-- what is known of the types of headers -/
structure HTy (P : Program) (t e s : TypeId) (f0 f1 : Field) : Prop where
  ht : P.underlying t = some (.slice e)
  he : P.underlying e = some (.struct #[f0, f1])
  hs : P.underlying s = some .string
  o : f0.offset = 0 ∧ f1.offset = 1 ∧ f0.type = s ∧ f1.type = s
  cs : P.cellsOf s = 1
  ce : P.cellsOf e = 2
  ct : P.cellsOf t = 1
theorem open_hds {t e s : TypeId} {f0 f1 : Field} (ty : HTy P t e s f0 f1) {fuel : Nat} {cs : List Value} {x : DataW H × List MemPlace}
    (h : DataW.trod enc P w base (fun _ => true) held fuel t cs = some x) : ∃ (v : Value) (l : List Hd), cs = [v] ∧ SlK hdC 2 w v l ∧ (WtOk P t x.1 → WtH l) := by
  obtain ⟨v, l, h1, h2, _, h3⟩ := open_rows hdC 2 (fun _ => rfl) (by decide) (fun _ => True) (fun c => c.1.size ≤ 140737488355328 ∧ c.2.size ≤ 140737488355328) ty.ht ty.ce (fun n cs x hx => open_hd ty.he ty.hs ty.o ty.cs ty.ce hx) h
  exact ⟨v, l, h1, h2, h3⟩
/-- an entry -/
structure ETy (P : Program) (t h e s i : TypeId) (f0 f1 g0 g1 g2 g3 g4 g5 : Field) : Prop where
  hh : HTy P h e s f0 f1
  ht : P.underlying t = some (.struct #[g0, g1, g2, g3, g4, g5])
  hi : P.underlying i = some (.int .i64)
  o : g0.offset = 0 ∧ g1.offset = 1 ∧ g2.offset = 2 ∧ g3.offset = 3 ∧ g4.offset = 4 ∧ g5.offset = 5
  tt : g0.type = s ∧ g1.type = h ∧ g2.type = i ∧ g3.type = h ∧ g4.type = s ∧ g5.type = i
  ci : P.cellsOf i = 1
  ct : P.cellsOf t = 6
theorem open_ent {t h e s i : TypeId} {f0 f1 g0 g1 g2 g3 g4 g5 : Field} (ty : ETy P t h e s i f0 f1 g0 g1 g2 g3 g4 g5) {fuel : Nat} {cs : List Value} {x : DataW H × List MemPlace}
    (hx : DataW.trod enc P w base (fun _ => true) held fuel t cs = some x) : ∃ y : Ee, cs = eeC y ∧ Rd w y.1 y.2 ∧ (WtOk P t x.1 → WtE y.2) := by
  obtain ⟨xs, n, _, rfl, hl, hlen, hf⟩ := DataW.trod_struct ty.ht hx
  match xs, hlen with
  | [y0, y1, y2, y3, y4, y5], _ =>
    have k0 := hf 0 g0 rfl
    have k1 := hf 1 g1 rfl
    have k2 := hf 2 g2 rfl
    have k3 := hf 3 g3 rfl
    have k4 := hf 4 g4 rfl
    have k5 := hf 5 g5 rfl
    obtain ⟨o0, o1, o2, o3, o4, o5⟩ := ty.o
    obtain ⟨t0, t1, t2, t3, t4, t5⟩ := ty.tt
    rw [o0, t0, ty.hh.cs] at k0
    rw [o1, t1, ty.hh.ct] at k1
    rw [o2, t2, ty.ci] at k2
    rw [o3, t3, ty.hh.ct] at k3
    rw [o4, t4, ty.hh.cs] at k4
    rw [o5, t5, ty.ci] at k5
    obtain ⟨s0, e0, d0, _⟩ := DataW.trod_string ty.hh.hs k0
    obtain ⟨v1, l1, e1, b1, z1⟩ := open_hds ty.hh k1
    obtain ⟨n2, e2, _⟩ := DataW.trod_int ty.hi k2
    obtain ⟨v3, l3, e3, b3, z3⟩ := open_hds ty.hh k3
    obtain ⟨s4, e4, d4, _⟩ := DataW.trod_string ty.hh.hs k4
    obtain ⟨n5, e5, _⟩ := DataW.trod_int ty.hi k5
    rw [ty.ct] at hl
    match cs, hl with
    | [u0, u1, u2, u3, u4, u5], _ =>
      simp at e0 e1 e2 e3 e4 e5
      subst e0 e1 e2 e3 e4 e5
      refine ⟨(⟨s0, u1, n2, u3, s4, n5⟩, ⟨s0, l1, n2, l3, s4, n5⟩), rfl, ⟨rfl, rfl, rfl, rfl, b1, b3⟩, fun hw => ⟨?_, ?_, ?_⟩⟩
      · have := hw.struct ty.ht 1 (f := g1) (d := y1.1) rfl rfl
        rw [t1] at this
        exact z1 this
      · have := hw.struct ty.ht 3 (f := g3) (d := y3.1) rfl rfl
        rw [t3] at this
        exact z3 this
      · have := hw.struct ty.ht 4 (f := g4) (d := y4.1) rfl rfl
        rw [d4] at this
        exact Nat.le_trans this.str (by decide)
/-- a slice of headers as a parameter -/
theorem open_hdsP {b0 : Nat} {r : Reach} {t e s : TypeId} {f0 f1 : Field} (ty : HTy P t e s f0 f1) {v : Value} {d : DataW H} {ps : List MemPlace}
    (hval : Value.okWide P w r b0 t v) (hd : DataW.Trod enc P w base (fun _ => true) held t v d ps) : ∃ l : List Hd, SlK hdC 2 w v l ∧ (WtOk P t d → WtH l) := by
  obtain ⟨fuel, hf⟩ := hd
  have hv : ∃ o n c, v = .slice o n c := by
    cases v with
    | slice o n c => exact ⟨o, n, c, rfl⟩
    | _ => simp [Value.okWide, Cell.okWide, Cell.ok, ty.ht] at hval
  obtain ⟨o, n, c, rfl⟩ := hv
  obtain ⟨v, l, h1, h2, h3⟩ := open_hds ty hf
  have : Value.slice o n c = v := by simpa [Value.cells] using h1
  subst this
  exact ⟨l, h2, h3⟩
/-- an entry as a parameter -/
theorem open_entP {b0 : Nat} {r : Reach} {t h e s i : TypeId} {f0 f1 g0 g1 g2 g3 g4 g5 : Field} (ty : ETy P t h e s i f0 f1 g0 g1 g2 g3 g4 g5) {v : Value} {d : DataW H} {ps : List MemPlace}
    (hval : Value.okWide P w r b0 t v) (hd : DataW.Trod enc P w base (fun _ => true) held t v d ps) : ∃ y : Ee, v = eeA y ∧ Rd w y.1 y.2 ∧ (WtOk P t d → WtE y.2) := by
  obtain ⟨cs, rfl, hsz⟩ := Go.WideShapes.okWide_struct ty.ht hval
  obtain ⟨fuel, hf⟩ := hd
  obtain ⟨y, h1, h2, h3⟩ := open_ent ty hf
  refine ⟨y, ?_, h2, h3⟩
  have : cs.toList = eeC y := h1
  obtain ⟨cs⟩ := cs
  subst this
  rfl
/-- a cache as a parameter -/
theorem open_cacheP {b0 : Nat} {r : Reach} {c l t h e s i : TypeId} {q0 f0 f1 g0 g1 g2 g3 g4 g5 : Field} (ty : ETy P t h e s i f0 f1 g0 g1 g2 g3 g4 g5) (hc : P.underlying c = some (.struct #[q0])) (o : q0.offset = 0 ∧ q0.type = l) (hl : P.underlying l = some (.slice t)) (cl : P.cellsOf l = 1) (cc : P.cellsOf c = 1) {v : Value} {d : DataW H} {ps : List MemPlace}
    (hval : Value.okWide P w r b0 c v) (hd : DataW.Trod enc P w base (fun _ => true) held c v d ps) : ∃ (u : Value) (es : List Ee), v = .agg #[u] ∧ SlK eeC 6 w u es ∧ (∀ y ∈ es, Rd w y.1 y.2) ∧ (WtOk P c d → ∀ y ∈ es, WtE y.2) := by
  obtain ⟨cs, rfl, hsz⟩ := Go.WideShapes.okWide_struct hc hval
  obtain ⟨fuel, hf⟩ := hd
  obtain ⟨xs, n, _, hx, hlc, hlen, hfs⟩ := DataW.trod_struct hc hf
  match xs, hlen with
  | [y0], _ =>
    have k0 := hfs 0 q0 rfl
    rw [o.1, o.2, cl] at k0
    obtain ⟨u, es, h1, h2, h3, h4⟩ := open_rows eeC 6 (fun _ => rfl) (by decide) (fun y => Rd w y.1 y.2) (fun y => WtE y.2) hl ty.ct (fun n cs x hx => open_ent ty hx) k0
    obtain ⟨cs⟩ := cs
    have hsz : cs.length = P.cellsOf c := hsz
    rw [cc] at hsz
    match cs, hsz with
    | [u0], _ =>
      have : u0 = u := by simpa [Value.cells] using h1
      subst this
      refine ⟨_, es, rfl, h2, h3, fun hw => h4 ?_⟩
      have hdd : d = .agg [y0.1] := (Prod.mk.inj hx).1
      rw [hdd] at hw
      have := hw.struct hc 0 (f := q0) (d := y0.1) rfl rfl
      rw [o.2] at this
      exact this
/-- a request (its address, its headers, a time) as a parameter -/
theorem open_reqP {b0 : Nat} {r : Reach} {c t e s i : TypeId} {q0 q1 q2 f0 f1 : Field} (ty : HTy P t e s f0 f1) (hc : P.underlying c = some (.struct #[q0, q1, q2])) (hi : P.underlying i = some (.int .i64)) (ci : P.cellsOf i = 1) (o : q0.offset = 0 ∧ q1.offset = 1 ∧ q2.offset = 2) (tt : q0.type = s ∧ q1.type = t ∧ q2.type = i) (cc : P.cellsOf c = 3) {v : Value} {d : DataW H} {ps : List MemPlace}
    (hval : Value.okWide P w r b0 c v) (hd : DataW.Trod enc P w base (fun _ => true) held c v d ps) : ∃ (u : ByteArray) (x : Value) (n : Int) (l : List Hd), v = .agg #[.string u, x, .int .i64 n] ∧ SlK hdC 2 w x l ∧ (WtOk P c d → WtH l ∧ u.size ≤ 140737488355328) := by
  obtain ⟨cs, rfl, hsz⟩ := Go.WideShapes.okWide_struct hc hval
  obtain ⟨fuel, hf⟩ := hd
  obtain ⟨xs, n, _, hx, hlc, hlen, hfs⟩ := DataW.trod_struct hc hf
  match xs, hlen with
  | [y0, y1, y2], _ =>
    have k0 := hfs 0 q0 rfl
    have k1 := hfs 1 q1 rfl
    have k2 := hfs 2 q2 rfl
    rw [o.1, tt.1, ty.cs] at k0
    rw [o.2.1, tt.2.1, ty.ct] at k1
    rw [o.2.2, tt.2.2, ci] at k2
    obtain ⟨s0, e0, d0, _⟩ := DataW.trod_string ty.hs k0
    obtain ⟨v1, l1, e1, b1, z1⟩ := open_hds ty k1
    obtain ⟨n2, e2, _⟩ := DataW.trod_int hi k2
    obtain ⟨cs⟩ := cs
    have hsz : cs.length = P.cellsOf c := hsz
    rw [cc] at hsz
    match cs, hsz with
    | [u0, u1, u2], _ =>
      have r0 : u0 = .string s0 := by simpa [Value.cells] using e0
      have r1 : u1 = v1 := by simpa [Value.cells] using e1
      have r2 : u2 = .int .i64 n2 := by simpa [Value.cells] using e2
      clear e0 e1 e2
      subst r0 r1 r2
      have hdd : d = .agg [y0.1, y1.1, y2.1] := (Prod.mk.inj hx).1
      refine ⟨_, _, _, l1, rfl, b1, fun hw => ⟨z1 ?_, ?_⟩⟩
      · rw [hdd] at hw
        have := hw.struct hc 1 (f := q1) (d := y1.1) rfl rfl
        rw [tt.2.1] at this
        exact this
      · rw [hdd] at hw
        have := hw.struct hc 0 (f := q0) (d := y0.1) rfl rfl
        rw [d0] at this
        exact Nat.le_trans this.str (by decide)
end
end Go.Proofs.YtkobhknggamejaaDoor

/- Cache: the reference's Merge. -/
namespace Go.Proofs.YtkobhknggamejaaDoor
set_option linter.unusedVariables false
set_option linter.unusedSimpArgs false
open Go.RowKit

theorem keepg_snoc {α : Type} (l : List α) (p : α → Bool) (k : Nat) (h : k < l.length) (x : α) (hx : l[k] = x) : (l.take (k + 1)).filter p = (l.take k).filter p ++ if p x then [x] else [] := by
  subst hx
  rw [List.take_succ_eq_append_getElem h, List.filter_append]
  cases hq : p l[k] <;> simp [hq]
theorem run_append_none {P : Program} {w : World} (base : Nat) (t ty e : TypeId) (i : TypeInfo) (size : Nat) (ht : P.underlying t = some (.slice e)) (hi : P.info? e = some i)
    (v : Value) (n : Nat) (xs : List Value) (hown : w.ownsRow base e size v n xs) (c : Nat) : (Builtin.append_ #[t, t] ty #[v, .slice none 0 c]).run P w = .ok v w := by
  rcases hown.2 with ⟨rfl, rfl⟩ | ⟨g, cap, cur, rfl, _, _, hnc, _⟩
  · simp [Builtin.append_, run_underlying ht, sizeOf, typeInfo, hi, Builtin.lenOf, Builtin.firstCells]
  · simp [Builtin.append_, run_underlying ht, sizeOf, typeInfo, hi, Builtin.lenOf, Builtin.firstCells, hnc, storeCells]
/-- an append of elements that lie in memory, or of none -/
theorem app_src {P : Program} {T E size bytes : Nat} (ty : SlTy P T E size bytes) (W : World) {ops : Array Oper} {rest : List Oper} {o : Oper} {a : Act} {Q : Exit → Act → World → Prop}
    (hgd : o.guard = none) (s x : Operand) (ho : o.op = .call { callee := .builtin .append, args := #[s, x], argTypes := #[T, T] })
    (B : Nat) (v : Value) (n : Nat) (xs : List Value) (hs : a.eval s = v) (hown : W.ownsRow B E size v n xs) (news : List Value) (A : Option Addr) (m c : Nat)
    (hx : a.eval x = .slice A m c) (hl : news.length = m * size) (hc : (A = none ∧ m = 0) ∨ ∃ ad, A = some ad ∧ ∀ j u, news[j]? = some u → W.cell? (ad.add j) = some u) (h1 : ∀ u ∈ news, u.oneCell' = true)
    (hb : (n + m) * bytes ≤ 140737488355328) (hn : n + m ≤ 140737488355328) (hB : B ≤ W.heap.size)
    (h : ∀ v' w', w'.ownsRow B E size v' (n + m) (xs ++ news) → W.grownBy w' v.ownBlock → wpList P ops Q rest (a.put o.dst v') w') :
    wpList P ops Q (o :: rest) a W := by
  obtain ⟨hu, ⟨i, z, hi, hz, h2, h3, h4⟩, hp⟩ := ty
  rcases hc with ⟨rfl, rfl⟩ | ⟨ad, rfl, hc⟩
  · obtain rfl : news = [] := List.eq_nil_of_length_eq_zero (by simpa using hl)
    refine wpList_plain hgd fun K hK => ?_
    have hr := run_append_none (P := P) (w := W) B T o.type E i size hu hi v n xs hown c
    unfold Oper.wp execOp
    simp only [ho, resolve, invoke, builtin, Sem.run_bind, Sem.run_pure, Result.andThen_ok, List.map_toArray, List.map_cons, List.map_nil, hs, hx, hr]
    exact hK _ _ (h v W (by simpa using hown) (World.grownBy.refl W _))
  · exact wpList_append_own _ hgd s x T ho B E i z size bytes hu hi hz h2 h3 h4 hp v n xs hs hown ad m c news hx hl hc h1 (by unfold maxLen; omega) hb hB fun v' w' a1 a2 _ => h v' w' a1 a2
/-- where a slice of headers lies -/
theorem hd_cells {w : World} {l : List Hd} {sa : Option Addr} {n c : Nat} (hv : SlK hdC 2 w (.slice sa n c) l) (hn : l.length = n) :
    0 < n → ∃ b0 off : Nat, sa = some ⟨b0, off, none⟩ ∧ b0 < w.heap.size ∧ ∀ kk (h : kk < l.length) j u, (hdC l[kk])[j]? = some u → w.cell? ⟨b0, off + kk * 2 + j, none⟩ = some u := by
  intro h0
  rcases hv with ⟨rfl, _⟩ | ⟨_, b0, off, cap, he, hc1, hc2, hc3, hcell⟩
  · simp at hn; omega
  · injection he with e1 _ _
    exact ⟨b0, off, e1, hc3, hcell⟩
theorem hd_src {w : World} {l : List Hd} {sa : Option Addr} {c : Nat} (hv : SlK hdC 2 w (.slice sa l.length c) l) : (sa = none ∧ l.length = 0) ∨ ∃ ad, sa = some ad ∧ ∀ j u, (cellsK hdC l)[j]? = some u → w.cell? (ad.add j) = some u := by
  by_cases h0 : l.length = 0
  · cases sa with
    | none => exact .inl ⟨rfl, h0⟩
    | some ad =>
      have : l = [] := List.eq_nil_of_length_eq_zero h0
      subst this
      exact .inr ⟨ad, rfl, fun j u hu => by simp [cellsK] at hu⟩
  · obtain ⟨b0, off, rfl, _, hc⟩ := hd_cells hv rfl (by omega)
    refine .inr ⟨_, rfl, fun j u hu => ?_⟩
    obtain ⟨i, hi, q, rfl, hq⟩ := cellsK_inv hdC_len l j u hu
    rw [add_none, ← Nat.add_assoc]
    exact hc i hi q u hq
def hasH (hs : List Hd) (d : Hd) : Bool := (hdrL hs d.1.data.toList).isSome
/-- headers that are updated by others -/
def mergeL (old hs : List Hd) : List Hd := old.filter (fun d => !hasH hs d) ++ hs
end Go.Proofs.YtkobhknggamejaaDoor
