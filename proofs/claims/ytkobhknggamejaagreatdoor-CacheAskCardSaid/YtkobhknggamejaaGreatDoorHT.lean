/- Cache: Put: its beginning; a response that may not be stored. -/
import Derived.Test.YtkobhknggamejaaGreatDoorHS2
import Derived.Test.YtkobhknggamejaaGreatDoorHS1
namespace Go.Proofs.YtkobhknggamejaaGreatDoor
set_option linter.unusedVariables false
set_option linter.unusedSimpArgs false
open Go.RowKit

theorem RowBut.lowB {w w' : World} {jb B E s n : Nat} {v : Value} {xs : List Value} (h : RowBut w.heap.size jb v.ownBlock w w') (hown : w.ownsRow B E s v n xs) (hjB : B ≤ jb) (hBw : B ≤ w.heap.size) : Below B w w' :=
  ⟨h.os, h.tape, h.output, h.size, fun k hk => h.block k (by omega) (by omega) (fun e => by have := own_base hown e; omega)⟩
theorem MaxAt.low {w w' : World} {B : Nat} (h : MaxAt w) (hb : Below B w w') (hG : 0 < B) : MaxAt w' := by
  obtain ⟨m, hm⟩ := h
  exact ⟨m, (hb.cell (p := ⟨0, 0, none⟩) hG).trans hm⟩
/-- the closure of Put over entries -/
theorem put1_is (x : Ee) (url : ByteArray) (rq : List Hd) (vr : Value) (C D : Nat) (W : World) (hU : AtL W C [.string url]) (hQ : AtL W D [vr]) (hr : Rd W x.1 x.2) (hv : SlK hdC 2 W vr rq) (hz : HdSz rq) (hy : HdSz x.2.va) :
    Calls Tryz.prog 59 #[eeA x, .pointer (some ⟨C, 0, none⟩), .pointer (some ⟨D, 0, none⟩)] W fun e W' => e = .returned (.bool (ansB x.2 url rq)) ∧ Below W.heap.size W W' := by
  obtain ⟨R, hR⟩ : ∃ R, ansB x.2 url rq = R := ⟨_, rfl⟩
  rw [hR]
  have hal := (Below.refl _ W).alloc (Nat.le_refl _) (.cells (eeC x).toArray 40)
  have A0 := AtL.new W (eeC x) 40
  have CA := Lib.hid (ans_is x url rq vr _ (hr.below hal (Nat.le_refl _)) (hv.below hal (Nat.le_refl _)) hz hy R hR)
  have U1 := hU.next hal
  have Q1 := hQ.next hal
  obtain ⟨sa, sc, rfl, _⟩ := hv.shape
  obtain ⟨⟨a1, n1, k1, e1⟩, a2, n2, k2, e2⟩ := hr.shp
  obtain ⟨⟨u, vv, st, hh, bo, ti⟩, xe⟩ := x
  have e1 : vv = .slice a1 n1 k1 := e1
  have e2 : hh = .slice a2 n2 k2 := e2
  subst e1 e2
  have c0 := U1.c 0 rfl
  have q0 := Q1.c 0 rfl
  have cl := U1.lt
  have ql := Q1.lt
  have hcl := hU.lt
  have hql := hQ.lt
  have u0 := hU.c 0 rfl
  have v0 := hQ.c 0 rfl
  clear hR hv hr hz hy hU hQ U1 Q1
  go_enter Tryz.func59, Tryz.ntmps59
  go_wp2_with (go_at_call 60; with_reducible refine CA.out.mono ?_; rintro e w1 ⟨rfl, hb1⟩)
  go_ret
  exact ⟨rfl, hal.trans (hb1.mono hal.size)⟩
/-- the entries that a response does not replace -/
abbrev keepL (l : List Ee) (url : ByteArray) (rq : List Hd) : List Ee := l.filter (fun x => !ansB x.2 url rq)
set_option maxRecDepth 20000 in
set_option maxHeartbeats 4000000 in
theorem put_no (jb B : Nat) (v : Value) (l : List Ee) (w : World) (hM : MaxAt w) (hG : 0 < B) (hjB : B ≤ jb) (hJ : CaIn w jb B v l) (hz : ∀ x ∈ l, HdSz x.2.va) (hl : l.length ≤ 1000) (url : ByteArray) (rq hs : List Hd) (vr vh : Value) (hq : SlK hdC 2 w vr rq) (hh : SlK hdC 2 w vh hs) (hzq : HdSz rq) (hzh : HdSz hs) (hfq : FarV rq vr jb v.ownBlock) (hfh : FarV hs vh jb v.ownBlock) (st : Int) (body : ByteArray) (now : Int) (hS : storL st rq hs = false) :
    Calls Tryz.prog 29 #[.pointer (some ⟨jb, 0, none⟩), .string url, vr, .int .i64 st, vh, .string body, .int .i64 now] w fun e w' => e = .returned (.bool false) ∧ CaTo w jb B v (keepL l url rq) w' := by
  have hjl := hJ.at_.lt
  have hB0 : Below w.heap.size w ((w.alloc (.cells [.string url].toArray 9)).alloc (.cells [vr].toArray 22)) := ((Below.refl _ w).alloc (Nat.le_refl _) _).alloc (by simp) _
  have U0 := (AtL.new w [.string url] 9).alloc (.cells [vr].toArray 22)
  have Q0 := AtL.new (w.alloc (.cells [.string url].toArray 9)) [vr] 22
  rw [show (w.alloc (.cells [.string url].toArray 9)).heap.size = w.heap.size + 1 by simp] at Q0
  have J0 := hJ.below hB0 (Nat.le_refl _)
  have q0 := hq.below hB0 (Nat.le_refl _)
  have ho := hown_lt hJ.own
  have CDel := Lib.hid (eedel (fun x => ansB x.2 url rq) 59 #[.pointer (some ⟨w.heap.size, 0, none⟩), .pointer (some ⟨w.heap.size + 1, 0, none⟩)] (enters_of Tryz.func59 (by kernel_rfl) rfl) l v _ B (fun x hx => (J0.rd x hx).shp) J0.own
    (fun W d hd hr => put1_is d url rq vr _ _ W (U0.row (hr jb) U0.lt (by omega) (fun e => by have := ho _ e; omega)) (Q0.row (hr jb) Q0.lt (by omega) (fun e => by have := ho _ e; omega)) ((J0.rd d hd).row (hr jb) (Nat.le_refl _) (J0.far d hd)) (slk_row q0 (hr jb) (Nat.le_refl _) hfq) hzq (hz d hd)) (by omega))
  have h0 := hh.below hB0 (Nat.le_refl _)
  have M0 := hM.below hB0 (Nat.le_refl _)
  have j0 := J0.at_.c 0 rfl
  have CS := Lib.hid (fun w hM hv hw => stor_is st rq hs vr vh w hM hv hw hzq hzh _ hS)
  have HJ := Lib.hid hJ
  have HJ0 := Lib.hid J0
  have HQ0 := Lib.hid q0
  have HH0 := Lib.hid h0
  have HM0 := Lib.hid M0
  have HFQ := Lib.hid hfq
  have HFH := Lib.hid hfh
  obtain ⟨sa, sc, rfl, _⟩ := hq.shape
  obtain ⟨sb, sd, rfl, _⟩ := hh.shape
  obtain ⟨ta, tc, hve, _⟩ := hJ.reads.shape
  subst hve
  have hjne : jb ≠ jb + 1 := by omega
  clear hq hh hM hJ hS J0 q0 h0 M0 hz hzq hfq hfh
  go_enter Tryz.func29, Tryz.ntmps29
  go_wp2_with (first
    | (go_at_call 58; refine CDel.out.mono ?_; rintro e w1 hq1; obtain ⟨a1, c1, rfl, hown1, hob1, hr1⟩ := delq_open hq1; clear hq1; have hrj := hr1 jb; have RI := HJ0.out.row.less hown1 (fun y hy => (List.mem_filter.1 hy).1) hrj hob1; have J1 := HJ0.out.at_.row (hr1 (jb + 1)) HJ0.out.at_.lt (by omega) HJ0.out.ne; have j1 := J1.c 0 rfl; have f1 := J1.f 0 rfl; have jl1 := J1.lt; have RS := RI.store J1; have hb3 := (hrj.lowB HJ0.out.own hjB HJ0.out.le).setCell (p := ⟨jb, 0, none⟩) hjB (.slice a1 (keepL l url rq).length c1); have M3 := HM0.out.low hb3 hG; have q3 := slk_far (x := .slice a1 (keepL l url rq).length c1) (slk_row HQ0.out hrj (Nat.le_refl _) HFQ.out) HFQ.out; have h3 := slk_far (x := .slice a1 (keepL l url rq).length c1) (slk_row HH0.out hrj (Nat.le_refl _) HFH.out) HFH.out; have U3 := (U0.row hrj U0.lt (by omega) (fun e => by have := ho _ e; omega)).far ⟨jb, 0, none⟩ (.slice a1 (keepL l url rq).length c1) (by show jb ≠ w.heap.size; omega); have Q3 := (Q0.row hrj Q0.lt (by omega) (fun e => by have := ho _ e; omega)).far ⟨jb, 0, none⟩ (.slice a1 (keepL l url rq).length c1) (by show jb ≠ w.heap.size + 1; omega); have qc3 := Q3.c 0 rfl; have ql3 := Q3.lt; have hR3 : RowBut w.heap.size jb (Value.slice ta l.length tc).ownBlock w (w1.setCell ⟨jb, 0, none⟩ (.slice a1 (keepL l url rq).length c1)) := (((RowBut.refl w.heap.size jb (Value.slice ta l.length tc).ownBlock w).below hB0 (Nat.le_refl _)).trans (hrj.mono hB0.size)).setCell ⟨jb, 0, none⟩ (Or.inl rfl) _; have hT3 : RowTo (.slice ta l.length tc) (.slice a1 (keepL l url rq).length c1) w.heap.size := fun g e => .inl (by rw [← hob1]; exact e); clear j0)
      | (go_at_call 18; with_reducible refine (CS.out _ M3 q3 h3).mono ?_; rintro e w4 ⟨rfl, hb4⟩)
    )
  go_ret
  exact ⟨rfl, CaTo.below ⟨⟨_, RS, hT3⟩, hR3⟩ hb4⟩
end Go.Proofs.YtkobhknggamejaaGreatDoor
