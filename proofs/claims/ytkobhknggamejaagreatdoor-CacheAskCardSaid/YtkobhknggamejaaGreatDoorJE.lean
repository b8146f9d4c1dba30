/- CachePut: the law. -/
import Derived.Test.YtkobhknggamejaaGreatDoorJD
namespace Go.Proofs.YtkobhknggamejaaGreatDoor
set_option linter.unusedVariables false
set_option linter.unusedSimpArgs false
open Go.RowKit

theorem far_old {w : World} {hs : List Hd} {u : Value} {jb : Nat} {o : Option Nat} (h : SlK hdC 2 w u hs) (h1 : w.heap.size ≤ jb) (h2 : ∀ g, o = some g → w.heap.size ≤ g) : FarV hs u jb o := by
  intro h0 b off n c e
  rcases h with ⟨h3, _⟩ | ⟨_, b2, off2, cap, hv, _, _, h4, _⟩
  · exact absurd h3 h0
  · rw [hv] at e
    injection e with e1 _ _
    injection e1 with e1
    injection e1 with e1
    subst e1
    exact ⟨by omega, fun e2 => by have := h2 _ e2; omega⟩
theorem far_new {hs : List Hd} {u : Value} {jb N : Nat} {o : Option Nat} (hn : ∀ b off n k, u = .slice (some ⟨b, off, none⟩) n k → N ≤ b) (h1 : jb < N) (h2 : ∀ g, o = some g → g < N) : FarV hs u jb o :=
  fun _ b off n c e => ⟨by have := hn b off n c e; omega, fun e2 => by have := hn b off n c e; have := h2 _ e2; omega⟩
abbrev putEs (es : List En) (url : ByteArray) (rq : List Hd) (st : Int) (hs : List Hd) (body : ByteArray) (now : Int) (S : Bool) : List En := keepE es url rq ++ (if S then [⟨url, varyE rq hs, st, hs, body, now⟩] else [])
def PutQ (w : World) (jb B : Nat) (v : Value) (S : Bool) (es : List En) (e : Ending) (w' : World) : Prop := e = .returned (.bool S) ∧ ∃ l' : List Ee, CaTo w jb B v l' w' ∧ l'.map (·.2) = es
theorem put_any (jb B : Nat) (v : Value) (l : List Ee) (w : World) (hM : MaxAt w) (hG : 0 < B) (hjB : B ≤ jb) (hJ : CaIn w jb B v l) (hz : ∀ x ∈ l, HdSz x.2.va) (hl : l.length ≤ 1000) (url : ByteArray) (rq hs : List Hd) (vr vh : Value) (hq : SlK hdC 2 w vr rq) (hh : SlK hdC 2 w vh hs) (hzq : HdSz rq) (hzh : HdSz hs) (hfq : FarV rq vr jb v.ownBlock) (hfh : FarV hs vh jb v.ownBlock) (st : Int) (body : ByteArray) (now : Int) (S : Bool) (hS : storL st rq hs = S) (es : List En) (hes : putEs (l.map (·.2)) url rq st hs body now S = es) :
    Calls Tryz.prog 29 #[.pointer (some ⟨jb, 0, none⟩), .string url, vr, .int .i64 st, vh, .string body, .int .i64 now] w (PutQ w jb B v S es) := by
  have hk : (keepL l url rq).map (·.2) = keepE (l.map (·.2)) url rq := map_filter_en l _ rfl (fun e => !ansB e url rq)
  cases S with
  | false =>
    refine (put_no jb B v l w hM hG hjB hJ hz hl url rq hs vr vh hq hh hzq hzh hfq hfh st body now hS).mono ?_
    rintro e w' ⟨h1, h2⟩
    exact ⟨h1, _, h2, by rw [hk, ← hes]; simp⟩
  | true =>
    refine (put_yes jb B v l w hM hG hjB hJ hz hl url rq hs vr vh hq hh hzq hzh hfq hfh st body now hS).mono ?_
    rintro e w' ⟨h1, r, h2⟩
    exact ⟨h1, _, h2, by rw [List.map_append, hk, ← hes]; simp⟩
theorem s6_mk {W w' : World} {Q E : Nat} {a b c d e f g h i : Value} (h1 : AtL W Q [a, b, c]) (h2 : AtL W E [d, e, f, g, h, i]) (hb : Below W.heap.size W w') : w'.cell? ⟨Q, 0, none⟩ = some a ∧ w'.cell? ⟨Q, 1, none⟩ = some b ∧ w'.cell? ⟨Q, 2, none⟩ = some c ∧ w'.cell? ⟨E, 2, none⟩ = some f ∧ w'.cell? ⟨E, 3, none⟩ = some g ∧ w'.cell? ⟨E, 4, none⟩ = some h :=
  ⟨(brl hb _ _ h1.lt).trans (h1.c 0 rfl), (brl hb _ _ h1.lt).trans (h1.c 1 rfl), (brl hb _ _ h1.lt).trans (h1.c 2 rfl), (brl hb _ _ h2.lt).trans (h2.c 2 rfl), (brl hb _ _ h2.lt).trans (h2.c 3 rfl), (brl hb _ _ h2.lt).trans (h2.c 4 rfl)⟩
theorem varyE_len (rq hs : List Hd) (hz : HdSz hs) : (varyE rq hs).length ≤ 1000000 := by
  have h1 : ∀ (L : List (List UInt8)) (va : List Hd), (L.foldl (vstep rq) va).length ≤ va.length + L.length := by
    intro L
    induction L with
    | nil => intro va; simp
    | cons x L ih =>
      intro va
      have h := ih (vstep rq va x)
      have h2 : (vstep rq va x).length ≤ va.length + 1 := by unfold vstep; split <;> simp
      simp only [List.foldl_cons, List.length_cons]
      omega
  have h2 : (varyL hs).length ≤ 100001 := by
    unfold varyL wordsL
    refine Nat.le_trans (List.length_filter_le _ _) ?_
    rw [List.length_map]
    have h3 := segs_count 44 ((hdrL hs [118, 97, 114, 121]).getD ⟨#[]⟩).data.toList
    rw [size_len] at h3
    have h4 := hdr_size hs [118, 97, 114, 121] hz
    omega
  have := h1 (varyL hs) []
  unfold varyE
  simp at this
  omega
set_option maxRecDepth 20000 in
set_option maxHeartbeats 4000000 in
theorem cacheput_law (l : List Ee) (v : Value) (url : ByteArray) (vr : Value) (now : Int) (rq : List Hd) (y : Ee) (w : World) (hM : MaxAt w) (hv : SlK eeC 6 w v l) (hr : ∀ x ∈ l, Rd w x.1 x.2) (hz : ∀ x ∈ l, WtE x.2) (hq : SlK hdC 2 w vr rq) (hzq : WtH rq) (hy : Rd w y.1 y.2) (hzy : WtE y.2) :
    Calls Tryz.prog 5 #[.agg #[v], .agg #[.string url, vr, .int .i64 now], eeA y] w fun e w' => e = .returned (.bool true) ∧ Below w.heap.size w w' := by
  have hb0 : Below w.heap.size w (((w.alloc (.cells [v].toArray 35)).alloc (.cells [.string url, vr, .int .i64 now].toArray 37)).alloc (.cells (eeC y).toArray 40)) := (((Below.refl _ w).alloc (Nat.le_refl _) _).alloc (by simp) _).alloc (by simp; omega) _
  have C0 := ((AtL.new w [v] 35).alloc (.cells [.string url, vr, .int .i64 now].toArray 37)).alloc (.cells (eeC y).toArray 40)
  have Q0 := (AtL.new (w.alloc (.cells [v].toArray 35)) [.string url, vr, .int .i64 now] 37).alloc (.cells (eeC y).toArray 40)
  rw [show (w.alloc (.cells [v].toArray 35)).heap.size = w.heap.size + 1 by simp] at Q0
  have E0 := AtL.new ((w.alloc (.cells [v].toArray 35)).alloc (.cells [.string url, vr, .int .i64 now].toArray 37)) (eeC y) 40
  rw [show ((w.alloc (.cells [v].toArray 35)).alloc (.cells [.string url, vr, .int .i64 now].toArray 37)).heap.size = w.heap.size + 1 + 1 by simp] at E0
  have CF := Lib.hid (fit_is43 _ (hM.below hb0 (Nat.le_refl _)))
  obtain ⟨R, hR⟩ : ∃ R, fewA (l.map (·.2)) rq = R := ⟨_, rfl⟩
  obtain ⟨A, hA⟩ : ∃ A, attrB y.2.hd = A := ⟨_, rfl⟩
  have CW := Lib.hid (fun (w' : World) (hb : Below w.heap.size w w') => few_is l v url rq vr now w' (hv.below hb (Nat.le_refl _)) (fun x hx => (hr x hx).below hb (Nat.le_refl _)) (hq.below hb (Nat.le_refl _)) hz hzq R hR)
  have CH := Lib.hid (fun (w' : World) (hb : Below w.heap.size w w') => attrs_is y.2.hd y.1.hv w' (hy.hd.below hb (Nat.le_refl _)) hzy.2.1 A hA)
  have HV := Lib.hid hv
  have HRD := Lib.hid hr
  have HQ := Lib.hid hq
  have HMM := Lib.hid hM
  have HH : Hid (SlK hdC 2 w y.1.hv y.2.hd) := Lib.hid hy.hd
  have HYD : Hid (y.1.st = y.2.st ∧ y.1.bo = y.2.bo ∧ y.1.ti = y.2.ti) := Lib.hid ⟨hy.st, hy.bo, hy.ti⟩
  obtain ⟨sa, sc, rfl, _⟩ := hv.shape
  obtain ⟨sb, sd, rfl, _⟩ := hq.shape
  obtain ⟨⟨a1, n1, k1, e1⟩, a2, n2, k2, e2⟩ := hy.shp
  obtain ⟨⟨u, vv, st, hh, bo, ti⟩, ⟨u', va, st', hd, bo', ti'⟩⟩ := y
  have e1 : vv = .slice a1 n1 k1 := e1
  have e2 : hh = .slice a2 n2 k2 := e2
  subst e1 e2
  have hzy2 : WtH hd := hzy.2.1
  clear hv hr hq hy hM hz hzy
  have c0 := C0.c 0 rfl
  have q0 := Q0.c 0 rfl; have q1 := Q0.c 1 rfl; have q2 := Q0.c 2 rfl
  have z0 := E0.c 0 rfl; have z1 := E0.c 1 rfl; have z2 := E0.c 2 rfl; have z3 := E0.c 3 rfl; have z4 := E0.c 4 rfl; have z5 := E0.c 5 rfl
  have cl := C0.lt
  have ql := Q0.lt
  have el := E0.lt
  cases R with
  | false =>
    clear hR hA CH
    go_enter Tryz.func5, Tryz.ntmps5
    go_wp2_with (first
      | (go_at_call 10; (with_reducible refine CF.out.mono ?_); rintro e w1 ⟨rfl, hb1⟩; have C1 := C0.next hb1; have Q1 := Q0.next hb1; have E1 := E0.next hb1; have hB1 := hb0.trans (hb1.mono hb0.size); clear c0 q0 q1 q2 z0 z1 z2 z3 z4 z5; have c0 := C1.c 0 rfl; have q0 := Q1.c 0 rfl; have q1 := Q1.c 1 rfl; have q2 := Q1.c 2 rfl; have z0 := E1.c 0 rfl; have z1 := E1.c 1 rfl; have z2 := E1.c 2 rfl; have z3 := E1.c 3 rfl; have z4 := E1.c 4 rfl; have z5 := E1.c 5 rfl; have l1 := C1.lt; have m1 := Q1.lt; have o1 := E1.lt)
      | (go_at_call 20; (with_reducible refine (CW.out _ hB1).mono ?_); rintro e w2 ⟨rfl, hb2⟩; have C2 := C1.next hb2; have Q2 := Q1.next hb2; have E2 := E1.next hb2; have hB2 := hB1.trans (hb2.mono hB1.size); clear c0 q0 q1 q2 z0 z1 z2 z3 z4 z5; have c0 := C2.c 0 rfl; have q0 := Q2.c 0 rfl; have q1 := Q2.c 1 rfl; have q2 := Q2.c 2 rfl; have z0 := E2.c 0 rfl; have z1 := E2.c 1 rfl; have z2 := E2.c 2 rfl; have z3 := E2.c 3 rfl; have z4 := E2.c 4 rfl; have z5 := E2.c 5 rfl; have l2 := C2.lt; have m2 := Q2.lt; have o2 := E2.lt)
      )
    go_ret
    exact ⟨rfl, hB2⟩
  | true =>
    cases A with
    | false =>
      clear hR hA
      go_enter Tryz.func5, Tryz.ntmps5
      go_wp2_with (first
        | (go_at_call 10; (with_reducible refine CF.out.mono ?_); rintro e w1 ⟨rfl, hb1⟩; have C1 := C0.next hb1; have Q1 := Q0.next hb1; have E1 := E0.next hb1; have hB1 := hb0.trans (hb1.mono hb0.size); clear c0 q0 q1 q2 z0 z1 z2 z3 z4 z5; have c0 := C1.c 0 rfl; have q0 := Q1.c 0 rfl; have q1 := Q1.c 1 rfl; have q2 := Q1.c 2 rfl; have z0 := E1.c 0 rfl; have z1 := E1.c 1 rfl; have z2 := E1.c 2 rfl; have z3 := E1.c 3 rfl; have z4 := E1.c 4 rfl; have z5 := E1.c 5 rfl; have l1 := C1.lt; have m1 := Q1.lt; have o1 := E1.lt)
        | (go_at_call 20; (with_reducible refine (CW.out _ hB1).mono ?_); rintro e w2 ⟨rfl, hb2⟩; have C2 := C1.next hb2; have Q2 := Q1.next hb2; have E2 := E1.next hb2; have hB2 := hB1.trans (hb2.mono hB1.size); clear c0 q0 q1 q2 z0 z1 z2 z3 z4 z5; have c0 := C2.c 0 rfl; have q0 := Q2.c 0 rfl; have q1 := Q2.c 1 rfl; have q2 := Q2.c 2 rfl; have z0 := E2.c 0 rfl; have z1 := E2.c 1 rfl; have z2 := E2.c 2 rfl; have z3 := E2.c 3 rfl; have z4 := E2.c 4 rfl; have z5 := E2.c 5 rfl; have l2 := C2.lt; have m2 := Q2.lt; have o2 := E2.lt)
        | (go_at_call 11; (with_reducible refine (CH.out _ hB2).mono ?_); rintro e w3 ⟨rfl, hb3⟩; have C3 := C2.next hb3; have Q3 := Q2.next hb3; have E3 := E2.next hb3; have hB3 := hB2.trans (hb3.mono hB2.size); clear c0 q0 q1 q2 z0 z1 z2 z3 z4 z5; have c0 := C3.c 0 rfl; have q0 := Q3.c 0 rfl; have q1 := Q3.c 1 rfl; have q2 := Q3.c 2 rfl; have z0 := E3.c 0 rfl; have z1 := E3.c 1 rfl; have z2 := E3.c 2 rfl; have z3 := E3.c 3 rfl; have z4 := E3.c 4 rfl; have z5 := E3.c 5 rfl; have l3 := C3.lt; have m3 := Q3.lt; have o3 := E3.lt)
        )
      go_ret
      exact ⟨rfl, hB3⟩
    | true =>
      obtain ⟨hok, h12, hqq⟩ := fewA_sz hR
      have hzq' : HdSz rq := (attrB_sz hqq).1
      have hzh : HdSz hd := (attrB_sz hA).1
      have hok2 : ∀ x ∈ l, HdSz x.2.va ∧ HdSz x.2.hd ∧ x.2.bo.size ≤ 500 := fun x hx => okE_sz (hok _ (List.mem_map_of_mem hx))
      have HOK := Lib.hid hok2
      have hl12 : l.length ≤ 12 := by simpa using h12
      have HLX : Hid (∀ lx : List Ee, lx.map (·.2) = l.map (·.2) → ∀ x ∈ lx, HdSz x.2.va ∧ HdSz x.2.hd) := Lib.hid (fun lx h x hx => by
        have h1 : x.2 ∈ l.map (·.2) := by rw [← h]; exact List.mem_map_of_mem hx
        obtain ⟨z, hz, he⟩ := List.mem_map.1 h1
        rw [← he]; exact ⟨(hok2 z hz).1, (hok2 z hz).2.1⟩)
      have HLN : Hid (∀ lx : List Ee, lx.map (·.2) = l.map (·.2) → lx.length ≤ 1000) := Lib.hid (fun lx h => by have := congrArg List.length h; simp at this; omega)
      have CC := Lib.hid (fun (w' : World) (hb : Below w.heap.size w w') => clone_is43 l (.slice sa l.length sc) w' (HV.out.below hb (Nat.le_refl _)) (fun x hx => (HRD.out x hx).below hb (Nat.le_refl _)) (fun x hx => ⟨(hok2 x hx).1.1, (hok2 x hx).2.1.1⟩) (by omega) _ rfl)
      clear hR hA hok h12 hqq hok2
      obtain ⟨S, hS⟩ : ∃ S, storL st rq hd = S := ⟨_, rfl⟩
      have CLc := Lib.hid (fun (w' : World) (hb : Below w.heap.size w w') => lcp_is hd (.slice a2 n2 k2) w' (HH.out.below hb (Nat.le_refl _)) hzh.1)
      have CP := Lib.hid (fun (w' : World) (jb B : Nat) (a : Option Addr) (k : Nat) (lx : List Ee) (vh : Value) (hlx : lx.map (·.2) = l.map (·.2)) (hb : Below w.heap.size w w') (hjB : B ≤ jb) (hwB : w.heap.size ≤ B) (hJ : CaIn w' jb B (.slice a lx.length k) lx) (hh : SlK hdC 2 w' vh hd) (hfh : FarV hd vh jb (Value.slice a lx.length k).ownBlock) =>
        put_any jb B _ lx w' (HMM.out.below hb (Nat.le_refl _)) (Nat.lt_of_lt_of_le HMM.out.lt hwB) hjB hJ (fun x hx => (HLX.out lx hlx x hx).1) (HLN.out lx hlx) url rq hd (.slice sb rq.length sd) vh (HQ.out.below hb (Nat.le_refl _)) hh hzq' hzh (far_old HQ.out (Nat.le_trans hwB hjB) (fun g e => Nat.le_trans hwB (own_base hJ.own e))) hfh st bo now S hS _ (by rw [hlx]))
      have CR := Lib.hid (fun (w' : World) (hb : Below w.heap.size w w') => rput_is l (.slice sa l.length sc) url st hd (.slice a2 n2 k2) bo now rq (.slice sb rq.length sd) w' (HV.out.below hb (Nat.le_refl _)) (fun x hx => (HRD.out x hx).below hb (Nat.le_refl _)) (fun x hx => (HOK.out x hx).1) (by omega) (HH.out.below hb (Nat.le_refl _)) hzh (HQ.out.below hb (Nat.le_refl _)) hzq' S hS _ rfl)
      clear hS
      go_enter Tryz.func5, Tryz.ntmps5
      go_upto_region 6 with (first
        | (go_at_call 10; (with_reducible refine CF.out.mono ?_); rintro e w1 ⟨rfl, hb1⟩; have C1 := C0.next hb1; have Q1 := Q0.next hb1; have E1 := E0.next hb1; have hB1 := hb0.trans (hb1.mono hb0.size); clear c0 q0 q1 q2 z0 z1 z2 z3 z4 z5; have c0 := C1.c 0 rfl; have q0 := Q1.c 0 rfl; have q1 := Q1.c 1 rfl; have q2 := Q1.c 2 rfl; have z0 := E1.c 0 rfl; have z1 := E1.c 1 rfl; have z2 := E1.c 2 rfl; have z3 := E1.c 3 rfl; have z4 := E1.c 4 rfl; have z5 := E1.c 5 rfl; have l1 := C1.lt; have m1 := Q1.lt; have o1 := E1.lt)
        | (go_at_call 20; (with_reducible refine (CW.out _ hB1).mono ?_); rintro e w2 ⟨rfl, hb2⟩; have C2 := C1.next hb2; have Q2 := Q1.next hb2; have E2 := E1.next hb2; have hB2 := hB1.trans (hb2.mono hB1.size); clear c0 q0 q1 q2 z0 z1 z2 z3 z4 z5; have c0 := C2.c 0 rfl; have q0 := Q2.c 0 rfl; have q1 := Q2.c 1 rfl; have q2 := Q2.c 2 rfl; have z0 := E2.c 0 rfl; have z1 := E2.c 1 rfl; have z2 := E2.c 2 rfl; have z3 := E2.c 3 rfl; have z4 := E2.c 4 rfl; have z5 := E2.c 5 rfl; have l2 := C2.lt; have m2 := Q2.lt; have o2 := E2.lt)
        | (go_at_call 11; (with_reducible refine (CH.out _ hB2).mono ?_); rintro e w3 ⟨rfl, hb3⟩; have C3 := C2.next hb3; have Q3 := Q2.next hb3; have E3 := E2.next hb3; have hB3 := hB2.trans (hb3.mono hB2.size); clear c0 q0 q1 q2 z0 z1 z2 z3 z4 z5; have c0 := C3.c 0 rfl; have q0 := Q3.c 0 rfl; have q1 := Q3.c 1 rfl; have q2 := Q3.c 2 rfl; have z0 := E3.c 0 rfl; have z1 := E3.c 1 rfl; have z2 := E3.c 2 rfl; have z3 := E3.c 3 rfl; have z4 := E3.c 4 rfl; have z5 := E3.c 5 rfl; have l3 := C3.lt; have m3 := Q3.lt; have o3 := E3.lt)
        | (go_at_call 23; (with_reducible refine (CC.out _ hB3).mono ?_); rintro e w4 hq; obtain ⟨jb, ja, jc, lx, rfl, hjb, hJ, hlx, hb4⟩ := hq; have C4 := C3.next hb4; have Q4 := Q3.next hb4; have E4 := E3.next hb4; have hB4 := hB3.trans (hb4.mono hB3.size); clear c0 q0 q1 q2 z0 z1 z2 z3 z4 z5; have c0 := C4.c 0 rfl; have q0 := Q4.c 0 rfl; have q1 := Q4.c 1 rfl; have q2 := Q4.c 2 rfl; have z0 := E4.c 0 rfl; have z1 := E4.c 1 rfl; have z2 := E4.c 2 rfl; have z3 := E4.c 3 rfl; have z4 := E4.c 4 rfl; have z5 := E4.c 5 rfl; have l4 := C4.lt; have m4 := Q4.lt; have o4 := E4.lt)
        )
      obtain ⟨C, hC⟩ : ∃ C, w.heap.size = C := ⟨_, rfl⟩
      obtain ⟨Q, hQ⟩ : ∃ Q, C + 1 = Q := ⟨_, rfl⟩
      obtain ⟨E, hE⟩ : ∃ E, C + 1 + 1 = E := ⟨_, rfl⟩
      obtain ⟨B, hB⟩ : ∃ B, w3.heap.size = B := ⟨_, rfl⟩
      rw [hC] at C4 Q4 E4 l3 m3 o3
      rw [hE] at E4 o3
      rw [hQ] at Q4 m3
      rw [hB] at hjb l3 m3 o3 hJ
      rw [hC, hE, hQ]
      have HCC := Lib.hid hC
      have hwB : w.heap.size ≤ B := by omega
      have hCB : C < B := l3
      have hQB : Q < B := m3
      have hEB : E < B := o3
      have HJ := Lib.hid hJ
      have HLXE := Lib.hid hlx
      have HB4 := Lib.hid hB4
      clear hC hQ hE hB hJ hlx hB4 C0 Q0 E0 C1 C2 C3 Q1 Q2 Q3 E1 E2 E3 hb0 hb1 hb2 hb3 hB1 hB2 hB3 cl ql el l1 m1 o1 l2 m2 o2 l3 m3 o3 l4 m4 o4 c0 q0 q1 q2 z0 z1 z2 z3 z4 z5
      have c0 := C4.c 0 rfl
      have q0 := Q4.c 0 rfl; have q1 := Q4.c 1 rfl; have q2 := Q4.c 2 rfl
      have z0 := E4.c 0 rfl; have z1 := E4.c 1 rfl; have z2 := E4.c 2 rfl; have z3 := E4.c 3 rfl; have z4 := E4.c 4 rfl; have z5 := E4.c 5 rfl
      have l4 := C4.lt
      have m4 := Q4.lt
      have o4 := E4.lt
      go_region_held3 (fun w' => w'.cell? ⟨Q, 0, none⟩ = some (.string url) ∧ w'.cell? ⟨Q, 1, none⟩ = some (.slice sb rq.length sd) ∧ w'.cell? ⟨Q, 2, none⟩ = some (.int .i64 now) ∧ w'.cell? ⟨E, 2, none⟩ = some (.int .i64 st) ∧ w'.cell? ⟨E, 3, none⟩ = some (.slice a2 n2 k2) ∧ w'.cell? ⟨E, 4, none⟩ = some (.string bo))
        (first | exact s6_mk Q4 E4 (Below.refl _ w4).drew | exact s6_mk Q4 E4 hb5 | exact s6_mk Q6 E6 (Below.refl _ w6) | go_keep)
        (first
          | (go_at_call 30; (with_reducible refine (CLc.out _ HB4.out.drew).mono ?_); rintro e w5 hq5; obtain ⟨a5, c5, rfl, hs5, hbb5, hn5⟩ := cloq_open hq5; clear hq5; have hb5 := (Below.refl _ w4).drew.trans hbb5; have HB5 := Lib.hid (HB4.out.trans (hb5.mono HB4.out.size)); have J5 := HJ.out.below hb5 (Nat.le_refl _); have HJ5 := Lib.hid J5; have HF5 : Hid (FarV hd (.slice a5 hd.length c5) jb (Value.slice ja lx.length jc).ownBlock) := Lib.hid (far_new (N := w4.heap.size) (fun b off n k e => by have := hn5 b off n k e; simpa using this) HJ.out.at_.lt (hown_lt HJ.out.own)); have HS5 := Lib.hid hs5; have Q5 := Q4.next hb5; have E5 := E4.next hb5; clear J5 hs5 hn5)
          | (go_at_call 29; (with_reducible refine (CP.out _ _ _ _ _ _ _ HLXE.out HB5.out hjb hwB HJ5.out HS5.out HF5.out).mono ?_); rintro e w6 hq6; obtain ⟨rfl, lp, hto6, hlp⟩ := hq6; have hlow6 := hto6.lowB HJ5.out hjb; obtain ⟨a6, c6, J6, -, hR6⟩ := hto6.out; have HJ6 := Lib.hid J6; have HLP := Lib.hid hlp; have HB6 := Lib.hid (HB5.out.trans (hlow6.mono hwB)); have Q6 := Q5.below hlow6 hQB; have E6 := E5.below hlow6 hEB; have C6 := (C4.next hb5).below hlow6 hCB; clear hto6 J6 hlp))
      clear c0 q0 q1 q2 z0 z1 z2 z3 z4 z5 l4 m4 o4
      have c0 := C6.c 0 rfl
      have q0 := Q6.c 0 rfl; have q1 := Q6.c 1 rfl; have q2 := Q6.c 2 rfl
      have z0 := E6.c 0 rfl; have z1 := E6.c 1 rfl; have z2 := E6.c 2 rfl; have z3 := E6.c 3 rfl; have z4 := E6.c 4 rfl; have z5 := E6.c 5 rfl
      have l6 := C6.lt
      have m6 := Q6.lt
      have o6 := E6.lt
      have j6 := HJ6.out.at_.c 0 rfl
      have jl6 := HJ6.out.at_.lt
      have hlpl : lp.length ≤ 1000000 := by
        have h1 := congrArg List.length HLP.out
        have h2 : (keepE (l.map (·.2)) url rq).length ≤ (l.map (·.2)).length := List.length_filter_le _ _
        rw [List.length_map, List.length_append] at h1
        rw [List.length_map] at h2
        have h3 : (if S = true then [(⟨url, varyE rq hd, st, hd, bo, now⟩ : En)] else []).length ≤ 1 := by split <;> simp
        omega
      have hlpz : ∀ x ∈ lp, x.2.va.length ≤ 1000000 ∧ x.2.hd.length ≤ 1000000 := fun x hx => by
        have h1 : x.2 ∈ putEs (l.map (·.2)) url rq st hd bo now S := by rw [← HLP.out]; exact List.mem_map_of_mem hx
        rcases List.mem_append.1 h1 with h2 | h2
        · obtain ⟨z, hz, he⟩ := List.mem_map.1 (List.mem_filter.1 h2).1
          rw [← he]; exact ⟨(HOK.out z hz).1.1, (HOK.out z hz).2.1.1⟩
        · cases S with
          | false => simp at h2
          | true =>
            have h2 : x.2 = ⟨url, varyE rq hd, st, hd, bo, now⟩ := by simpa using h2
            rw [h2]; exact ⟨varyE_len rq hd hzh, hzh.1⟩
      have HPZ := Lib.hid hlpz
      clear hlpz
      go_wp2_with (first
        | (go_at_call 31; (with_reducible refine (CR.out _ HB6.out).mono ?_); rintro e w7 hq7; obtain ⟨a7, c7, lo, rfl, hs7, hr7, hm7, hb7⟩ := hq7; have J7 := HJ6.out.below hb7 (Nat.le_refl _); have HJ7 := Lib.hid J7; clear j6; have j6 := J7.at_.c 0 rfl; have jl7 := J7.at_.lt; have CS := Lib.hid (sameL lp lo (HLP.out.trans hm7.symm) _ _ w7 J7.reads hs7 J7.rd hr7 HPZ.out hlpl); have HB7 := Lib.hid (HB6.out.trans (hb7.mono HB6.out.size)); clear J7 hs7 hr7 hm7)
        | (go_at_call 28; (with_reducible refine CS.out.mono ?_); rintro e w8 ⟨rfl, hb8⟩; have HB8 := Lib.hid (HB7.out.trans (hb8.mono HB7.out.size))))
      go_ret
      exact ⟨rfl, HB8.out⟩
end Go.Proofs.YtkobhknggamejaaGreatDoor
