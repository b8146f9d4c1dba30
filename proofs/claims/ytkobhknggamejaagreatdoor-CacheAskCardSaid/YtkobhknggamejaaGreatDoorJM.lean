/- CacheAsk: the law. -/
import Derived.Test.YtkobhknggamejaaGreatDoorJL
namespace Go.Proofs.YtkobhknggamejaaGreatDoor
set_option linter.unusedVariables false
set_option linter.unusedSimpArgs false
open Go.RowKit

theorem er7_mk {W w' : World} {A Q : Nat} {a b c d e f p q r : Value} (h : AtL W A [a, b, c, d, e, f]) (h2 : AtL W Q [p, q, r]) (hb : Below W.heap.size W w') : w'.cell? ⟨A, 0, none⟩ = some a ∧ w'.cell? ⟨A, 1, none⟩ = some b ∧ w'.cell? ⟨A, 2, none⟩ = some c ∧ w'.cell? ⟨A, 3, none⟩ = some d ∧ w'.cell? ⟨A, 4, none⟩ = some e ∧ w'.cell? ⟨A, 5, none⟩ = some f ∧ w'.cell? ⟨Q, 2, none⟩ = some r :=
  ⟨(brl hb _ _ h.lt).trans (h.c 0 rfl), (brl hb _ _ h.lt).trans (h.c 1 rfl), (brl hb _ _ h.lt).trans (h.c 2 rfl), (brl hb _ _ h.lt).trans (h.c 3 rfl), (brl hb _ _ h.lt).trans (h.c 4 rfl), (brl hb _ _ h.lt).trans (h.c 5 rfl), (brl hb _ _ h2.lt).trans (h2.c 2 rfl)⟩
set_option maxRecDepth 20000 in
set_option maxHeartbeats 8000000 in
theorem cacheask_law (l : List Ee) (v : Value) (url : ByteArray) (vr : Value) (now : Int) (rq : List Hd) (w : World) (hM : MaxAt w) (hv : SlK eeC 6 w v l) (hr : ∀ x ∈ l, Rd w x.1 x.2) (hz : ∀ x ∈ l, WtE x.2) (hq : SlK hdC 2 w vr rq) (hzq : WtH rq) :
    Calls Tryz.prog 4 #[.agg #[v], .agg #[.string url, vr, .int .i64 now]] w fun e w' => e = .returned (.bool true) ∧ Below w.heap.size w w' := by
  have hb0 : Below w.heap.size w ((w.alloc (.cells [v].toArray 35)).alloc (.cells [.string url, vr, .int .i64 now].toArray 37)) := ((Below.refl _ w).alloc (Nat.le_refl _) _).alloc (by simp) _
  have C0 := (AtL.new w [v] 35).alloc (.cells [.string url, vr, .int .i64 now].toArray 37)
  have Q0 := AtL.new (w.alloc (.cells [v].toArray 35)) [.string url, vr, .int .i64 now] 37
  rw [show (w.alloc (.cells [v].toArray 35)).heap.size = w.heap.size + 1 by simp] at Q0
  have CF := Lib.hid (fit_is43 _ (hM.below hb0 (Nat.le_refl _)))
  obtain ⟨R, hR⟩ : ∃ R, fewA (l.map (·.2)) rq = R := ⟨_, rfl⟩
  have CW := Lib.hid (fun (w' : World) (hb : Below w.heap.size w w') => few_is l v url rq vr now w' (hv.below hb (Nat.le_refl _)) (fun x hx => (hr x hx).below hb (Nat.le_refl _)) (hq.below hb (Nat.le_refl _)) hz hzq R hR)
  have HV := Lib.hid hv
  have HRD := Lib.hid hr
  have HQ := Lib.hid hq
  have HMM := Lib.hid hM
  obtain ⟨sa, sc, rfl, _⟩ := hv.shape
  obtain ⟨sb, sd, rfl, _⟩ := hq.shape
  clear hv hr hq hM hz hzq
  have c0 := C0.c 0 rfl
  have q0 := Q0.c 0 rfl; have q1 := Q0.c 1 rfl; have q2 := Q0.c 2 rfl
  have cl := C0.lt
  have ql := Q0.lt
  cases R with
  | false =>
    clear hR
    go_enter Tryz.func4, Tryz.ntmps4
    go_wp2_with (first
      | (go_at_call 10; (with_reducible refine CF.out.mono ?_); rintro e w1 ⟨rfl, hb1⟩; have C1 := C0.next hb1; have Q1 := Q0.next hb1; have hB1 := hb0.trans (hb1.mono hb0.size); clear c0 q0 q1 q2; have c0 := C1.c 0 rfl; have q0 := Q1.c 0 rfl; have q1 := Q1.c 1 rfl; have q2 := Q1.c 2 rfl; have l1 := C1.lt; have m1 := Q1.lt)
      | (go_at_call 20; (with_reducible refine (CW.out _ hB1).mono ?_); rintro e w2 ⟨rfl, hb2⟩; have C2 := C1.next hb2; have Q2 := Q1.next hb2; have hB2 := hB1.trans (hb2.mono hB1.size); clear c0 q0 q1 q2; have c0 := C2.c 0 rfl; have q0 := Q2.c 0 rfl; have q1 := Q2.c 1 rfl; have q2 := Q2.c 2 rfl; have l2 := C2.lt; have m2 := Q2.lt)
      )
    go_ret
    exact ⟨rfl, hB2⟩
  | true =>
    obtain ⟨hok, h12, hqq⟩ := fewA_sz hR
    have hzq' : HdSz rq := (attrB_sz hqq).1
    have hok2 : ∀ x ∈ l, HdSz x.2.va ∧ HdSz x.2.hd ∧ x.2.bo.size ≤ 500 := fun x hx => okE_sz (hok _ (List.mem_map_of_mem hx))
    have HOK := Lib.hid hok2
    have hl12 : l.length ≤ 12 := by simpa using h12
    have HLX : Hid (∀ lx : List Ee, lx.map (·.2) = l.map (·.2) → ∀ x ∈ lx, HdSz x.2.va ∧ HdSz x.2.hd) := Lib.hid (fun lx h x hx => by
      have h1 : x.2 ∈ l.map (·.2) := by rw [← h]; exact List.mem_map_of_mem hx
      obtain ⟨z, hz, he⟩ := List.mem_map.1 h1
      rw [← he]; exact ⟨(hok2 z hz).1, (hok2 z hz).2.1⟩)
    have HLN : Hid (∀ lx : List Ee, lx.map (·.2) = l.map (·.2) → lx.length ≤ 1000) := Lib.hid (fun lx h => by have := congrArg List.length h; simp at this; omega)
    have CC := Lib.hid (fun (w' : World) (hb : Below w.heap.size w w') => clone_is43 l (.slice sa l.length sc) w' (HV.out.below hb (Nat.le_refl _)) (fun x hx => (HRD.out x hx).below hb (Nat.le_refl _)) (fun x hx => ⟨(hok2 x hx).1.1, (hok2 x hx).2.1.1⟩) (by omega) _ rfl)
    clear hR hok h12 hqq hok2
    obtain ⟨k, en, hs, j, hPl, hen1, hen2, hhs⟩ := plan_ex l url rq now (fun x hx => ⟨(HOK.out x hx).1, (HOK.out x hx).2.1⟩) (by omega) hzq'
    have HP1 := Lib.hid hPl.1
    have HP2 := Lib.hid hPl.2
    clear hPl
    go_enter Tryz.func4, Tryz.ntmps4
    go_upto_region 5 with (first
      | (go_at_call 10; (with_reducible refine CF.out.mono ?_); rintro e w1 ⟨rfl, hb1⟩; have C1 := C0.next hb1; have Q1 := Q0.next hb1; have hB1 := hb0.trans (hb1.mono hb0.size); clear c0 q0 q1 q2; have c0 := C1.c 0 rfl; have q0 := Q1.c 0 rfl; have q1 := Q1.c 1 rfl; have q2 := Q1.c 2 rfl; have l1 := C1.lt; have m1 := Q1.lt)
      | (go_at_call 20; (with_reducible refine (CW.out _ hB1).mono ?_); rintro e w2 ⟨rfl, hb2⟩; have C2 := C1.next hb2; have Q2 := Q1.next hb2; have hB2 := hB1.trans (hb2.mono hB1.size); clear c0 q0 q1 q2; have c0 := C2.c 0 rfl; have q0 := Q2.c 0 rfl; have q1 := Q2.c 1 rfl; have q2 := Q2.c 2 rfl; have l2 := C2.lt; have m2 := Q2.lt)
      )
    obtain ⟨C, hC⟩ : ∃ C, w.heap.size = C := ⟨_, rfl⟩
    obtain ⟨Q, hQ⟩ : ∃ Q, C + 1 = Q := ⟨_, rfl⟩
    rw [hC] at C2 Q2 l2 m2
    rw [hQ] at Q2 m2
    rw [hC, hQ]
    have HCC := Lib.hid hC
    have hC2 : C < w2.heap.size := l2
    have hQ2 : Q < w2.heap.size := m2
    have HB2 := Lib.hid hB2
    have hB2z : w.heap.size ≤ w2.heap.size := hB2.size
    have HC2 := Lib.hid (ee_cells (HV.out.below hB2 (Nat.le_refl _)) rfl)
    clear hC hQ C0 Q0 C1 Q1 hb0 hb1 hb2 hB1 hB2 cl ql l1 m1 l2 m2 c0 q0 q1 q2
    have c0 := C2.c 0 rfl
    have q0 := Q2.c 0 rfl; have q1 := Q2.c 1 rfl; have q2 := Q2.c 2 rfl
    have l2 := C2.lt
    have m2 := Q2.lt
    go_wp2_with fail
    go_loopw [20] (fun iv wr => ∃ kk : Nat, kk ≤ l.length ∧ iv = .int .i64 kk ∧ Below w2.heap.size w2 wr) (fun iv _ => l.length - (intOf iv).toNat)
    case atStart => exact ⟨0, Nat.zero_le _, rfl, Below.refl _ _⟩
    case round =>
      obtain ⟨kk, hk, rfl, hbw⟩ := hrel
      have hws := hbw.size
      by_cases hlt : kk < l.length
      · obtain ⟨b0, off, rfl, hb0', hcell⟩ := HC2.out (by omega)
        have cc : ∀ j u, (eeC l[kk])[j]? = some u → wr.cell? ⟨b0, off + kk * 6 + j, none⟩ = some u := fun j u hu => (brl hbw _ _ hb0').trans (hcell kk hlt j u hu)
        have hmem : l[kk] ∈ l := List.getElem_mem hlt
        have hrd := (HRD.out _ hmem).below (HB2.out.trans (hbw.mono hB2z)) (Nat.le_refl _)
        have hzz := (HOK.out _ hmem).2.1
        obtain ⟨y2, hy2⟩ : ∃ y2, l[kk] = y2 := ⟨_, rfl⟩
        rw [hy2] at cc hrd hzz
        obtain ⟨⟨a1', n1', k1', f1⟩, a2', n2', k2', f2⟩ := hrd.shp
        have hkl : (kk : Int) < (l.length : Int) := by omega
        have hM3 := HMM.out.below (HB2.out.trans (hbw.mono hB2z)) (Nat.le_refl _)
        have hal := (Below.refl _ wr).alloc (Nat.le_refl _) (.cells (eeC y2).toArray 40)
        have X5 := AtL.new wr (eeC y2) 40
        have hrd5 := hrd.below hal (Nat.le_refl _)
        have hM5 := hM3.below hal (Nat.le_refl _)
        have Q5 := (Q2.next hbw).next hal
        have hbw5 := hbw.trans (hal.mono hws)
        obtain ⟨F, hF⟩ : ∃ F, freshE y2.2 now = F := ⟨_, rfl⟩
        have C1 := Lib.hid (fun (w' : World) hM hr => fresh_is y2.1 y2.2 now w' hM hr hzz F hF)
        have C2 := Lib.hid (fun (w' : World) hM hr => rfresh_is y2.1 y2.2 now w' hM hr hzz F hF)
        clear hcell hmem hy2 hrd hF hM3 hzz
        obtain ⟨⟨u2, vv2, st2, hh2, bo2, ti2⟩, ex⟩ := y2
        have f1 : vv2 = .slice a1' n1' k1' := f1
        have f2 : hh2 = .slice a2' n2' k2' := f2
        subst f1 f2
        obtain ⟨d0, d1, d2, d3, d4, d5⟩ := e6_mk cc
        clear cc c0 q0 q1 q2
        go_upto_region 8 with fail
        obtain ⟨W5, hW5⟩ : ∃ W5 : World, wr.alloc (.cells (eeC (⟨u2, .slice a1' n1' k1', st2, .slice a2' n2' k2', bo2, ti2⟩, ex)).toArray 40) = W5 := ⟨_, rfl⟩
        obtain ⟨N, hN⟩ : ∃ N, wr.heap.size = N := ⟨_, rfl⟩
        rw [hW5] at X5 Q5 hrd5 hM5 hbw5
        rw [hN] at X5
        rw [show wr.alloc (.cells #[.string u2, .slice a1' n1' k1', .int .i64 st2, .slice a2' n2' k2', .string bo2, .int .i64 ti2] 40) = W5 from hW5, hN]
        clear hW5 hN hal d0 d1 d2 d3 d4 d5
        have x0 := X5.c 0 rfl; have x1 := X5.c 1 rfl; have x2 := X5.c 2 rfl; have x3 := X5.c 3 rfl; have x4 := X5.c 4 rfl; have x5 := X5.c 5 rfl
        have q2 := Q5.c 2 rfl
        have xl5 := X5.lt
        have ql5 := Q5.lt
        have hMd := hM5.below (Below.refl _ W5).drew (Nat.le_refl _)
        have hrdd := hrd5.below (Below.refl _ W5).drew (Nat.le_refl _)
        go_region_held3 (fun w' => w'.cell? ⟨N, 0, none⟩ = some (.string u2) ∧ w'.cell? ⟨N, 1, none⟩ = some (.slice a1' n1' k1') ∧ w'.cell? ⟨N, 2, none⟩ = some (.int .i64 st2) ∧ w'.cell? ⟨N, 3, none⟩ = some (.slice a2' n2' k2') ∧ w'.cell? ⟨N, 4, none⟩ = some (.string bo2) ∧ w'.cell? ⟨N, 5, none⟩ = some (.int .i64 ti2) ∧ w'.cell? ⟨Q, 2, none⟩ = some (.int .i64 now))
          (first | exact er7_mk X5 Q5 (Below.refl _ W5).drew | exact er7_mk X5 Q5 hb6 | exact er7_mk X5 Q5 hb7 | go_keep)
          (first
            | (go_at_call 21; (with_reducible refine (C1.out _ hMd hrdd).mono ?_); rintro e w6 ⟨rfl, hbb6⟩; have hb6 := (Below.refl _ W5).drew.trans hbb6; have hM6 := hM5.below hb6 (Nat.le_refl _); have hrd6 := hrd5.below hb6 (Nat.le_refl _))
            | (go_at_call 22; (with_reducible refine (C2.out _ hM6 hrd6).mono ?_); rintro e w7 ⟨rfl, hbb7⟩; have hb7 := hb6.trans (hbb7.mono hb6.size)))
        go_wp2_with fail
        go_roundw
        case rel => exact ⟨kk + 1, by omega, by go_num, hbw5.trans (hb7.mono hbw5.size)⟩
        case measure => simp [intOf]; omega
      · obtain rfl : kk = l.length := by omega
        have C3 := C2.next hbw
        have Q3 := Q2.next hbw
        have hB3 := HB2.out.trans (hbw.mono hB2z)
        clear c0 q0 q1 q2
        have c0 := C3.c 0 rfl
        have q0 := Q3.c 0 rfl; have q1 := Q3.c 1 rfl; have q2 := Q3.c 2 rfl
        have l3 := C3.lt
        have m3 := Q3.lt
        go_upto_region 12 with (first
          | (go_at_call 23; (with_reducible refine (CC.out _ hB3).mono ?_); rintro e w4 hq4; obtain ⟨jb, ja, jc, lx, rfl, hjb, hJ, hlx, hb4⟩ := hq4; have C4 := C3.next hb4; have Q4 := Q3.next hb4; have hB4 := hB3.trans (hb4.mono hB3.size)))
        obtain ⟨B, hB⟩ : ∃ B, wr.heap.size = B := ⟨_, rfl⟩
        rw [hB] at hjb hJ l3 m3
        have hwB : w.heap.size ≤ B := by have := hB3.size; omega
        have hCB : C < B := l3
        have hQB : Q < B := m3
        have HJ := Lib.hid hJ
        have HLXE := Lib.hid hlx
        have HB4 := Lib.hid hB4
        have HKK := Lib.hid (mvL_map (fun x : Ee => x.2) j lx)
        have HKL := Lib.hid (mvL_map (fun x : Ee => x.2) j l)
        clear c0 q0 q1 q2 hB hJ hlx hB4 hb4 hB3 hbw C3 Q3 C2 Q2 l2 m2 l3 m3
        have c0 := C4.c 0 rfl
        have q0 := Q4.c 0 rfl; have q1 := Q4.c 1 rfl; have q2 := Q4.c 2 rfl
        have l4 := C4.lt
        have m4 := Q4.lt
        go_upto_region 13 with (first
          | (go_at_call 24; (with_reducible refine (HP1.out _ HLXE.out (HLX.out _ HLXE.out) (HLN.out _ HLXE.out) _ _ _ _ _ (HMM.out.below HB4.out (Nat.le_refl _)) HJ.out (HQ.out.below HB4.out (Nat.le_refl _))).mono ?_); rintro e w5 hq5; obtain ⟨pu, pa1, pn1, pk1, pst, pa2, pn2, pk2, pbo, pti, pua, puc, rfl, hrd5, hsl5, hto5⟩ := askq_open hq5; clear hq5; have hlow5 := hto5.lowB HJ.out hjb; have C5 := C4.below hlow5 hCB; have Q5 := Q4.below hlow5 hQB; have HB5 := Lib.hid (HB4.out.trans (hlow5.mono hwB)); obtain ⟨xa, xc, J5, -, -⟩ := hto5.out; clear hto5 hlow5))
        have P6 := AtL.new w5 [.int .i64 k, .string pu, .slice pa1 pn1 pk1, .int .i64 pst, .slice pa2 pn2 pk2, .string pbo, .int .i64 pti, .slice pua hs.length puc] 45
        have hal := (Below.refl _ w5).alloc (Nat.le_refl _) (.cells [.int .i64 k, .string pu, .slice pa1 pn1 pk1, .int .i64 pst, .slice pa2 pn2 pk2, .string pbo, .int .i64 pti, .slice pua hs.length puc].toArray 45)
        have C6 := C5.next hal
        have Q6 := Q5.next hal
        have B6 := HB5.out.trans (hal.mono HB5.out.size)
        have J6 := J5.below hal (Nat.le_refl _)
        have R6 := hrd5.below hal (Nat.le_refl _)
        have S6 := hsl5.below hal (Nat.le_refl _)
        obtain ⟨w6, hw6⟩ : ∃ w6 : World, w5.alloc (.cells [.int .i64 k, .string pu, .slice pa1 pn1 pk1, .int .i64 pst, .slice pa2 pn2 pk2, .string pbo, .int .i64 pti, .slice pua hs.length puc].toArray 45) = w6 := ⟨_, rfl⟩
        obtain ⟨P, hP⟩ : ∃ P, w5.heap.size = P := ⟨_, rfl⟩
        rw [hw6] at P6 C6 Q6 B6 J6 R6 S6
        rw [hP] at P6
        rw [show w5.alloc (.cells #[.int .i64 k, .string pu, .slice pa1 pn1 pk1, .int .i64 pst, .slice pa2 pn2 pk2, .string pbo, .int .i64 pti, .slice pua hs.length puc] 45) = w6 from hw6, hP]
        have HB6 := Lib.hid B6
        have HJ6 := Lib.hid J6
        have HR6 := Lib.hid R6
        have HS6 := Lib.hid S6
        clear hw6 hP hal B6 J6 R6 S6 J5 hrd5 hsl5 C5 Q5 C4 Q4 l4 m4 c0 q0 q1 q2
        have c0 := C6.c 0 rfl
        have q0 := Q6.c 0 rfl; have q1 := Q6.c 1 rfl; have q2 := Q6.c 2 rfl
        have l6 := C6.lt
        have m6 := Q6.lt
        go_upto_region 14 with (first
          | (go_at_call 25; (with_reducible refine (HP2.out _ _ _ (HMM.out.below HB6.out (Nat.le_refl _)) (HV.out.below HB6.out (Nat.le_refl _)) (fun x hx => (HRD.out x hx).below HB6.out (Nat.le_refl _)) (HQ.out.below HB6.out (Nat.le_refl _))).mono ?_); rintro e w7 hq7; obtain ⟨ru, ra1, rn1, rk1, rst, ra2, rn2, rk2, rbo, rti, rua, ruc, rva, rvc, rfl, hrd7, hsl7, hle7, hlr7, hb7⟩ := raskq_open hq7; clear hq7))
        have P7 := P6.next hb7
        have J7 := HJ6.out.below hb7 (Nat.le_refl _)
        have R7 := HR6.out.below hb7 (Nat.le_refl _)
        have S7 := HS6.out.below hb7 (Nat.le_refl _)
        have B7 := HB6.out.trans (hb7.mono HB6.out.size)
        have G8 := AtL.new w7 [.int .i64 k, .string ru, .slice ra1 rn1 rk1, .int .i64 rst, .slice ra2 rn2 rk2, .string rbo, .int .i64 rti, .slice rua hs.length ruc] 45
        have hal := (Below.refl _ w7).alloc (Nat.le_refl _) (.cells [.int .i64 k, .string ru, .slice ra1 rn1 rk1, .int .i64 rst, .slice ra2 rn2 rk2, .string rbo, .int .i64 rti, .slice rua hs.length ruc].toArray 45)
        have P8 := P7.next hal
        have J8 := J7.below hal (Nat.le_refl _)
        have R8 := R7.below hal (Nat.le_refl _)
        have S8 := S7.below hal (Nat.le_refl _)
        have B8 := B7.trans (hal.mono B7.size)
        have T8 := hrd7.below hal (Nat.le_refl _)
        have U8 := hsl7.below hal (Nat.le_refl _)
        have L8 := hle7.below hal (Nat.le_refl _)
        have M8 : ∀ y ∈ mvL j l, Rd _ y.1 y.2 := fun y hy => (hlr7 y hy).below hal (Nat.le_refl _)
        obtain ⟨w8, hw8⟩ : ∃ w8 : World, w7.alloc (.cells [.int .i64 k, .string ru, .slice ra1 rn1 rk1, .int .i64 rst, .slice ra2 rn2 rk2, .string rbo, .int .i64 rti, .slice rua hs.length ruc].toArray 45) = w8 := ⟨_, rfl⟩
        obtain ⟨G, hG⟩ : ∃ G, w7.heap.size = G := ⟨_, rfl⟩
        rw [hw8] at G8 P8 J8 R8 S8 B8 T8 U8 L8 M8
        rw [hG] at G8
        rw [show w7.alloc (.cells #[.int .i64 k, .string ru, .slice ra1 rn1 rk1, .int .i64 rst, .slice ra2 rn2 rk2, .string rbo, .int .i64 rti, .slice rua hs.length ruc] 45) = w8 from hw8, hG]
        have HJ8 := Lib.hid J8
        have HB8 := Lib.hid B8
        have HL8 := Lib.hid L8
        have HM8 := Lib.hid M8
        have hmm : (mvL j lx).map (·.2) = (mvL j l).map (·.2) := by rw [HKK.out, HKL.out, HLXE.out]
        have C1 := Lib.hid (sameE (⟨pu, .slice pa1 pn1 pk1, pst, .slice pa2 pn2 pk2, pbo, pti⟩, en) (⟨ru, .slice ra1 rn1 rk1, rst, .slice ra2 rn2 rk2, rbo, rti⟩, en) rfl w8 R8 T8 hen1 hen2)
        have C2 := Lib.hid (fun (w' : World) (hb : Below w8.heap.size w8 w') => sameA hs (.slice pua hs.length puc) (.slice rua hs.length ruc) w' (S8.below hb (Nat.le_refl _)) (U8.below hb (Nat.le_refl _)) hhs)
        have C3 := Lib.hid (fun (w' : World) (hb : Below w8.heap.size w8 w') => sameL (mvL j lx) (mvL j l) hmm _ _ w' (HJ8.out.reads.below hb (Nat.le_refl _)) (HL8.out.below hb (Nat.le_refl _)) (fun x hx => (HJ8.out.rd x hx).below hb (Nat.le_refl _)) (fun x hx => (HM8.out x hx).below hb (Nat.le_refl _)) (fun x hx => ⟨(HLX.out _ HLXE.out x (mvL_mem _ _ _ hx)).1.1, (HLX.out _ HLXE.out x (mvL_mem _ _ _ hx)).2.1⟩) (by rw [mvL_len]; have := HLN.out _ HLXE.out; omega))
        clear hw8 hG hal P7 J7 R7 S7 B7 J8 R8 S8 B8 T8 U8 L8 M8 hrd7 hsl7 hle7 hlr7 hb7 C6 Q6 l6 m6 c0 q0 q1 q2 hmm
        have p0 := P8.c 0 rfl; have p1 := P8.c 1 rfl; have p2 := P8.c 2 rfl; have p3 := P8.c 3 rfl; have p4 := P8.c 4 rfl; have p5 := P8.c 5 rfl; have p6 := P8.c 6 rfl; have p7 := P8.c 7 rfl
        have g0 := G8.c 0 rfl; have g1 := G8.c 1 rfl; have g2 := G8.c 2 rfl; have g3 := G8.c 3 rfl; have g4 := G8.c 4 rfl; have g5 := G8.c 5 rfl; have g6 := G8.c 6 rfl; have g7 := G8.c 7 rfl
        have pl8 := P8.lt
        have gl8 := G8.lt
        have hPG : Hid (P < w8.heap.size ∧ G < w8.heap.size) := Lib.hid ⟨pl8, gl8⟩
        go_wp2_with (first
          | (go_at_call 26; (with_reducible refine C1.out.mono ?_); rintro e w9 ⟨rfl, hb9⟩; have P9 := P8.next hb9; have G9 := G8.next hb9; clear p0 p1 p2 p3 p4 p5 p6 p7 g0 g1 g2 g3 g4 g5 g6 g7; have p7 := P9.c 7 rfl; have g7 := G9.c 7 rfl; have pl9 := P9.lt; have gl9 := G9.lt)
          | (go_at_call 27; (with_reducible refine (C2.out _ hb9).mono ?_); rintro e wa ⟨rfl, hba⟩; have hb9a := hb9.trans (hba.mono hb9.size); have Ja := HJ8.out.at_.next hb9a; have j0 := Ja.c 0 rfl; have jl := Ja.lt)
          | (go_at_call 28; (with_reducible refine (C3.out _ hb9a).mono ?_); rintro e wb ⟨rfl, hbb⟩))
        go_ret
        exact ⟨rfl, HB8.out.trans ((hb9a.trans (hbb.mono hb9a.size)).mono HB8.out.size)⟩
end Go.Proofs.YtkobhknggamejaaGreatDoor
