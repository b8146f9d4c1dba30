/- Cache: the reference's Put. -/
import Derived.Test.YtkobhknggamejaaGreatDoorHU
import Derived.Test.YtkobhknggamejaaGreatDoorHY
import Derived.Test.YtkobhknggamejaaGreatDoorHI
import Derived.Test.YtkobhknggamejaaGreatDoorJC
namespace Go.Proofs.YtkobhknggamejaaGreatDoor
set_option linter.unusedVariables false
set_option linter.unusedSimpArgs false
open Go.RowKit

abbrev keepE (es : List En) (url : ByteArray) (rq : List Hd) : List En := es.filter (fun x => !ansB x url rq)
/-- what Put answers, and the list then -/
def RPutQ (w : World) (es : List En) (b : Bool) (x : Ending) (w' : World) : Prop := ∃ (a : Option Addr) (c : Nat) (lo : List Ee), x = .returned (.tuple #[.slice a lo.length c, .bool b]) ∧ SlK eeC 6 w' (.slice a lo.length c) lo ∧ (∀ y ∈ lo, Rd w' y.1 y.2) ∧ lo.map (·.2) = es ∧ Below w.heap.size w w'
theorem lowB_idem (b : UInt8) : lowB (lowB b) = lowB b := by
  unfold lowB
  by_cases h : 65 ≤ b.toNat ∧ b.toNat ≤ 90
  · rw [if_pos h, if_neg]
    have : (b + 32).toNat = b.toNat + 32 := by rw [UInt8.toNat_add]; simp; omega
    omega
  · rw [if_neg h, if_neg h]
theorem lowL_idem (l : List UInt8) : lowL (lowL l) = lowL l := by
  unfold lowL
  rw [List.map_map]
  exact List.map_congr_left fun b _ => lowB_idem b
def Lows (va : List Hd) : Prop := ∀ d ∈ va, lowL d.1.data.toList = d.1.data.toList
/-- among small names, 'has' is 'is among them' -/
theorem has_any (va : List Hd) (h : Lows va) (T : ByteArray) (hT : lowL T.data.toList = T.data.toList) : (hdrL va T.data.toList).isSome = va.any (fun d => d.1.toList == T.toList) := by
  unfold hdrL
  rw [Option.isSome_map]
  rw [Bool.eq_iff_iff, List.find?_isSome, List.any_eq_true]
  have hh : ∀ d ∈ va, hitH T.data.toList d = (d.1.toList == T.toList) := fun d hd => by
    unfold hitH
    rw [h d hd, hT, ByteArray.toList_eq, ByteArray.toList_eq]
  constructor
  · rintro ⟨d, hd, hp⟩; exact ⟨d, hd, by rw [← hh d hd]; exact hp⟩
  · rintro ⟨d, hd, hp⟩; exact ⟨d, hd, by rw [hh d hd]; exact hp⟩
theorem RowBut.of_but {n g : Nat} {w w' : World} (h : BelowBut n g w w') : RowBut n g none w w' := ⟨h.os, h.tape, h.output, h.size, fun k hk h1 _ => h.block k hk h1⟩
theorem e7_mk {W w' : World} {b o c : Nat} {x0 x1 x2 x3 x4 x5 y0 : Value} (hx : ∀ j u, [x0, x1, x2, x3, x4, x5][j]? = some u → W.cell? ⟨b, o + j, none⟩ = some u) (hy : W.cell? ⟨c, 0, none⟩ = some y0) (hb : Below W.heap.size W w') :
    w'.cell? ⟨b, o, none⟩ = some x0 ∧ w'.cell? ⟨b, o + 1, none⟩ = some x1 ∧ w'.cell? ⟨b, o + 2, none⟩ = some x2 ∧ w'.cell? ⟨b, o + 3, none⟩ = some x3 ∧ w'.cell? ⟨b, o + 4, none⟩ = some x4 ∧ w'.cell? ⟨b, o + 5, none⟩ = some x5 ∧ w'.cell? ⟨c, 0, none⟩ = some y0 :=
  have k := fun (b o : Nat) (u : Value) (h : W.cell? ⟨b, o, none⟩ = some u) => (hb.cell (p := ⟨b, o, none⟩) (cell_lt h)).trans h
  ⟨k _ _ _ (hx 0 _ rfl), k _ _ _ (hx 1 _ rfl), k _ _ _ (hx 2 _ rfl), k _ _ _ (hx 3 _ rfl), k _ _ _ (hx 4 _ rfl), k _ _ _ (hx 5 _ rfl), k _ _ _ hy⟩
set_option maxRecDepth 20000 in
set_option maxHeartbeats 8000000 in
theorem rput_is (l : List Ee) (v : Value) (url : ByteArray) (st : Int) (hs : List Hd) (vh : Value) (body : ByteArray) (now : Int) (rq : List Hd) (vr : Value) (w : World) (hv : SlK eeC 6 w v l) (hr : ∀ x ∈ l, Rd w x.1 x.2) (hz : ∀ x ∈ l, HdSz x.2.va) (hl : l.length ≤ 1000) (hh : SlK hdC 2 w vh hs) (hzh : HdSz hs) (hq : SlK hdC 2 w vr rq) (hzq : HdSz rq) (S : Bool) (hS : storL st rq hs = S) (es : List En) (hes : keepE (l.map (·.2)) url rq ++ (if S then [⟨url, varyE rq hs, st, hs, body, now⟩] else []) = es) :
    Calls Tryz.prog 31 #[v, .agg #[.string url, .slice none 0 0, .int .i64 st, vh, .string body, .int .i64 now], vr] w (RPutQ w es S) := by
  have hb0 : Below w.heap.size w (w.alloc (.cells [.string url, .slice none 0 0, .int .i64 st, vh, .string body, .int .i64 now].toArray 40)) := (Below.refl _ w).alloc (Nat.le_refl _) _
  have E0 := AtL.new w [.string url, .slice none 0 0, .int .i64 st, vh, .string body, .int .i64 now] 40
  have HES := Lib.hid hes
  have HRD := Lib.hid (fun x hx => (hr x hx).below hb0 (Nat.le_refl _))
  have HRD0 := Lib.hid hr
  have HZ := Lib.hid hz
  have hh0 := hh.below hb0 (Nat.le_refl _)
  have hq0 := hq.below hb0 (Nat.le_refl _)
  obtain ⟨L, hL⟩ : ∃ L, varyL hs = L := ⟨_, rfl⟩
  obtain ⟨sa, sc, rfl, _⟩ := hv.shape
  obtain ⟨ha, hc, rfl, _⟩ := hh.shape
  obtain ⟨qa, qc, rfl, _⟩ := hq.shape
  have HC := Lib.hid (ee_cells (hv.below hb0 (Nat.le_refl _)) rfl)
  have CS := Lib.hid (fun w hv hw => rstor_is st rq hs (.slice qa rq.length qc) (.slice ha hs.length hc) w hv hw hzq hzh S hS)
  have CV := Lib.hid (fun w hv => rvalue_is hs (.slice ha hs.length hc) varyS w hv hzh (by decide) _ rfl)
  have CH := Lib.hid (fun (w : World) (T : ByteArray) (hT : T.size ≤ 100000) (hv : SlK hdC 2 w (.slice qa rq.length qc) rq) => rvalue_is rq (.slice qa rq.length qc) T w hv hzq hT (valL rq T.data.toList) rfl)
  have HL := Lib.hid hL
  have HHH := Lib.hid hh
  have hfh := slk_new hh (Nat.le_refl _)
  have hfq := slk_new hq (Nat.le_refl _)
  clear hes hr hz hv hh hq hS hL
  go_enter Tryz.func31, Tryz.ntmps31
  go_wp2_with fail
  obtain ⟨w1, hw1⟩ : ∃ w1 : World, w.alloc (.cells [.string url, .slice none 0 0, .int .i64 st, .slice ha hs.length hc, .string body, .int .i64 now].toArray 40) = w1 := ⟨_, rfl⟩
  obtain ⟨E, hE⟩ : ∃ E, w.heap.size = E := ⟨_, rfl⟩
  rw [hw1] at hb0 E0 HRD hh0 hq0 HC
  rw [hE] at E0 hb0 hfh hfq
  have HFH := Lib.hid hfh
  have HFQ := Lib.hid hfq
  rw [hw1, hE]
  have HE := Lib.hid hE
  clear hw1 hE hfh hfq
  have hE1 := E0.lt
  go_loopw [8, 9] (fun ov iv wr => ∃ (kk : Nat) (lo : List Ee), kk ≤ l.length ∧ iv = .int .i64 kk ∧ Hid (lo = (l.take kk).filter (fun x => !ansB x.2 url rq)) ∧ lo.length ≤ kk ∧ wr.ownsRow w1.heap.size 40 6 ov lo.length (cellsK eeC lo) ∧ Below w1.heap.size w1 wr) (fun _ iv _ => l.length - (intOf iv).toNat)
  case atStart => exact ⟨0, [], Nat.zero_le _, rfl, Lib.hid rfl, Nat.le_refl _, World.ownsRow_nil _ _ _ _, Below.refl _ _⟩
  case round =>
    obtain ⟨kk, lo, hk, rfl, HLO, hlo, hown, hbw⟩ := hrel
    have hws := hbw.size
    have Ew := E0.next hbw
    have er0 := Ew.c 0 rfl
    have erl := Ew.lt
    by_cases hlt : kk < l.length
    · have hst := keep_snoc l (fun x => !ansB x.2 url rq) kk hlt _ rfl
      obtain ⟨b0, off, rfl, hb0', hcell⟩ := HC.out (by omega)
      have cc : ∀ j u, (eeC l[kk])[j]? = some u → wr.cell? ⟨b0, off + kk * 6 + j, none⟩ = some u := fun j u hu => (brl hbw _ _ hb0').trans (hcell kk hlt j u hu)
      have hmem : l[kk] ∈ l := List.getElem_mem hlt
      have hrd := (HRD.out _ hmem).below hbw (Nat.le_refl _)
      have hzz := HZ.out _ hmem
      rw [← HLO.out] at hst
      obtain ⟨y, hy⟩ : ∃ y, l[kk] = y := ⟨_, rfl⟩
      rw [hy] at cc hrd hzz hst
      have hone := one6 y hrd.shp
      obtain ⟨⟨a1, n1, k1, f1⟩, a2, n2, k2, f2⟩ := hrd.shp
      have hqr := (hq0.below hbw (Nat.le_refl _)).below (Below.refl _ wr).drew (Nat.le_refl _)
      have hrdd := hrd.below (Below.refl _ wr).drew (Nat.le_refl _)
      have HONE := Lib.hid hone
      obtain ⟨oa, oc, rfl, _⟩ := own_reads hown
      have hki : (kk : Int) < (l.length : Int) := by omega
      have hk0 : (0 : Int) ≤ (kk : Int) := by omega
      clear hcell hmem hy hone
      cases hans : ansB y.2 url rq with
      | true =>
        have CA := Lib.hid (rans_is y url rq (.slice qa rq.length qc) wr.drew hrdd hqr hzq hzz true hans)
        have HST : Hid (lo = (l.take (kk + 1)).filter (fun x => !ansB x.2 url rq)) := Lib.hid (by rw [hst, hans]; simp)
        clear hans hst hrd hrdd hzz hqr
        obtain ⟨⟨u, vv, st2, hh2, bo, ti⟩, ex⟩ := y
        have f1 : vv = .slice a1 n1 k1 := f1
        have f2 : hh2 = .slice a2 n2 k2 := f2
        subst f1 f2
        obtain ⟨c0, c1, c2, c3, c4, c5⟩ := e6_mk cc
        have HX := Lib.hid cc
        clear cc
        go_wp2_with fail
        go_region_held3 (fun w' => w'.cell? ⟨b0, off + kk * 6, none⟩ = some (.string u) ∧ w'.cell? ⟨b0, off + kk * 6 + 1, none⟩ = some (.slice a1 n1 k1) ∧ w'.cell? ⟨b0, off + kk * 6 + 2, none⟩ = some (.int .i64 st2) ∧ w'.cell? ⟨b0, off + kk * 6 + 3, none⟩ = some (.slice a2 n2 k2) ∧ w'.cell? ⟨b0, off + kk * 6 + 4, none⟩ = some (.string bo) ∧ w'.cell? ⟨b0, off + kk * 6 + 5, none⟩ = some (.int .i64 ti) ∧ w'.cell? ⟨E, 0, none⟩ = some (.string url))
          (first | exact e7_mk HX.out er0 (Below.refl _ wr).drew | exact e7_mk HX.out er0 hb4 | go_keep)
          (first | (go_at_call 32; (with_reducible refine CA.out.mono ?_); rintro e w4 ⟨rfl, hbb4⟩; have hb4 := (Below.refl _ wr).drew.trans hbb4))
        go_wp2_with fail
        go_roundw
        case rel => exact ⟨kk + 1, lo, by omega, by go_num, HST, by omega, own_below hown hb4 (Nat.le_refl _), hbw.trans (hb4.mono hws)⟩
        case measure => simp [intOf]; omega
      | false =>
        have CA := Lib.hid (rans_is y url rq (.slice qa rq.length qc) wr.drew hrdd hqr hzq hzz false hans)
        have HST : Hid (lo ++ [y] = (l.take (kk + 1)).filter (fun x => !ansB x.2 url rq)) := Lib.hid (by rw [hst, hans]; simp)
        clear hans hst hrd hrdd hzz hqr
        obtain ⟨⟨u, vv, st2, hh2, bo, ti⟩, ex⟩ := y
        have f1 : vv = .slice a1 n1 k1 := f1
        have f2 : hh2 = .slice a2 n2 k2 := f2
        subst f1 f2
        obtain ⟨c0, c1, c2, c3, c4, c5⟩ := e6_mk cc
        have HX := Lib.hid cc
        clear cc
        go_wp2_with fail
        go_region_held3 (fun w' => w'.cell? ⟨b0, off + kk * 6, none⟩ = some (.string u) ∧ w'.cell? ⟨b0, off + kk * 6 + 1, none⟩ = some (.slice a1 n1 k1) ∧ w'.cell? ⟨b0, off + kk * 6 + 2, none⟩ = some (.int .i64 st2) ∧ w'.cell? ⟨b0, off + kk * 6 + 3, none⟩ = some (.slice a2 n2 k2) ∧ w'.cell? ⟨b0, off + kk * 6 + 4, none⟩ = some (.string bo) ∧ w'.cell? ⟨b0, off + kk * 6 + 5, none⟩ = some (.int .i64 ti) ∧ w'.cell? ⟨E, 0, none⟩ = some (.string url))
          (first | exact e7_mk HX.out er0 (Below.refl _ wr).drew | exact e7_mk HX.out er0 hb4 | go_keep)
          (first | (go_at_call 32; (with_reducible refine CA.out.mono ?_); rintro e w4 ⟨rfl, hbb4⟩; have hb4 := (Below.refl _ wr).drew.trans hbb4))
        obtain ⟨z0, z1, z2, z3, z4, z5, _⟩ := e7_mk HX.out er0 hb4
        have own4 := own_below hown hb4 (Nat.le_refl _)
        have hB4 := hbw.trans (hb4.mono hws)
        have h4z := hB4.size
        clear c0 c1 c2 c3 c4 c5 er0
        go_wp2_with (refine app2 slE w4 (by rfl) (.tmp 28) (.tmp 33) (by rfl) w1.heap.size _ _ _ (by rfl) own4 (eeC (⟨u, .slice a1 n1 k1, st2, .slice a2 n2 k2, bo, ti⟩, ex)) 1 w4.heap.size (by rfl) rfl (by rfl) HONE.out (by decide) (by omega) (by omega) h4z ?_; intro v11 w11 o11 g11 f11; obtain ⟨ub, uk, rfl, _, _, _⟩ := own_reads o11)
        go_roundw
        case rel => exact ⟨kk + 1, lo ++ [(⟨u, .slice a1 n1 k1, st2, .slice a2 n2 k2, bo, ti⟩, ex)], by omega, by go_num, HST, by simp; omega, own_eq o11 (by simp) (by rw [cellsK_app]; simp [cellsK]), below_own hB4 own4 g11 h4z (Nat.le_refl _)⟩
        case measure => simp [intOf]; omega
    · obtain rfl : kk = l.length := by omega
      have hm := HLO.out
      rw [List.take_length] at hm
      have hmm : lo.map (·.2) = keepE (l.map (·.2)) url rq := by rw [hm]; exact map_filter_en l _ rfl (fun e => !ansB e url rq)
      have HMM := Lib.hid hmm
      have HSUB0 := Lib.hid (fun y hy => by rw [hm] at hy; exact HRD0.out y (List.mem_filter.1 hy).1 : ∀ y ∈ lo, Rd w y.1 y.2)
      have HSUB := Lib.hid (fun y hy => by rw [hm] at hy; exact HRD.out y (List.mem_filter.1 hy).1 : ∀ y ∈ lo, Rd w1 y.1 y.2)
      have hhr := hh0.below hbw (Nat.le_refl _)
      have hqr := hq0.below hbw (Nat.le_refl _)
      have er2 := Ew.c 2 rfl
      have er3 := Ew.c 3 rfl
      obtain ⟨oa, oc, rfl, _⟩ := own_reads hown
      have hhr' := Lib.hid hhr
      clear hm hmm HLO
      cases S with
      | false =>
        go_wp2_with (go_at_call 19; with_reducible refine (CS.out _ hqr hhr).mono ?_; rintro e w4 ⟨rfl, hb4⟩)
        go_ret2
        have hB4 := hbw.trans (hb4.mono hws)
        exact ⟨oa, oc, lo, rfl, SlK.of_own eelen (own_below hown hb4 (Nat.le_refl _)), fun y hy => (HSUB.out y hy).below hB4 (Nat.le_refl _), by rw [HMM.out, ← HES.out]; simp, by rw [HE.out]; exact hb0.trans (hB4.mono (Nat.le_of_lt hE1))⟩
      | true =>
        have hvz := hdr_size hs [118, 97, 114, 121] hzh
        obtain ⟨VV, hVV⟩ : ∃ VV, (hdrL hs [118, 97, 114, 121]).getD ⟨#[]⟩ = VV := ⟨_, rfl⟩
        rw [hVV] at hvz
        have hLV : wordsL VV.data.toList = L := by rw [← hVV]; exact HL.out
        have CV1 := Lib.hid (fun w hv => by have := CV.out w hv; rw [show (hdrL hs varyS.data.toList).getD ⟨#[]⟩ = VV from hVV] at this; exact this)
        have CW := Lib.hid (fun w => rwords_is VV w hvz L hLV)
        clear hVV
        go_upto_region 10 with (first
          | (go_at_call 19; (with_reducible refine (CS.out _ hqr hhr).mono ?_); rintro e w4 ⟨rfl, hb4⟩; have E4 := Ew.next hb4; clear er3; have er3 := E4.c 3 rfl; have el4 := E4.lt; have hh4 := hhr.below hb4 (Nat.le_refl _))
          | (go_at_call 48; (with_reducible refine (CV1.out _ hh4).mono ?_); rintro e w5 ⟨rfl, hb5⟩; have E5 := E4.next hb5)
          | (go_at_call 44; (with_reducible refine (CW.out _).mono ?_); rintro e w6 hq6; obtain ⟨ps, pa, pc, rfl, hownw, hps, hb6⟩ := wordsq_open hq6; clear hq6))
        have hB46 := hb4.trans ((hb5.trans (hb6.mono hb5.size)).mono hb4.size)
        have hB6 := hbw.trans (hB46.mono hws)
        have hpz : ∀ p ∈ ps, p.size ≤ 100000 := fun p hp => by
          have := words_size VV.data.toList p.data.toList (by rw [hLV, ← hps]; exact List.mem_map_of_mem hp)
          rw [size_len, size_len] at this
          omega
        have hpl : ps.length ≤ 100001 := by
          have h1 : (wordsL VV.data.toList).length ≤ VV.size + 1 := by
            unfold wordsL
            refine Nat.le_trans (List.length_filter_le _ _) ?_
            rw [List.length_map]
            have := segs_count 44 VV.data.toList
            rwa [size_len] at this
          rw [hLV, ← hps] at h1
          simp [lists] at h1
          omega
        have HPS := Lib.hid hps
        have HPZ := Lib.hid hpz
        have E6 := E5.next hb6
        have hE6 := E6.lt
        have hE5 := E5.lt
        have own6 := own_below hown hB46 (Nat.le_refl _)
        obtain ⟨_, _, hve, hlc, hlm, hra⟩ := own_reads hownw
        injection hve with e1 _ e3
        subst e1 e3
        have HRA := Lib.hid hra
        have HB6 := Lib.hid hB6
        have HB56 := Lib.hid (hb4.trans (hb5.mono hb4.size))
        have h56 := hb6.size
        have HOW := Lib.hid own6
        have h6z := hB6.size
        have hQ6 := Lib.hid (hq0.below hB6 (Nat.le_refl _))
        have hH6 := Lib.hid (hh0.below hB6 (Nat.le_refl _))
        have hE15 : w1.heap.size ≤ w5.heap.size := by have := hb4.size; have := hb5.size; omega
        clear hps hpz hra hLV hB6 hB46 own6 hown hqr hhr er0 er2 er3 hbw hb4 hb5 hb6
        go_wp2_with fail
        go_loopw [11] (fun iv wr => ∃ (kk : Nat) (va : List Hd) (u : Value), kk ≤ ps.length ∧ iv = .int .i64 kk ∧ va.length ≤ kk ∧ Hid (va = ((lists ps).take kk).foldl (vstep rq) []) ∧ Hid (Lows va) ∧ Hid (HdSz va) ∧ AtL wr E [.string url, u, .int .i64 st, .slice ha hs.length hc, .string body, .int .i64 now] ∧ wr.ownsRow w6.heap.size 68 2 u va.length (cellsK hdC va) ∧ BelowBut w6.heap.size E w6 wr) (fun iv _ => ps.length - (intOf iv).toNat)
        case atStart => exact ⟨0, [], _, Nat.zero_le _, rfl, Nat.le_refl _, Lib.hid rfl, Lib.hid (fun d hd => by cases hd), Lib.hid HdSz0, E6, World.ownsRow_nil _ _ _ _, BelowBut.refl _ _ _⟩
        case round =>
          obtain ⟨kk, va, u, hk, rfl, hvk, HV, HLW, HSZ, AW, hownv, hbb⟩ := hrel
          have hwz := hbb.size
          by_cases hlt : kk < ps.length
          · have hki : (kk : Int) < (ps.length : Int) := by omega
            have hk0 : (0 : Int) ≤ (kk : Int) := by omega
            rcases HRA.out with ⟨_, h0⟩ | ⟨gw, rfl, hgB, hgw, hcg⟩
            · omega
            have c0 := (hbb.cell (p := ⟨gw, kk, none⟩) hgw (by show gw ≠ E; omega)).trans (hcg kk (.string ps[kk]) (by simp [strsV, hlt]))
            have hx := HPZ.out _ (List.getElem_mem hlt)
            have hfs := fold_step (vstep rq) [] (lists ps) kk (by simpa [lists] using hlt) ps[kk].data.toList (by simp [lists]) va HV.out.symm
            obtain ⟨x, hxe⟩ : ∃ x, ps[kk] = x := ⟨_, rfl⟩
            rw [hxe] at c0 hx hfs
            obtain ⟨T, hT⟩ : ∃ T, bs (lowL x.data.toList) = T := ⟨_, rfl⟩
            have hTl : T.data.toList = lowL x.data.toList := by rw [← hT]; rfl
            have hTz : T.size ≤ 100000 := by rw [← hT, low_size]; exact hx
            have hTi : lowL T.data.toList = T.data.toList := by rw [hTl, lowL_idem]
            have CLo := Lib.hid (fun w => smallc_is x T hTl w (by omega))
            have hog := hown_lt hownv
            obtain ⟨ua, uc, rfl, _⟩ := own_reads hownv
            have hst : vstep rq va x.data.toList = if va.any (fun d => d.1.toList == T.toList) then va else va ++ [(T, valL rq T.data.toList)] := by
              unfold vstep
              have e : (fun d : Hd => d.1.data.toList == lowL x.data.toList) = (fun d : Hd => d.1.toList == T.toList) := by
                funext d
                rw [ByteArray.toList_eq, ByteArray.toList_eq, hTl]
              rw [e, hT, hTl]
            rw [hst] at hfs
            obtain ⟨R, hR⟩ : ∃ R, va.any (fun d => d.1.toList == T.toList) = R := ⟨_, rfl⟩
            have CHa := Lib.hid (fun (W : World) hv => rhas_is va (.slice ua va.length uc) T W hv HSZ.out hTz R (by rw [has_any va HLW.out T hTi]; exact hR))
            rw [hR] at hfs
            obtain ⟨V, hV⟩ : ∃ V, valL rq T.data.toList = V := ⟨_, rfl⟩
            have hVz : V.size ≤ 100000 := by rw [← hV]; exact hdr_size rq T.data.toList hzq
            rw [hV] at hfs
            have CHe := Lib.hid (fun (w : World) hv => by have := CH.out w T hTz hv; rw [hV] at this; exact this)
            have hgl : gw < wr.heap.size := Nat.lt_of_lt_of_le hgw hwz
            have hElr : E < wr.heap.size := AW.lt
            have HOG := Lib.hid hog
            have HTI := Lib.hid hTi
            cases R with
            | true =>
              rw [if_pos rfl] at hfs
              have HFS := Lib.hid hfs
              clear hfs hst hR hT hTl hxe hcg hV hog hTi
              go_wp2_with (first
                | (go_at_call 46; (with_reducible refine (CLo.out _).mono ?_); rintro e w7 ⟨rfl, hb7⟩; have A8 := (AW.next hb7).alloc (.cells #[.string T, .string ⟨#[]⟩] 68); have N8 := AtL.new w7 [.string T, .string ⟨#[]⟩] 68; have o8 := (own_below hownv hb7 (Nat.le_refl _)).alloc (.cells #[.string T, .string ⟨#[]⟩] 68); have hb8 := (but_below hbb hb7 hwz).alloc (Nat.le_trans hwz hb7.size) (.cells #[.string T, .string ⟨#[]⟩] 68); have z1 := A8.c 1 rfl; have al8 := A8.lt; have n0 := N8.c 0 rfl; have nl8 := N8.lt)
                | (go_at_call 52; (with_reducible refine (CHa.out _ (SlK.of_own hdC_len o8)).mono ?_); rintro e w9 ⟨rfl, hb9⟩))
              go_roundw
              case rel => exact ⟨kk + 1, va, _, by omega, by go_num, by omega, Lib.hid HFS.out.symm, HLW, HSZ, A8.next hb9, own_below o8 hb9 (Nat.le_refl _), but_below hb8 hb9 hb8.size⟩
              case measure => simp [intOf]; omega
            | false =>
              rw [if_neg (by simp)] at hfs
              have HFS := Lib.hid hfs
              clear hfs hst hR hT hTl hxe hcg hV hog hTi
              go_upto_region 16 with (first
                | (go_at_call 46; (with_reducible refine (CLo.out _).mono ?_); rintro e w7 ⟨rfl, hb7⟩; have A8 := (AW.next hb7).alloc (.cells #[.string T, .string ⟨#[]⟩] 68); have N8 := AtL.new w7 [.string T, .string ⟨#[]⟩] 68; have o8 := (own_below hownv hb7 (Nat.le_refl _)).alloc (.cells #[.string T, .string ⟨#[]⟩] 68); have hb8 := (but_below hbb hb7 hwz).alloc (Nat.le_trans hwz hb7.size) (.cells #[.string T, .string ⟨#[]⟩] 68); have z1 := A8.c 1 rfl; have al8 := A8.lt; have n0 := N8.c 0 rfl; have nl8 := N8.lt)
                | (go_at_call 52; (with_reducible refine (CHa.out _ (SlK.of_own hdC_len o8)).mono ?_); rintro e w9 ⟨rfl, hb9⟩; have A9 := A8.next hb9; have N9 := N8.next hb9; have o9 := own_below o8 hb9 (Nat.le_refl _); have hb99 := but_below hb8 hb9 hb8.size; have q9 := slk_row hQ6.out (RowBut.of_but hb99) (Nat.le_refl _) HFQ.out; clear z1 n0; have n0 := N9.c 0 rfl; have nl9 := N9.lt)
                | (go_at_call 48; (with_reducible refine (CHe.out _ q9).mono ?_); rintro e w10 ⟨rfl, hb10⟩; have A10 := A9.next hb10; have N10 := N9.next hb10; have o10 := own_below o9 hb10 (Nat.le_refl _); have hb101 := but_below hb99 hb10 hb99.size; clear n0; have n1 := N10.c 1 rfl; have g1 := N10.f 1 rfl; have nl10 := N10.lt))
              obtain ⟨W, hW⟩ : ∃ W, w10.setCell ⟨w7.heap.size, 1, none⟩ (.string V) = W := ⟨_, rfl⟩
              have hEA : w7.heap.size ≠ E := by have := hb7.size; omega
              have AE2 := A10.far ⟨w7.heap.size, 1, none⟩ (.string V) hEA
              have N2 := N10.set 1 (.string V)
              have o2 := ownsRow_setCell_other (a := ⟨w7.heap.size, 1, none⟩) o10 (fun e => by have h1 := HOG.out _ e; have := hb7.size; simp at h1; omega) (.string V)
              have hb2 := hb101.setCell ⟨w7.heap.size, 1, none⟩ (Or.inr (by have := hb7.size; show w6.heap.size ≤ w7.heap.size; omega)) (.string V)
              rw [hW] at AE2 N2 o2 hb2
              rw [hW]
              obtain ⟨A, hA⟩ : ∃ A, w7.heap.size = A := ⟨_, rfl⟩
              rw [hA] at N2
              rw [hA]
              clear hW n1 g1 N10 A10 hA
              have z1 := AE2.c 1 rfl
              have y1 := AE2.f 1 rfl
              have al2 := AE2.lt
              have n0 := N2.c 0 rfl
              have n1 := N2.c 1 rfl
              have nl2 := N2.lt
              have hz2 := hb2.size
              go_wp2_with (refine app2 slH W (by rfl) (.tmp 71) (.tmp 73) (by rfl) w6.heap.size _ _ _ (by rfl) o2 [.string T, .string V] 1 W.heap.size (by rfl) rfl (by rfl) (by intro u hu; simp at hu; rcases hu with rfl | rfl <;> rfl) (by decide) (by omega) (by omega) hz2 ?_; intro v11 w11 o11 g11 f11; obtain ⟨ub, uk, rfl, _, _, _⟩ := own_reads o11; have A11 := AE2.grown g11 (fun e => by have h1 : w6.heap.size ≤ E := own_base o2 e; omega); clear z1 y1; have z1 := A11.c 1 rfl; have y1 := A11.f 1 rfl; have al11 := A11.lt)
              go_roundw
              case rel => exact ⟨kk + 1, va ++ [(T, V)], _, by omega, by go_num, by simp; omega, Lib.hid HFS.out.symm, Lib.hid (fun d hd => by
                rcases List.mem_append.1 hd with h1 | h1
                · exact HLW.out d h1
                · obtain rfl := List.mem_singleton.1 h1; exact HTI.out), Lib.hid ⟨by simp; omega, fun d hd => by
                rcases List.mem_append.1 hd with h1 | h1
                · exact HSZ.out.2 d h1
                · obtain rfl := List.mem_singleton.1 h1; exact ⟨hTz, hVz⟩⟩, A11.set 1 _, own_eq (ownsRow_setCell_other (a := ⟨E, 1, none⟩) o11 (by intro e; have h1 : w6.heap.size ≤ E := own_base o11 e; omega) _) (by simp) (by rw [cellsK_app]; rfl), (hb2.grown o2 g11 hz2).setCell ⟨E, 1, none⟩ (Or.inl rfl) _⟩
              case measure => simp [intOf]; omega
          · obtain rfl : kk = ps.length := by omega
            have hVV : va = varyE rq hs := by
              rw [HV.out]; unfold varyE; rw [HL.out, ← HPS.out, List.take_of_length_le (by simp [lists])]
            have HVV := Lib.hid hVV
            have OWr := own_rowbut HOW.out (RowBut.of_but hbb) (Nat.le_refl _) hE1 (fun g h => by cases h)
            have hlow := hown_lt HOW.out
            have hobase : ∀ g, (Value.slice oa lo.length oc).ownBlock = some g → w1.heap.size ≤ g := fun g e => own_base HOW.out e
            obtain ⟨ua, uc, rfl, _, _, hub⟩ := own_reads hownv
            have sEr : SlK hdC 2 wr (.slice ha hs.length hc) hs := slk_row hH6.out (RowBut.of_but hbb) (Nat.le_refl _) HFH.out
            have hrx : Rd wr (⟨url, .slice ua va.length uc, st, .slice ha hs.length hc, body, now⟩ : Er) ⟨url, va, st, hs, body, now⟩ := ⟨rfl, rfl, rfl, rfl, SlK.of_own hdC_len hownv, sEr⟩
            have hEw : E ≤ w6.heap.size := by omega
            have hBwr : Below E w wr := BelowBut.to_below hbb (hb0.trans (HB6.out.mono (Nat.le_of_lt hE1))) hEw (Nat.le_refl _)
            have hfx : FarE (⟨url, .slice ua va.length uc, st, .slice ha hs.length hc, body, now⟩, ⟨url, va, st, hs, body, now⟩) E (Value.slice oa lo.length oc).ownBlock := by
              refine ⟨fun _ b off n c e => ?_, fun h0 b off n c e => ?_⟩
              · rcases hub with ⟨h1, _⟩ | ⟨gu, h1, h2, _⟩
                · have e : Value.slice ua va.length uc = .slice (some ⟨b, off, none⟩) n c := e
                  rw [h1] at e; cases e
                · have e : Value.slice ua va.length uc = .slice (some ⟨b, off, none⟩) n c := e
                  rw [h1] at e
                  injection e with e1 _ _
                  injection e1 with e1
                  injection e1 with e1
                  subst e1
                  exact ⟨by omega, fun e2 => by have := hlow _ e2; omega⟩
              · have h1 := (HFH.out h0 b off n c e).1
                have h2 : b < w.heap.size := by
                  rcases HHH.out with ⟨h3, _⟩ | ⟨_, b2, off2, cap, hv2, _, _, h4, _⟩
                  · exact absurd h3 h0
                  · have e : Value.slice ha hs.length hc = .slice (some ⟨b, off, none⟩) n c := e
                    rw [hv2] at e
                    injection e with e1 _ _
                    injection e1 with e1
                    injection e1 with e1
                    omega
                have h5 := HE.out
                exact ⟨h1, fun e2 => by have := hobase _ e2; omega⟩
            have HFX := Lib.hid hfx
            have HRX := Lib.hid hrx
            have HBW := Lib.hid hBwr
            have HONE := Lib.hid (one6 (⟨url, .slice ua va.length uc, st, .slice ha hs.length hc, body, now⟩, ⟨url, va, st, hs, body, now⟩) ⟨⟨_, _, _, rfl⟩, ⟨_, _, _, rfl⟩⟩)
            have hbz : w1.heap.size ≤ wr.heap.size := by omega
            have hEz : E ≤ wr.heap.size := by omega
            have hlol : lo.length ≤ 1000 := by omega
            have z0 := AW.c 0 rfl; have z1 := AW.c 1 rfl; have z2 := AW.c 2 rfl; have z3 := AW.c 3 rfl; have z4 := AW.c 4 rfl; have z5 := AW.c 5 rfl
            have awl := AW.lt
            clear hVV hub sEr hrx hBwr hfx hlow hobase HV
            go_wp2_with (refine app2 slE wr (by rfl) (.tmp 76) (.tmp 78) (by rfl) w1.heap.size _ _ _ (by rfl) OWr (eeC (⟨url, .slice ua va.length uc, st, .slice ha hs.length hc, body, now⟩, ⟨url, va, st, hs, body, now⟩)) 1 wr.heap.size (by rfl) rfl (by rfl) HONE.out (by decide) (by omega) (by omega) hbz ?_; intro v11 w11 o11 g11 f11; obtain ⟨ub, uk, rfl, _, _, _⟩ := own_reads o11)
            go_ret2
            have hB11 : Below E w w11 := below_own HBW.out OWr g11 hEz (Nat.le_of_lt hE1)
            refine ⟨ub, uk, lo ++ [(⟨url, .slice ua va.length uc, st, .slice ha hs.length hc, body, now⟩, ⟨url, va, st, hs, body, now⟩)], by simp, ?_, fun y hy => ?_, ?_, by rw [HE.out]; exact hB11⟩
            · exact SlK.of_own eelen (own_eq (by rw [List.length_append]; exact o11) (by simp) (by rw [cellsK_app]; simp [cellsK]))
            · rcases List.mem_append.1 hy with h1 | h1
              · exact (HSUB0.out y h1).below hB11 (Nat.le_of_eq HE.out)
              · obtain rfl := List.mem_singleton.1 h1
                exact HRX.out.row (x := (⟨url, .slice ua va.length uc, st, .slice ha hs.length hc, body, now⟩, ⟨url, va, st, hs, body, now⟩)) (RowBut.of_grown (jb := E) g11) (Nat.le_refl _) HFX.out
            · rw [List.map_append, HMM.out, ← HES.out, ← HVV.out]; simp
end Go.Proofs.YtkobhknggamejaaGreatDoor
