/- CacheDrop: the law. -/
import Derived.Test.YtkobhknggamejaaGreatDoorJB
namespace Go.Proofs.YtkobhknggamejaaGreatDoor
set_option linter.unusedVariables false
set_option linter.unusedSimpArgs false
open Go.RowKit

def goneB (es : List En) (url : ByteArray) : Nat := sumB (es.filter (fun e => urlB e.u url))
theorem goneB_snoc (l : List En) (url : ByteArray) (k : Nat) (h : k < l.length) : goneB (l.take (k + 1)) url = goneB (l.take k) url + if urlB l[k].u url then l[k].bo.size else 0 := by
  unfold goneB sumB
  rw [List.take_succ_eq_append_getElem h, List.filter_append, List.map_append, List.sum_append]
  congr 1
  cases hu : urlB l[k].u url <;> simp [hu]
theorem gone_keep (es : List En) (url : ByteArray) : sumB (es.filter (fun e => !urlB e.u url)) + goneB es url = sumB es := by
  unfold goneB sumB
  induction es with
  | nil => rfl
  | cons e es ih =>
    cases hu : urlB e.u url <;> simp [hu] <;> omega
theorem keep_snoc (l : List Ee) (p : Ee → Bool) (k : Nat) (h : k < l.length) (x : Ee) (hx : l[k] = x) : (l.take (k + 1)).filter p = (l.take k).filter p ++ if p x then [x] else [] := by
  subst hx
  rw [List.take_succ_eq_append_getElem h, List.filter_append]
  congr 1
  cases hp : p l[k] <;> simp [hp]
/-- the start of a law over a cache: few and the copy -/
theorem map_filter_en (l : List Ee) (es : List En) (h : l.map (·.2) = es) (p : En → Bool) : (l.filter (fun x => p x.2)).map (·.2) = es.filter p := by
  subst h
  rw [List.filter_map]
  rfl
theorem own_rowbut {b e s n m jb : Nat} {o : Option Nat} {w w' : World} {v : Value} {xs : List Value} (h : w.ownsRow b e s v n xs) (hr : RowBut m jb o w w') (hm : w.heap.size ≤ m) (hj : jb < b) (ho : ∀ g, o = some g → g < b) : w'.ownsRow b e s v n xs := by
  refine ⟨h.1, ?_⟩
  rcases h.2 with h2 | ⟨g, cap, cur, hv, hg, hh, r⟩
  · exact .inl h2
  · exact .inr ⟨g, cap, cur, hv, hg, by rw [hr.block g (by have := (Array.getElem?_eq_some_iff.1 hh).1; omega) (by omega) (fun e => by have := ho g e; omega)]; exact hh, r⟩
abbrev rq0 : List Value := [.string ⟨#[]⟩, .slice none 0 0, .int .i64 0]
set_option maxRecDepth 20000 in
set_option maxHeartbeats 4000000 in
theorem cachedrop_law (l : List Ee) (v : Value) (url : ByteArray) (w : World) (hM : MaxAt w) (hv : SlK eeC 6 w v l) (hr : ∀ x ∈ l, Rd w x.1 x.2) (hz : ∀ x ∈ l, WtE x.2) :
    Calls Tryz.prog 8 #[.agg #[v], .string url] w fun e w' => e = .returned (.bool true) ∧ Below w.heap.size w w' := by
  have hb0 : Below w.heap.size w (w.alloc (.cells [v].toArray 35)) := (Below.refl _ w).alloc (Nat.le_refl _) _
  have C0 := AtL.new w [v] 35
  have CF := Lib.hid (fit_is43 _ (hM.below hb0 (Nat.le_refl _)))
  obtain ⟨R, hR⟩ : ∃ R, fewA (l.map (·.2)) [] = R := ⟨_, rfl⟩
  have CW := Lib.hid (fun (w' : World) (hb : Below w.heap.size w w') => few_is l v ⟨#[]⟩ [] (.slice none 0 0) 0 w' (hv.below hb (Nat.le_refl _)) (fun x hx => (hr x hx).below hb (Nat.le_refl _)) (slk0 _) hz (fun h hh => by cases hh) R hR)
  cases R with
  | false =>
    obtain ⟨sa, sc, rfl, _⟩ := hv.shape
    clear hR hv hr hz hM
    have c0 := C0.c 0 rfl
    have cl := C0.lt
    go_enter Tryz.func8, Tryz.ntmps8
    go_wp2_with (first
      | (go_at_call 10; (with_reducible refine CF.out.mono ?_); rintro e w1 ⟨rfl, hb1⟩; have C1 := C0.next hb1; have c1 := C1.c 0 rfl; have l1 := C1.lt; have hB1 := hb0.trans (hb1.mono hb0.size))
      | (go_at_call 20; (with_reducible refine (CW.out _ hB1).mono ?_); rintro e w2 ⟨rfl, hb2⟩; have hB2 := hB1.trans (hb2.mono hB1.size)))
    go_ret
    exact ⟨rfl, hB2⟩
  | true =>
    obtain ⟨hok, h12, _⟩ := fewA_sz hR
    have hok2 : ∀ x ∈ l, HdSz x.2.va ∧ HdSz x.2.hd ∧ x.2.bo.size ≤ 500 := fun x hx => okE_sz (hok _ (List.mem_map_of_mem hx))
    have hl12 : l.length ≤ 12 := by simpa using h12
    have CC := Lib.hid (fun (w' : World) (hb : Below w.heap.size w w') => clone_is43 l v w' (hv.below hb (Nat.le_refl _)) (fun x hx => (hr x hx).below hb (Nat.le_refl _)) (fun x hx => ⟨(hok2 x hx).1.1, (hok2 x hx).2.1.1⟩) (by omega) _ rfl)
    obtain ⟨sa, sc, rfl, _⟩ := hv.shape
    have HC := Lib.hid (ee_cells hv rfl)
    have HRD := Lib.hid hr
    have HOK := Lib.hid hok2
    have HV := Lib.hid hv
    have c0 := C0.c 0 rfl
    have cl := C0.lt
    clear hR hv hr hz hM hok h12 hok2
    go_enter Tryz.func8, Tryz.ntmps8
    go_wp2_with (first
      | (go_at_call 10; (with_reducible refine CF.out.mono ?_); rintro e w1 ⟨rfl, hb1⟩; have C1 := C0.next hb1; have c1 := C1.c 0 rfl; have l1 := C1.lt; have hB1 := hb0.trans (hb1.mono hb0.size))
      | (go_at_call 20; (with_reducible refine (CW.out _ hB1).mono ?_); rintro e w2 ⟨rfl, hb2⟩; have hB2 := hB1.trans (hb2.mono hB1.size); have C2 := C1.next hb2; clear c1; have c1 := C2.c 0 rfl; have l2 := C2.lt)
      | (go_at_call 23; (with_reducible refine (CC.out _ hB2).mono ?_); rintro e w3 hq; obtain ⟨jb, ja, jc, lx, rfl, hjb, hJ, hlx, hb3⟩ := hq; have hB3 := hB2.trans (hb3.mono hB2.size); have C3 := C2.next hb3; clear c1; have c1 := C3.c 0 rfl; have l3 := C3.lt))
    obtain ⟨C, hC⟩ : ∃ C, w.heap.size = C := ⟨_, rfl⟩
    rw [hC] at C3 c1
    rw [hC]
    have HCC := Lib.hid hC
    have HJ := Lib.hid hJ
    have HLX := Lib.hid hlx
    have HB3 := Lib.hid hB3
    have h23 := hb3.size
    have h3z := hB3.size
    clear hC hJ hlx hb0 C0 CF CW CC C1 C2 hb1 hb2 hb3 hB1 hB2 c0 cl l1
    go_loopw [6, 7, 8, 24] (fun nv gv wv iv wr => ∃ (kk S G : Nat) (lo : List Ee), kk ≤ l.length ∧ iv = .int .i64 kk ∧ nv = .int .i64 S ∧ gv = .int .i64 G ∧ Hid (sumB ((l.map (·.2)).take kk) = S) ∧ Hid (goneB ((l.map (·.2)).take kk) url = G) ∧ Hid (lo = (l.take kk).filter (fun x => !urlB x.2.u url)) ∧ S ≤ kk * 500 ∧ G ≤ S ∧ lo.length ≤ kk ∧ wr.ownsRow w3.heap.size 40 6 wv lo.length (cellsK eeC lo) ∧ Below w3.heap.size w3 wr) (fun _ _ _ iv _ => l.length - (intOf iv).toNat)
    case atStart => exact ⟨0, 0, 0, [], Nat.zero_le _, rfl, rfl, rfl, Lib.hid rfl, Lib.hid rfl, Lib.hid rfl, by omega, Nat.le_refl _, Nat.le_refl _, World.ownsRow_nil _ _ _ _, Below.refl _ _⟩
    case round =>
      obtain ⟨kk, S, G, lo, hk, rfl, rfl, rfl, HS, HG, HL, hS5, hGS, hlo, hown, hbw⟩ := hrel
      have hws := hbw.size
      have Cr := C3.next hbw
      have cr := Cr.c 0 rfl
      have clr := Cr.lt
      by_cases hlt : kk < l.length
      · obtain ⟨b0, off, rfl, hb0, hcell⟩ := HC.out (by omega)
        have hB3r : Below w.heap.size w wr := HB3.out.trans (hbw.mono h3z)
        have cc : ∀ j u, (eeC l[kk])[j]? = some u → wr.cell? ⟨b0, off + kk * 6 + j, none⟩ = some u := fun j u hu => (brl hB3r _ _ hb0).trans (hcell kk hlt j u hu)
        have hmem : l[kk] ∈ l := List.getElem_mem hlt
        have hrd := HRD.out _ hmem
        have ho0 := (HOK.out _ hmem).2.2
        have hs0 := sumB_snoc (l.map (·.2)) kk (by simpa using hlt)
        have hg0 := goneB_snoc (l.map (·.2)) url kk (by simpa using hlt)
        have hk0 := keep_snoc l (fun x => !urlB x.2.u url) kk hlt _ rfl
        simp only [List.getElem_map] at hs0 hg0
        rw [HS.out] at hs0
        rw [HG.out] at hg0
        rw [← HL.out] at hk0
        obtain ⟨y, hy⟩ : ∃ y, l[kk] = y := ⟨_, rfl⟩
        rw [hy] at cc hrd hs0 hg0 hk0 ho0
        have hone := one6 y hrd.shp
        obtain ⟨⟨a1, n1, k1, f1⟩, a2, n2, k2, f2⟩ := hrd.shp
        obtain ⟨⟨u, vv, st, hh, bo, ti⟩, ex⟩ := y
        have f1 : vv = .slice a1 n1 k1 := f1
        have f2 : hh = .slice a2 n2 k2 := f2
        have hbo : bo = ex.bo := hrd.bo
        have huu : u = ex.u := hrd.u
        have hs1 : sumB ((l.map (·.2)).take (kk + 1)) = S + ex.bo.size := hs0
        have hg1 : goneB ((l.map (·.2)).take (kk + 1)) url = G + if urlB ex.u url then ex.bo.size else 0 := hg0
        have hk1 : (l.take (kk + 1)).filter (fun x => !urlB x.2.u url) = lo ++ if (!urlB ex.u url) = true then [(⟨u, vv, st, hh, bo, ti⟩, ex)] else [] := hk0
        have hoz : ex.bo.size ≤ 500 := ho0
        clear hs0 hg0 hk0 ho0
        rw [← hbo] at hs1 hg1 hoz
        rw [← huu] at hg1 hk1
        subst f1 f2
        have hki : (kk : Int) < (l.length : Int) := by omega
        have hsb : (S : Int) + (bo.size : Int) ≤ 7000 := by omega
        have hgb : (G : Int) + (bo.size : Int) ≤ 7000 := by omega
        have hB4 : Below w3.heap.size w3 (wr.alloc (.cells #[.string u, .slice a1 n1 k1, .int .i64 st, .slice a2 n2 k2, .string bo, .int .i64 ti] 40)) := hbw.alloc hws _
        have own4 := hown.alloc (.cells #[.string u, .slice a1 n1 k1, .int .i64 st, .slice a2 n2 k2, .string bo, .int .i64 ti] 40)
        obtain ⟨oa, oc, rfl, _⟩ := own_reads hown
        have HONE := Lib.hid hone
        obtain ⟨c0, c1, c2, c3, c4, c5⟩ := e6_mk cc
        have HS1 := Lib.hid hs1
        clear cc hcell hrd hbo huu hs1 hy hone hmem
        cases hub : urlB u url with
        | true =>
          have hu2 : (u.toList == url.toList) = true := hub
          have HG1 : Hid (goneB ((l.map (·.2)).take (kk + 1)) url = G + bo.size) := Lib.hid (by rw [hg1, hub]; rfl)
          have HK1 : Hid (lo = (l.take (kk + 1)).filter (fun x => !urlB x.2.u url)) := Lib.hid (by rw [hk1, hub]; simp)
          clear hg1 hk1 hub
          go_wp2_with fail
          go_roundw
          case rel => exact ⟨kk + 1, S + bo.size, G + bo.size, lo, by omega, by go_num, by go_num, by go_num, HS1, HG1, HK1, by omega, by omega, by omega, own4, hB4⟩
          case measure => simp [intOf]; omega
        | false =>
          have hu2 : (u.toList == url.toList) = false := hub
          have HG1 : Hid (goneB ((l.map (·.2)).take (kk + 1)) url = G) := Lib.hid (by rw [hg1, hub]; rfl)
          have HK1 : Hid (lo ++ [(⟨u, .slice a1 n1 k1, st, .slice a2 n2 k2, bo, ti⟩, ex)] = (l.take (kk + 1)).filter (fun x => !urlB x.2.u url)) := Lib.hid (by rw [hk1, hub]; simp)
          clear hg1 hk1 hub
          go_wp2_with (refine app2 slE _ (by rfl) (.tmp 42) (.tmp 44) (by rfl) w3.heap.size _ _ _ (by rfl) own4 (eeC (⟨u, .slice a1 n1 k1, st, .slice a2 n2 k2, bo, ti⟩, ex)) 1 (wr.heap.size + 1) (by rfl) (by simp) (by rfl) HONE.out (by decide) (by omega) (by omega) hB4.size ?_; intro v11 w11 o11 g11 f11; obtain ⟨ub, uk, rfl, _, _, _⟩ := own_reads o11)
          go_roundw
          case rel => exact ⟨kk + 1, S + bo.size, G, lo ++ [(⟨u, .slice a1 n1 k1, st, .slice a2 n2 k2, bo, ti⟩, ex)], by omega, by go_num, by go_num, rfl, HS1, HG1, HK1, by omega, by omega, by simp; omega, own_eq o11 (by simp) (by rw [cellsK_app]; simp [cellsK]), below_own hB4 own4 g11 hB4.size (Nat.le_refl _)⟩
          case measure => simp [intOf]; omega
      · obtain rfl : kk = l.length := by omega
        have hS := HS.out
        rw [List.take_of_length_le (by simp)] at hS
        have hG := HG.out
        rw [List.take_of_length_le (by simp)] at hG
        have hL := HL.out
        rw [List.take_length] at hL
        have hm : (dropL lx url).map (·.2) = lo.map (·.2) := by
          rw [hL, map_filter_en lx _ HLX.out (fun e => !urlB e.u url), map_filter_en l _ rfl (fun e => !urlB e.u url)]
        have hlen := congrArg List.length hm
        simp only [List.length_map] at hlen
        have hlx : lx.length = l.length := by have := congrArg List.length HLX.out; simpa using this
        have hgk := gone_keep (l.map (·.2)) url
        have hS2 : sumB ((dropL lx url).map (·.2)) = S - G := by
          rw [map_filter_en lx _ HLX.out (fun e => !urlB e.u url)]; omega
        have hlz : ∀ x ∈ lx, HdSz x.2.va ∧ HdSz x.2.hd ∧ x.2.bo.size ≤ 500 := fun x hx => by
          have h1 : x.2 ∈ l.map (·.2) := by rw [← HLX.out]; exact List.mem_map_of_mem hx
          obtain ⟨z, hz, he⟩ := List.mem_map.1 h1
          rw [← he]; exact HOK.out z hz
        have hfl : (dropL lx url).length ≤ lx.length := List.length_filter_le _ _
        have CS1 := Lib.hid (fun (w : World) hJ => size_is jb w2.heap.size (.slice ja lx.length jc) lx w hJ (by omega) (fun x hx => Nat.le_trans (hlz x hx).2.2 (by decide)) S (by rw [HLX.out]; exact hS))
        have CD := Lib.hid (fun (w : World) hJ => (drop_is jb w2.heap.size (.slice ja lx.length jc) lx w hJ (by omega) url).mono fun e w' h => (show e = .returned (.int .i64 ((l.length : Int) - (lo.length : Int))) ∧ CaTo w jb w2.heap.size (.slice ja lx.length jc) (dropL lx url) w' by rw [← hlen, ← hlx]; exact h))
        have CSm := Lib.hid (fun (w : World) v v2 hv hv2 hr hr2 => sameL (dropL lx url) lo hm v v2 w hv hv2 hr hr2 (fun x hx => ⟨(hlz x (List.mem_filter.1 hx).1).1.1, (hlz x (List.mem_filter.1 hx).1).2.1.1⟩) (by omega))
        have CS2 := Lib.hid (fun (w : World) v hJ => (size_is jb w2.heap.size v (dropL lx url) w hJ (by omega) (fun x hx => Nat.le_trans (hlz x (List.mem_filter.1 hx).1).2.2 (by decide)) (S - G) hS2).mono fun e w' h => (show e = .returned (.int .i64 ((S : Int) - (G : Int))) ∧ Below w.heap.size w w' by rw [show (S : Int) - (G : Int) = ((S - G : Nat) : Int) by omega]; exact h))
        have Jr := HJ.out.below hbw (Nat.le_refl _)
        have hj3 := HJ.out.at_.lt
        have ho3 := hown_lt HJ.out.own
        have HRl : Hid (∀ x ∈ lo, Rd w x.1 x.2) := Lib.hid (fun x hx => by rw [hL] at hx; exact HRD.out x (List.mem_filter.1 hx).1)
        have hw2 : w.heap.size ≤ w2.heap.size := Nat.le_of_lt l2
        have hfar : ∀ b off n c, Value.slice none 0 0 = .slice (some ⟨b, off, none⟩) n c → True := fun _ _ _ _ _ => trivial
        obtain ⟨oa, oc, rfl, _⟩ := own_reads hown
        have HJr := Lib.hid Jr
        have HB3r := Lib.hid (HB3.out.trans (hbw.mono h3z))
        have HO3 := Lib.hid ho3
        have j0 := Jr.at_.c 0 rfl
        have jlr := Jr.at_.lt
        have hG5 : (G : Int) ≤ (S : Int) := by omega
        have hS6 : (S : Int) ≤ 6000 := by omega
        have hll : (lo.length : Int) ≤ (l.length : Int) := by omega
        have hll12 : (l.length : Int) ≤ 12 := by omega
        clear hS hG hL hm hlen hlx hgk hS2 hlz hfl hfar Jr ho3 HS HG HL
        go_wp2_with (first
          | (go_at_call 33; (with_reducible refine (CS1.out _ HJr.out).mono ?_); rintro e w4 ⟨rfl, hb4⟩; have J4 := HJr.out.below hb4 (Nat.le_refl _); have C4 := Cr.next hb4; have own4 := own_below hown hb4 (Nat.le_refl _); have HJ4 := Lib.hid J4; clear J4)
          | (go_at_call 34; (with_reducible refine (CD.out _ HJ4.out).mono ?_); rintro e w5 ⟨rfl, hto⟩; have hlow := hto.lowB HJ4.out hjb; obtain ⟨xa, xc, J5, hT5, hR5⟩ := hto.out; have hB5 := (HB3r.out.trans (hb4.mono HB3r.out.size)).trans (hlow.mono hw2); have C5 := C4.row hR5 C4.lt (by have := HCC.out; omega) (fun e => by have := own_base HJ4.out.own e; have := HCC.out; omega); clear cr; have cr := C5.c 0 rfl; have cl5 := C5.lt; have k0 := J5.at_.c 0 rfl; have kl := J5.at_.lt; have sl5 : SlK eeC 6 w5 (.slice oa lo.length oc) lo := SlK.of_own eelen (own_rowbut own4 hR5 (Nat.le_refl _) hj3 HO3.out); have HJ5 := Lib.hid J5; have HSL5 := Lib.hid sl5; have HR5 := Lib.hid (fun x hx => (HRl.out x hx).below hB5 (Nat.le_refl _)); clear hto J5 sl5)
          | (go_at_call 28; (with_reducible refine (CSm.out _ _ _ HJ5.out.reads HSL5.out HJ5.out.rd HR5.out).mono ?_); rintro e w6 ⟨rfl, hb6⟩; have J6 := HJ5.out.below hb6 (Nat.le_refl _); have HJ6 := Lib.hid J6; clear J6; have hB6 := hB5.trans (hb6.mono hB5.size))
          | (go_at_call 33; (with_reducible refine (CS2.out _ _ HJ6.out).mono ?_); rintro e w7 ⟨rfl, hb7⟩; have hB7 := hB6.trans (hb7.mono hB6.size)))
        go_ret
        rw [HCC.out] at hB7 ⊢
        exact ⟨rfl, hB7⟩
end Go.Proofs.YtkobhknggamejaaGreatDoor
