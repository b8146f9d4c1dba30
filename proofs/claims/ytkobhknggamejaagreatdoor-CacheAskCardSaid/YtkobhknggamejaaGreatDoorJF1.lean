/- CacheUse, CacheOne: what Ask and Put make of a new entry. -/
import Derived.Test.YtkobhknggamejaaGreatDoorJE
namespace Go.Proofs.YtkobhknggamejaaGreatDoor
set_option linter.unusedVariables false
set_option linter.unusedSimpArgs false
open Go.RowKit

def UseQ (w : World) (jb B : Nat) (v : Value) (U : Bool) (en : En) (e : Ending) (w' : World) : Prop := ∃ (r : Er) (k : Int) (ua : Option Addr) (un uc : Nat), e = .returned (.agg #[.int .i64 k, .string r.u, r.vv, .int .i64 r.st, r.hv, .string r.bo, .int .i64 r.ti, .slice ua un uc]) ∧ eeShp (r, en) ∧ (U = true → k = 2 ∧ r.bo = en.bo ∧ r.st = en.st) ∧ (U = false → k = 1 ∨ k = 3) ∧ ∃ l', CaTo w jb B v l' w'
theorem ask_U (jb B : Nat) (v : Value) (l : List Ee) (w : World) (hM : MaxAt w) (hJ : CaIn w jb B v l) (hz : ∀ x ∈ l, HdSz x.2.va ∧ HdSz x.2.hd) (hl : l.length ≤ 1000) (url : ByteArray) (rq : List Hd) (vr : Value) (hq : SlK hdC 2 w vr rq) (hzq : HdSz rq) (now : Int) (i : Nat) (hi : i < l.length) (x : Ee) (hx : l[i] = x) (hR : LastAt (fun x => ansB x.2 url rq) l (i : Int)) (d2 d3 : Bool) (d4 : Int) (hD : dirL rq = ⟨false, d2, d3, d4⟩) (U : Bool) (hu : useB ⟨false, d2, d3, d4⟩ x.2 now = U) :
    Calls Tryz.prog 24 #[.pointer (some ⟨jb, 0, none⟩), .string url, vr, .int .i64 now] w (UseQ w jb B v U x.2) := by
  cases U with
  | true =>
    refine (ask_use jb B v l w hM hJ hz hl url rq vr hq hzq now i hi x hx hR d2 d3 d4 hD hu).mono ?_
    rintro e w' ⟨r, u, h1, h2, h3, h4⟩
    obtain ⟨ua, uc, rfl, _⟩ := h3.shape
    exact ⟨r, 2, ua, _, uc, h1, Rd.shp (x := (r, x.2)) h2, fun _ => ⟨rfl, h2.bo, h2.st⟩, (fun h => by cases h), _, h4⟩
  | false =>
    by_cases hc : chkL x.2.hd = []
    · refine (ask_chk0 jb B v l w hM hJ hz hl url rq vr hq hzq now i hi x hx hR d2 d3 d4 hD hu hc).mono ?_
      rintro e w' ⟨r, u, h1, h2, h3, h4⟩
      have hs := Rd.shp (x := (r, en0)) h2
      obtain ⟨ua, uc, rfl, _⟩ := h3.shape
      exact ⟨r, 1, ua, _, uc, h1, hs, (fun h => by cases h), fun _ => .inl rfl, _, h4⟩
    · refine (ask_chk1 jb B v l w hM hJ hz hl url rq vr hq hzq now i hi x hx hR d2 d3 d4 hD hu _ rfl hc).mono ?_
      rintro e w' ⟨r, u, h1, h2, h3, h4⟩
      obtain ⟨ua, uc, rfl, _⟩ := h3.shape
      exact ⟨r, 3, ua, _, uc, h1, Rd.shp (x := (r, x.2)) h2, (fun h => by cases h), fun _ => .inr rfl, _, h4⟩
theorem vstep_ok (rq : List Hd) (va : List Hd) (w : List UInt8) (h : va.any (misH rq) = false) : (vstep rq va w).any (misH rq) = false := by
  unfold vstep
  split
  · exact h
  · rw [List.any_append, h]
    simp only [List.any_cons, List.any_nil, Bool.or_false, Bool.false_or]
    unfold misH
    simp
    rfl
theorem varyE_ok (rq hs : List Hd) : (varyE rq hs).any (misH rq) = false := by
  unfold varyE
  have : ∀ (L : List (List UInt8)) (va : List Hd), va.any (misH rq) = false → (L.foldl (vstep rq) va).any (misH rq) = false := by
    intro L
    induction L with
    | nil => intro va h; exact h
    | cons x L ih => intro va h; exact ih _ (vstep_ok rq va x h)
  exact this _ [] rfl
/-- the new entry answers its request -/
theorem new_ans (url : ByteArray) (rq hs : List Hd) (st : Int) (body : ByteArray) (now : Int) : ansB ⟨url, varyE rq hs, st, hs, body, now⟩ url rq = true := by
  unfold ansB
  show (urlB url url && !(varyE rq hs).any (misH rq)) = true
  rw [varyE_ok]
  unfold urlB
  simp
theorem keep_none (es : List En) (url : ByteArray) (rq : List Hd) : ∀ e ∈ keepE es url rq, ansB e url rq = false := fun e he => by
  have := (List.mem_filter.1 he).2
  simpa using this
theorem none_last (lp : List Ee) (es : List En) (url : ByteArray) (rq : List Hd) (h : lp.map (·.2) = keepE es url rq) : LastAt (fun x => ansB x.2 url rq) lp (-1) := .inl ⟨rfl, fun j hj => keep_none es url rq _ (by rw [← h]; exact List.mem_map_of_mem (List.getElem_mem hj))⟩
theorem some_last (lp : List Ee) (es : List En) (url : ByteArray) (rq : List Hd) (n : En) (hn : ansB n url rq = true) (h : lp.map (·.2) = keepE es url rq ++ [n]) : ∃ i, ∃ hi : i < lp.length, ∃ x : Ee, lp[i] = x ∧ x.2 = n ∧ i + 1 = lp.length ∧ LastAt (fun x => ansB x.2 url rq) lp (i : Int) := by
  have hl := congrArg List.length h
  rw [List.length_map, List.length_append] at hl
  have hl : lp.length = (keepE es url rq).length + 1 := hl
  have h2 : lp[(keepE es url rq).length].2 = n := by
    have := congrArg (fun z => z[(keepE es url rq).length]?) h
    simp only [List.getElem?_map, List.getElem?_eq_getElem (show (keepE es url rq).length < lp.length by omega), Option.map_some] at this
    rw [List.getElem?_append_right (Nat.le_refl _)] at this
    simpa using this
  refine ⟨(keepE es url rq).length, by omega, _, rfl, h2, by omega, .inr ⟨_, by omega, rfl, by show ansB _ url rq = true; rw [h2]; exact hn, fun j hj hlt => by omega⟩⟩
theorem age_sum (now ti : Int) (h : 0 ≤ now ∧ now ≤ 1125899906842624) (h2 : 0 ≤ ti ∧ ti ≤ 1125899906842624) : ageE now (now + ti) = ti := by
  unfold ageE clockI
  omega
theorem stor_ns {st : Int} {rq hs : List Hd} (h : storL st rq hs = true) : (dirL rq).ns = false := by
  unfold storL at h
  rw [Bool.and_eq_true, Bool.and_eq_true] at h
  have := h.2.1
  cases hn : (dirL rq).ns
  · rfl
  · rw [hn] at this; simp at this
theorem HdSz.vary {rq hs : List Hd} (hq : HdSz rq) (hh : HdSz hs) : HdSz (varyE rq hs) := by
  refine ⟨varyE_len rq hs hh, ?_⟩
  have h0 : ∀ p ∈ varyL hs, p.length ≤ 100000 := fun p hp => by
    have h1 := words_size ((hdrL hs [118, 97, 114, 121]).getD ⟨#[]⟩).data.toList p hp
    rw [size_len] at h1
    have := hdr_size hs [118, 97, 114, 121] hh
    omega
  have : ∀ (L : List (List UInt8)) (va : List Hd), (∀ p ∈ L, p.length ≤ 100000) → (∀ d ∈ va, d.1.size ≤ 100000 ∧ d.2.size ≤ 100000) → ∀ d ∈ L.foldl (vstep rq) va, d.1.size ≤ 100000 ∧ d.2.size ≤ 100000 := by
    intro L
    induction L with
    | nil => intro va _ h; exact h
    | cons x L ih =>
      intro va hL hva
      refine ih _ (fun p hp => hL p (List.mem_cons_of_mem _ hp)) (fun d hd => ?_)
      unfold vstep at hd
      split at hd
      · exact hva d hd
      · rcases List.mem_append.1 hd with h1 | h1
        · exact hva d h1
        · obtain rfl := List.mem_singleton.1 h1
          refine ⟨?_, hdr_size rq _ hq⟩
          have h2 := hL x List.mem_cons_self
          have h3 : (bs (lowL x)).size = x.length := by
            rw [← size_len]
            show (lowL x).length = _
            simp [lowL]
          show (bs (lowL x)).size ≤ 100000
          omega
  exact this _ [] h0 (fun d hd => by cases hd)
end Go.Proofs.YtkobhknggamejaaGreatDoor
