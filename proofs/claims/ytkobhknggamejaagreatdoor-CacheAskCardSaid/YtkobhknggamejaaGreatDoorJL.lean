/- CacheAsk: what both Asks make of a cache. -/
import Derived.Test.YtkobhknggamejaaGreatDoorJK
import Derived.Test.YtkobhknggamejaaGreatDoorJF1
namespace Go.Proofs.YtkobhknggamejaaGreatDoor
set_option linter.unusedVariables false
set_option linter.unusedSimpArgs false
open Go.RowKit

/-- an element moved to the end; nothing where there is none -/
def mvL {α : Type} (j : Nat) (l : List α) : List α := l.eraseIdx j ++ (l[j]?).toList
theorem mvL_none {α : Type} (l : List α) : mvL l.length l = l := by
  unfold mvL
  rw [List.eraseIdx_of_length_le (Nat.le_refl _), List.getElem?_eq_none (Nat.le_refl _)]
  exact List.append_nil _
theorem mvL_none' {α : Type} (l : List α) (j : Nat) (h : j = l.length) : mvL j l = l := by subst h; exact mvL_none l
theorem mvL_some {α : Type} (l : List α) (i : Nat) (hi : i < l.length) : mvL i l = l.eraseIdx i ++ [l[i]] := by
  unfold mvL
  rw [List.getElem?_eq_getElem hi]
  rfl
theorem mvL_map {α β : Type} (f : α → β) (j : Nat) (l : List α) : (mvL j l).map f = mvL j (l.map f) := by
  unfold mvL
  rw [List.map_append, List.eraseIdx_eq_take_drop_succ, List.eraseIdx_eq_take_drop_succ, List.map_append, List.map_take, List.map_drop, List.getElem?_map]
  cases l[j]? <;> rfl
theorem mvL_mem {α : Type} (l : List α) (j : Nat) : ∀ y ∈ mvL j l, y ∈ l := by
  intro y hy
  rcases List.mem_append.1 hy with h | h
  · exact List.mem_of_mem_eraseIdx h
  · rw [Option.mem_toList] at h
    exact List.mem_of_getElem? h
theorem mvL_len {α : Type} (l : List α) (j : Nat) : (mvL j l).length = l.length := by
  unfold mvL
  rw [List.length_append, List.length_eraseIdx]
  by_cases h : j < l.length
  · rw [if_pos h, List.getElem?_eq_getElem h]; show l.length - 1 + 1 = l.length; omega
  · rw [if_neg h, List.getElem?_eq_none (by omega)]; rfl
theorem map_get {lx l : List Ee} (h : lx.map (·.2) = l.map (·.2)) (j : Nat) (hj : j < lx.length) (hj2 : j < l.length) : lx[j].2 = l[j].2 := by
  have := congrArg (fun z => z[j]?) h
  simp only [List.getElem?_map, List.getElem?_eq_getElem hj, List.getElem?_eq_getElem hj2, Option.map_some, Option.some.injEq] at this
  exact this
theorem lastAt_of_map (p : En → Bool) {lx l : List Ee} (h : lx.map (·.2) = l.map (·.2)) {R : Int} (hR : LastAt (fun x => p x.2) l R) : LastAt (fun x => p x.2) lx R := by
  have hl : lx.length = l.length := by have := congrArg List.length h; simpa using this
  rcases hR with ⟨h1, h2⟩ | ⟨k, hk, h1, h2, h3⟩
  · exact .inl ⟨h1, fun j hj => by show p lx[j].2 = false; rw [map_get h j hj (by omega)]; exact h2 j (by omega)⟩
  · exact .inr ⟨k, by omega, h1, by show p lx[k].2 = true; rw [map_get h k (by omega) hk]; exact h2, fun j hj hlt => by show p lx[j].2 = false; rw [map_get h j hj (by omega)]; exact h3 j (by omega) hlt⟩
theorem chkL_len (hs : List Hd) : (chkL hs).length ≤ 2 := by rw [chk_split, List.length_append]; have := etL_len hs; have := lmL_len hs; omega
theorem askq_open {w : World} {jb B : Nat} {v : Value} {k : Int} {en : En} {hs : List Hd} {l' : List Ee} {e : Ending} {w' : World} (h : AskQ w jb B v k en hs l' e w') :
    ∃ (u : ByteArray) (a1 : Option Addr) (n1 k1 : Nat) (st : Int) (a2 : Option Addr) (n2 k2 : Nat) (bo : ByteArray) (ti : Int) (ua : Option Addr) (uc : Nat), e = .returned (.agg #[.int .i64 k, .string u, .slice a1 n1 k1, .int .i64 st, .slice a2 n2 k2, .string bo, .int .i64 ti, .slice ua hs.length uc]) ∧ Rd w' (⟨u, .slice a1 n1 k1, st, .slice a2 n2 k2, bo, ti⟩ : Er) en ∧ SlK hdC 2 w' (.slice ua hs.length uc) hs ∧ CaTo w jb B v l' w' := by
  obtain ⟨r, u, h1, h2, h3, h4⟩ := h
  have hs2 := Rd.shp (x := (r, en)) h2
  obtain ⟨⟨a1, n1, k1, e1⟩, a2, n2, k2, e2⟩ := hs2
  obtain ⟨ua, uc, rfl, _⟩ := h3.shape
  obtain ⟨u, vv, st, hh, bo, ti⟩ := r
  have e1 : vv = .slice a1 n1 k1 := e1
  have e2 : hh = .slice a2 n2 k2 := e2
  subst e1 e2
  exact ⟨u, a1, n1, k1, st, a2, n2, k2, bo, ti, ua, uc, h1, h2, h3, h4⟩
theorem raskq_open {w : World} {k : Int} {en : En} {hs : List Hd} {l' : List Ee} {e : Ending} {w' : World} (h : RAskQ w k en hs l' e w') :
    ∃ (u : ByteArray) (a1 : Option Addr) (n1 k1 : Nat) (st : Int) (a2 : Option Addr) (n2 k2 : Nat) (bo : ByteArray) (ti : Int) (ua : Option Addr) (uc : Nat) (va : Option Addr) (vc : Nat), e = .returned (.tuple #[.agg #[.int .i64 k, .string u, .slice a1 n1 k1, .int .i64 st, .slice a2 n2 k2, .string bo, .int .i64 ti, .slice ua hs.length uc], .slice va l'.length vc]) ∧ Rd w' (⟨u, .slice a1 n1 k1, st, .slice a2 n2 k2, bo, ti⟩ : Er) en ∧ SlK hdC 2 w' (.slice ua hs.length uc) hs ∧ SlK eeC 6 w' (.slice va l'.length vc) l' ∧ (∀ y ∈ l', Rd w' y.1 y.2) ∧ Below w.heap.size w w' := by
  obtain ⟨r, u, v', h1, h2, h3, h4, h5, h6⟩ := h
  have hs2 := Rd.shp (x := (r, en)) h2
  obtain ⟨⟨a1, n1, k1, e1⟩, a2, n2, k2, e2⟩ := hs2
  obtain ⟨ua, uc, rfl, _⟩ := h3.shape
  obtain ⟨va, vc, rfl, _⟩ := h4.shape
  obtain ⟨u, vv, st, hh, bo, ti⟩ := r
  have e1 : vv = .slice a1 n1 k1 := e1
  have e2 : hh = .slice a2 n2 k2 := e2
  subst e1 e2
  exact ⟨u, a1, n1, k1, st, a2, n2, k2, bo, ti, ua, uc, va, vc, h1, h2, h3, h4, h5, h6⟩
/-- what the two Asks have in common -/
def PlanQ (l : List Ee) (url : ByteArray) (rq : List Hd) (now : Int) (k : Int) (en : En) (hs : List Hd) (j : Nat) : Prop :=
  (∀ (lx : List Ee), lx.map (·.2) = l.map (·.2) → (∀ x ∈ lx, HdSz x.2.va ∧ HdSz x.2.hd) → lx.length ≤ 1000 → ∀ (jb B : Nat) (v : Value) (w : World) (vr : Value), MaxAt w → CaIn w jb B v lx → SlK hdC 2 w vr rq → Calls Tryz.prog 24 #[.pointer (some ⟨jb, 0, none⟩), .string url, vr, .int .i64 now] w (AskQ w jb B v k en hs (mvL j lx))) ∧
  (∀ (v : Value) (w : World) (vr : Value), MaxAt w → SlK eeC 6 w v l → (∀ x ∈ l, Rd w x.1 x.2) → SlK hdC 2 w vr rq → Calls Tryz.prog 25 #[v, .string url, vr, .int .i64 now] w (RAskQ w k en hs (mvL j l)))
theorem plan_ex (l : List Ee) (url : ByteArray) (rq : List Hd) (now : Int) (hz : ∀ x ∈ l, HdSz x.2.va ∧ HdSz x.2.hd) (hl : l.length ≤ 1000) (hzq : HdSz rq) :
    ∃ (k : Int) (en : En) (hs : List Hd) (j : Nat), PlanQ l url rq now k en hs j ∧ en.va.length ≤ 1000000 ∧ en.hd.length ≤ 1000000 ∧ hs.length ≤ 1000000 := by
  obtain ⟨R, hR⟩ := lastAt_ex (fun x : Ee => ansB x.2 url rq) l
  obtain ⟨D, hD⟩ : ∃ D, dirL rq = D := ⟨_, rfl⟩
  have hll : ∀ lx : List Ee, lx.map (·.2) = l.map (·.2) → lx.length = l.length := fun lx h => by have := congrArg List.length h; simpa using this
  have hLX : ∀ lx : List Ee, lx.map (·.2) = l.map (·.2) → LastAt (fun x : Ee => ansB x.2 url rq) lx R := fun lx h => lastAt_of_map (fun e => ansB e url rq) h hR
  by_cases hno : R = -1 ∨ D.ns = true
  · refine ⟨1, en0, [], l.length, ⟨fun lx h hzx hlx jb B v w vr hM hJ hq => ?_, fun v w vr hM hv hr hq => ?_⟩, by decide, by decide, by decide⟩
    · rw [mvL_none' lx _ (hll lx h).symm]
      exact ask_no jb B v lx w hM hJ hzx hlx url rq vr hq hzq now R (hLX lx h) D hD hno
    · rw [mvL_none]
      exact rask_no l v url rq vr now w hv hr hz hl hq hzq R hR D hD hno
  · obtain ⟨d1, d2, d3, d4⟩ := D
    have hn1 : R ≠ -1 := fun h => hno (.inl h)
    obtain rfl : d1 = false := by
      cases d1
      · rfl
      · exact absurd (.inr rfl) hno
    have hbd := hR.bd
    obtain ⟨i, rfl⟩ : ∃ i : Nat, R = (i : Int) := ⟨R.toNat, by omega⟩
    have hi : i < l.length := by omega
    obtain ⟨U, hU⟩ : ∃ U, useB ⟨false, d2, d3, d4⟩ l[i].2 now = U := ⟨_, rfl⟩
    have hzi := hz _ (List.getElem_mem hi)
    have hxi : ∀ lx : List Ee, ∀ h : lx.map (·.2) = l.map (·.2), ∃ hi2 : i < lx.length, lx[i].2 = l[i].2 := fun lx h => ⟨by have := hll lx h; omega, map_get h i (by have := hll lx h; omega) hi⟩
    cases U with
    | true =>
      refine ⟨2, l[i].2, [], i, ⟨fun lx h hzx hlx jb B v w vr hM hJ hq => ?_, fun v w vr hM hv hr hq => ?_⟩, hzi.1.1, hzi.2.1, by decide⟩
      · obtain ⟨hi2, he⟩ := hxi lx h
        rw [mvL_some lx i hi2, ← he]
        exact ask_use jb B v lx w hM hJ hzx hlx url rq vr hq hzq now i hi2 _ rfl (hLX lx h) d2 d3 d4 hD (by rw [he]; exact hU)
      · rw [mvL_some l i hi]
        exact rask_use l v url rq vr now w hM hv hr hz hl hq hzq i hi _ rfl hR d2 d3 d4 hD true hU rfl
    | false =>
      by_cases hc : chkL l[i].2.hd = []
      · refine ⟨1, en0, [], l.length, ⟨fun lx h hzx hlx jb B v w vr hM hJ hq => ?_, fun v w vr hM hv hr hq => ?_⟩, by decide, by decide, by decide⟩
        · obtain ⟨hi2, he⟩ := hxi lx h
          rw [mvL_none' lx _ (hll lx h).symm]
          exact ask_chk0 jb B v lx w hM hJ hzx hlx url rq vr hq hzq now i hi2 _ rfl (hLX lx h) d2 d3 d4 hD (by rw [he]; exact hU) (by rw [he]; exact hc)
        · rw [mvL_none]
          exact rask_chk l v url rq vr now w hM hv hr hz hl hq hzq i hi _ rfl hR d2 d3 d4 hD false hU rfl [] hc 1 en0 (.inl ⟨rfl, rfl, rfl⟩)
      · refine ⟨3, l[i].2, chkL l[i].2.hd, l.length, ⟨fun lx h hzx hlx jb B v w vr hM hJ hq => ?_, fun v w vr hM hv hr hq => ?_⟩, hzi.1.1, hzi.2.1, Nat.le_trans (chkL_len _) (by decide)⟩
        · obtain ⟨hi2, he⟩ := hxi lx h
          rw [mvL_none' lx _ (hll lx h).symm, ← he]
          exact ask_chk1 jb B v lx w hM hJ hzx hlx url rq vr hq hzq now i hi2 _ rfl (hLX lx h) d2 d3 d4 hD (by rw [he]; exact hU) _ rfl (by rw [he]; exact hc)
        · rw [mvL_none]
          exact rask_chk l v url rq vr now w hM hv hr hz hl hq hzq i hi _ rfl hR d2 d3 d4 hD false hU rfl _ rfl 3 _ (.inr ⟨hc, rfl, rfl⟩)
end Go.Proofs.YtkobhknggamejaaGreatDoor
