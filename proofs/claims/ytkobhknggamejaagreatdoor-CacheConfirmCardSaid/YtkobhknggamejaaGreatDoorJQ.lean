/- CacheConfirm: what Confirm makes of a cache, said for both cases. -/
import Derived.Test.YtkobhknggamejaaGreatDoorJP
import Derived.Test.YtkobhknggamejaaGreatDoorJF1
namespace Go.Proofs.YtkobhknggamejaaGreatDoor
set_option linter.unusedVariables false
set_option linter.unusedSimpArgs false
open Go.RowKit

theorem map_get2 {lx l : List Ee} (h : lx.map (·.2) = l.map (·.2)) (j : Nat) (hj : j < lx.length) (hj2 : j < l.length) : lx[j].2 = l[j].2 := by
  have := congrArg (fun z => z[j]?) h
  simp only [List.getElem?_map, List.getElem?_eq_getElem hj, List.getElem?_eq_getElem hj2, Option.map_some, Option.some.injEq] at this
  exact this
theorem lastAt_of_map2 (p : En → Bool) {lx l : List Ee} (h : lx.map (·.2) = l.map (·.2)) {R : Int} (hR : LastAt (fun x => p x.2) l R) : LastAt (fun x => p x.2) lx R := by
  have hl : lx.length = l.length := by have := congrArg List.length h; simpa using this
  rcases hR with ⟨h1, h2⟩ | ⟨k, hk, h1, h2, h3⟩
  · exact .inl ⟨h1, fun j hj => by show p lx[j].2 = false; rw [map_get2 h j hj (by omega)]; exact h2 j (by omega)⟩
  · exact .inr ⟨k, by omega, h1, by show p lx[k].2 = true; rw [map_get2 h k (by omega) hk]; exact h2, fun j hj hlt => by show p lx[j].2 = false; rw [map_get2 h j hj (by omega)]; exact h3 j (by omega) hlt⟩
theorem erase_map {α β : Type} (f : α → β) (l : List α) (i : Nat) : (l.eraseIdx i).map f = (l.map f).eraseIdx i := by
  rw [List.eraseIdx_eq_take_drop_succ, List.eraseIdx_eq_take_drop_succ, List.map_append, List.map_take, List.map_drop]
/-- what Confirm answers, and what the cache is then -/
def ConfR (w : World) (jb B : Nat) (v : Value) (l : List Ee) (ok : Bool) (en : En) (es : List En) (e : Ending) (w' : World) : Prop :=
  ∃ (u : ByteArray) (a1 : Option Addr) (n1 k1 : Nat) (st : Int) (a2 : Option Addr) (n2 k2 : Nat) (bo : ByteArray) (ti : Int) (L : List Ee), e = .returned (.tuple #[.agg #[.string u, .slice a1 n1 k1, .int .i64 st, .slice a2 n2 k2, .string bo, .int .i64 ti], .bool ok]) ∧ Rd w' (⟨u, .slice a1 n1 k1, st, .slice a2 n2 k2, bo, ti⟩ : Er) en ∧ NewE (⟨u, .slice a1 n1 k1, st, .slice a2 n2 k2, bo, ti⟩, en) w.heap.size ∧ CaTo w jb B v L w' ∧ L.map (·.2) = es ∧ ∀ y ∈ L, y ∈ l ∨ NewE y w.heap.size
/-- the entry when it was confirmed -/
def confE (e : En) (hs : List Hd) (now : Int) : En := ⟨e.u, e.va, e.st, mergeL e.hd hs, e.bo, now⟩
theorem conf_any (l : List Ee) (url : ByteArray) (rq hs : List Hd) (now : Int) (hz : ∀ x ∈ l, HdSz x.2.va ∧ HdSz x.2.hd) (hl : l.length ≤ 1000) (hzq : HdSz rq) (hzh : HdSz hs) (hhl : hs.length ≤ 100) (hxl : ∀ x ∈ l, x.2.hd.length ≤ 100) (R : Int) (hR : LastAt (fun x : Ee => ansB x.2 url rq) l R) :
    ∃ (ok : Bool) (en : En) (es : List En), ((R = -1 ∧ ok = false ∧ en = en0 ∧ es = l.map (·.2)) ∨ ∃ i, ∃ hi : i < l.length, R = (i : Int) ∧ ok = true ∧ en = confE l[i].2 hs now ∧ es = (l.map (·.2)).eraseIdx i ++ [en]) ∧ en.va.length ≤ 1000000 ∧ en.hd.length ≤ 1000000 ∧
      ∀ (lx : List Ee), lx.map (·.2) = l.map (·.2) → (∀ x ∈ lx, HdSz x.2.va ∧ HdSz x.2.hd) → ∀ (jb B : Nat) (v : Value) (w : World) (vr vh : Value), CaIn w jb B v lx → SlK hdC 2 w vr rq → SlK hdC 2 w vh hs → Calls Tryz.prog 35 #[.pointer (some ⟨jb, 0, none⟩), .string url, vr, vh, .int .i64 now] w (ConfR w jb B v lx ok en es) := by
  have hll : ∀ lx : List Ee, lx.map (·.2) = l.map (·.2) → lx.length = l.length := fun lx h => by have := congrArg List.length h; simpa using this
  have hLX : ∀ lx : List Ee, lx.map (·.2) = l.map (·.2) → LastAt (fun x : Ee => ansB x.2 url rq) lx R := fun lx h => lastAt_of_map2 (fun e => ansB e url rq) h hR
  have hbd := hR.bd
  by_cases hR1 : R = -1
  · subst hR1
    refine ⟨false, en0, _, .inl ⟨rfl, rfl, rfl, rfl⟩, by decide, by decide, fun lx h hzx jb B v w vr vh hJ hq hh => ?_⟩
    refine (conf_no jb B v lx w hJ hzx (by rw [hll lx h]; exact hl) url rq vr hq hzq vh now (hLX lx h)).mono ?_
    rintro e w' ⟨rfl, h2⟩
    exact ⟨⟨#[]⟩, none, 0, 0, 0, none, 0, 0, ⟨#[]⟩, 0, lx, rfl, rd0 _, ⟨fun b off n k e => (by cases e), fun b off n k e => (by cases e)⟩, h2, h, fun y hy => .inl hy⟩
  · obtain ⟨i, rfl⟩ : ∃ i : Nat, R = (i : Int) := ⟨R.toNat, by omega⟩
    have hi : i < l.length := by omega
    have hzi := hz _ (List.getElem_mem hi)
    have hxi := hxl _ (List.getElem_mem hi)
    have hml := merge_len l[i].2.hd hs
    refine ⟨true, confE l[i].2 hs now, _, .inr ⟨i, hi, rfl, rfl, rfl, rfl⟩, hzi.1.1, by show (mergeL l[i].2.hd hs).length ≤ 1000000; omega, fun lx h hzx jb B v w vr vh hJ hq hh => ?_⟩
    have hi2 : i < lx.length := by rw [hll lx h]; exact hi
    have he := map_get2 h i hi2 hi
    refine (conf_yes jb B v lx w hJ hzx (by rw [hll lx h]; exact hl) url rq vr hq hzq hs vh hh hzh hhl now i hi2 _ rfl (by rw [he]; exact hxi) (hLX lx h)).mono ?_
    rintro e w' ⟨r, r', rfl, h2, h3, h4, h5⟩
    rw [he] at h2 h3 h4 h5
    have hs2 := Rd.shp (x := (r, _)) h2
    obtain ⟨⟨a1, n1, k1, e1⟩, a2, n2, k2, e2⟩ := hs2
    obtain ⟨u, vv, st, hh2, bo, ti⟩ := r
    have e1 : vv = .slice a1 n1 k1 := e1
    have e2 : hh2 = .slice a2 n2 k2 := e2
    subst e1 e2
    refine ⟨u, a1, n1, k1, st, a2, n2, k2, bo, ti, _, rfl, h2, h4, h3, ?_, fun y hy => ?_⟩
    · rw [List.map_append, erase_map, h]; rfl
    · rcases List.mem_append.1 hy with h6 | h6
      · exact .inl (List.mem_of_mem_eraseIdx h6)
      · obtain rfl := List.mem_singleton.1 h6; exact .inr h5
/-- what lies in memory behind the call of Confirm -/
def ConfAt (W4 : World) (jb B : Nat) (ok : Bool) (en : En) (es : List En) (c8 c9 : Value) (w' : World) : Prop :=
  ∃ (P : Nat) (u : ByteArray) (a1 : Option Addr) (n1 k1 : Nat) (st : Int) (a2 : Option Addr) (n2 k2 : Nat) (bo : ByteArray) (ti : Int) (L : List Ee) (a : Option Addr) (c : Nat), .pointer (some ⟨P, 0, none⟩) = c8 ∧ .bool ok = c9 ∧ AtL w' P [.string u, .slice a1 n1 k1, .int .i64 st, .slice a2 n2 k2, .string bo, .int .i64 ti] ∧ Rd w' (⟨u, .slice a1 n1 k1, st, .slice a2 n2 k2, bo, ti⟩ : Er) en ∧ CaIn w' jb B (.slice a L.length c) L ∧ L.map (·.2) = es ∧ W4.heap.size ≤ P ∧ Below B W4 w'
theorem confat_ab {W4 w5 w6 : World} {jb B P : Nat} {v : Value} {lx L : List Ee} {ok : Bool} {en : En} {es : List En} {u : ByteArray} {a1 : Option Addr} {n1 k1 : Nat} {st : Int} {a2 : Option Addr} {n2 k2 : Nat} {bo : ByteArray} {ti : Int} (hJ4 : CaIn W4 jb B v lx) (hjB : B ≤ jb) (h45 : Below W4.heap.size W4 w5) (hP : W4.heap.size ≤ P) (hA : AtL w5 P zE)
    (hrd : Rd w6 (⟨u, .slice a1 n1 k1, st, .slice a2 n2 k2, bo, ti⟩ : Er) en) (hn : NewE (⟨u, .slice a1 n1 k1, st, .slice a2 n2 k2, bo, ti⟩, en) w5.heap.size) (hto : CaTo w5 jb B v L w6) (hes : L.map (·.2) = es) (hmem : ∀ y ∈ L, y ∈ lx ∨ NewE y w5.heap.size) :
    ConfAt W4 jb B ok en es (.pointer (some ⟨P, 0, none⟩)) (.bool ok) (setE6 w6 P (.string u) (.slice a1 n1 k1) (.int .i64 st) (.slice a2 n2 k2) (.string bo) (.int .i64 ti)) := by
  have hj4 := hJ4.at_.lt
  have hP5 := hA.lt
  have hvo : v.ownBlock ≠ some P := fun e => by have := hown_lt hJ4.own P e; omega
  have hlow := hto.lowB (hJ4.below h45 (Nat.le_refl _)) hjB
  have hle := hJ4.le
  obtain ⟨a, c, h1, h2, h3⟩ := hto.out
  have A6 := hA.row h3 hP5 (by omega) hvo
  have hvo2 : (Value.slice a L.length c).ownBlock ≠ some P := fun e => by
    rcases h2 P e with h4 | h4
    · exact hvo h4
    · omega
  have hfar : ∀ y ∈ L, FarE y P none := fun y hy => by
    rcases hmem y hy with h4 | h4
    · exact FarE.new (hJ4.rd y h4) hP
    · exact h4.far hP5 (fun b e => by cases e)
  have cc := fun (W : World) (h : CaIn W jb B (.slice a L.length c) L) (o : Nat) (x : Value) => ca_set h ⟨P, o, none⟩ x (by show P ≠ jb; omega) hvo2 hfar
  have hf1 : FarV en.va (.slice a1 n1 k1) P none := fun _ b off n k e => ⟨by have := hn.1 b off n k e; omega, by simp⟩
  have hf2 : FarV en.hd (.slice a2 n2 k2) P none := fun _ b off n k e => ⟨by have := hn.2 b off n k e; omega, by simp⟩
  exact ⟨P, u, a1, n1, k1, st, a2, n2, k2, bo, ti, L, a, c, rfl, rfl, A6.setE6 rfl _ _ _ _ _ _, ⟨hrd.u, hrd.st, hrd.bo, hrd.ti, slk_setE6 hrd.va hf1 _ _ _ _ _ _, slk_setE6 hrd.hd hf2 _ _ _ _ _ _⟩, cc _ (cc _ (cc _ (cc _ (cc _ (cc _ h1 0 _) 1 _) 2 _) 3 _) 4 _) 5 _, hes, hP, below_setE6 ((h45.mono hle).trans hlow) (by omega) _ _ _ _ _ _⟩
theorem confat_c {W4 w5 w6 : World} {jb B : Nat} {v : Value} {lx L : List Ee} {ok : Bool} {en : En} {es : List En} {u : ByteArray} {a1 : Option Addr} {n1 k1 : Nat} {st : Int} {a2 : Option Addr} {n2 k2 : Nat} {bo : ByteArray} {ti : Int} (hJ4 : CaIn W4 jb B v lx) (hjB : B ≤ jb) (h45 : Below W4.heap.size W4 w5)
    (hrd : Rd w6 (⟨u, .slice a1 n1 k1, st, .slice a2 n2 k2, bo, ti⟩ : Er) en) (hto : CaTo w5 jb B v L w6) (hes : L.map (·.2) = es) :
    ConfAt W4 jb B ok en es (.pointer (some ⟨w6.heap.size, 0, none⟩)) (.bool ok) (w6.alloc (.cells #[.string u, .slice a1 n1 k1, .int .i64 st, .slice a2 n2 k2, .string bo, .int .i64 ti] 40)) := by
  have hlow := hto.lowB (hJ4.below h45 (Nat.le_refl _)) hjB
  have hle := hJ4.le
  have h46 := (h45.mono hle).trans hlow
  have hs6 := hto.size
  have hs5 := h45.size
  obtain ⟨a, c, h1, h2, h3⟩ := hto.out
  have hal : Below w6.heap.size w6 (w6.alloc (.cells #[.string u, .slice a1 n1 k1, .int .i64 st, .slice a2 n2 k2, .string bo, .int .i64 ti] 40)) := (Below.refl _ w6).alloc (Nat.le_refl _) _
  exact ⟨_, u, a1, n1, k1, st, a2, n2, k2, bo, ti, L, a, c, rfl, rfl, AtL.new w6 [.string u, .slice a1 n1 k1, .int .i64 st, .slice a2 n2 k2, .string bo, .int .i64 ti] 40, hrd.below hal (Nat.le_refl _), h1.below hal (Nat.le_refl _), hes, by omega, h46.alloc (by omega) _⟩
theorem q3_mk {W : World} {Q : Nat} {a b c : Value} (h : AtL W Q [a, b, c]) : W.cell? ⟨Q, 0, none⟩ = some a ∧ W.cell? ⟨Q, 1, none⟩ = some b ∧ W.cell? ⟨Q, 2, none⟩ = some c := ⟨h.c 0 rfl, h.c 1 rfl, h.c 2 rfl⟩
theorem atl_farE6 {W : World} {k q : Nat} {vs : List Value} (h : AtL W q vs) (hk : k ≠ q) (a b c d e f : Value) : AtL (setE6 W k a b c d e f) q vs :=
  (((((h.far ⟨k, 0, none⟩ a hk).far ⟨k, 1, none⟩ b hk).far ⟨k, 2, none⟩ c hk).far ⟨k, 3, none⟩ d hk).far ⟨k, 4, none⟩ e hk).far ⟨k, 5, none⟩ f hk
end Go.Proofs.YtkobhknggamejaaGreatDoor
