/- CacheVary: the response that depends on two headers. -/
import Derived.Test.YtkobhknggamejaaDoorB6
namespace Go.Proofs.YtkobhknggamejaaDoor
set_option linter.unusedVariables false
set_option linter.unusedSimpArgs false
open Go.RowKit

def hcS : ByteArray := ⟨#[67, 97, 99, 104, 101, 45, 67, 111, 110, 116, 114, 111, 108]⟩
def hmS : ByteArray := ⟨#[109, 97, 120, 45, 97, 103, 101, 61, 54, 48]⟩
def hvS : ByteArray := ⟨#[86, 97, 114, 121]⟩
def hxS : ByteArray := ⟨#[88, 44, 32, 65, 99, 99, 101, 112, 116, 32, 44, 32, 97, 99, 99, 101, 112, 116]⟩
def hAS : ByteArray := ⟨#[65, 67, 67, 69, 80, 84]⟩
def haS : ByteArray := ⟨#[97, 99, 99, 101, 112, 116]⟩
def xS : ByteArray := ⟨#[120]⟩
/-- the headers of the response -/
def vyH : List Hd := [(hcS, hmS), (hvS, hxS)]
theorem vyH_sz : HdSz vyH := ⟨by decide, fun h hh => by
  rcases List.mem_cons.1 hh with rfl | hh
  · exact ⟨by decide, by decide⟩
  · obtain rfl := List.mem_singleton.1 hh; exact ⟨by decide, by decide⟩⟩
theorem vy_vary : varyL vyH = [[88], [65, 99, 99, 101, 112, 116], [97, 99, 99, 101, 112, 116]] := by decide +kernel
theorem vy_dir : dirL vyH = ⟨false, false, false, 60⟩ := by
  have h1 : (dirL vyH).ns = false := by decide +kernel
  have h2 : (dirL vyH).nc = false := by decide +kernel
  have h3 : (dirL vyH).mu = false := by decide +kernel
  have h4 : (dirL vyH).ma = 60 := by decide +kernel
  generalize dirL vyH = D at h1 h2 h3 h4
  obtain ⟨a, b, c, d⟩ := D
  have h1 : a = false := h1
  have h2 : b = false := h2
  have h3 : c = false := h3
  have h4 : d = 60 := h4
  subst h1 h2 h3 h4
  rfl
theorem vy_life : lifeL vyH = 60000 := by decide +kernel
theorem vy_chk : chkL vyH = [] := by decide +kernel
theorem vy_stor (rq : List Hd) : storL 200 rq vyH = !(dirL rq).ns := by
  unfold storL
  rw [vy_dir, vy_vary, vy_life]
  have h1 : okSt 200 = true := by decide +kernel
  rw [h1]
  cases (dirL rq).ns <;> decide +kernel
theorem vy_varyE (rq : List Hd) : varyE rq vyH = [(xS, valL rq [120]), (haS, valL rq [97, 99, 99, 101, 112, 116])] := by
  unfold varyE
  rw [vy_vary]
  rfl
theorem val_x (rq : List Hd) (value : ByteArray) : valL ((hAS, value) :: rq) [120] = valL rq [120] := by
  unfold valL hdrL
  rw [List.find?_cons]
  have : hitH [120] (hAS, value) = false := by
    show (lowL hAS.data.toList == lowL [120]) = false
    decide +kernel
  rw [this]
theorem val_a (rq : List Hd) (value : ByteArray) : valL ((hAS, value) :: rq) [97, 99, 99, 101, 112, 116] = value := by
  unfold valL hdrL
  rw [List.find?_cons]
  have : hitH [97, 99, 99, 101, 112, 116] (hAS, value) = true := by
    show (lowL hAS.data.toList == lowL [97, 99, 99, 101, 112, 116]) = true
    decide +kernel
  rw [this]
  rfl
theorem dir_other (rq : List Hd) (value : ByteArray) : dirL ((hAS, value) :: rq) = dirL rq := by
  unfold dirL
  rw [List.foldl_cons]
  have : dirOne ⟨false, false, false, -1⟩ (hAS, value) = ⟨false, false, false, -1⟩ := by
    unfold dirOne
    rw [if_neg]
    show ¬ lowL hAS.data.toList = ccN
    decide +kernel
  rw [this]
/-- the entry that is stored -/
def vyE (url : ByteArray) (rq : List Hd) (body : ByteArray) (now : Int) : En := ⟨url, varyE rq vyH, 200, vyH, body, now⟩
theorem vy_ans (url : ByteArray) (rq : List Hd) (body : ByteArray) (now : Int) (value : ByteArray) : ansB (vyE url rq body now) url ((hAS, value) :: rq) = (value.toList == (valL rq [97, 99, 99, 101, 112, 116]).toList) := by
  unfold ansB vyE
  show (urlB url url && !(varyE rq vyH).any (misH ((hAS, value) :: rq))) = _
  have h1 : urlB url url = true := by unfold urlB; simp
  rw [h1, vy_varyE]
  simp only [List.any_cons, List.any_nil, Bool.or_false, Bool.true_and]
  have m1 : misH ((hAS, value) :: rq) (xS, valL rq [120]) = false := by
    unfold misH
    show (!((valL ((hAS, value) :: rq) [120]).toList == (valL rq [120]).toList)) = false
    rw [val_x]; simp
  have m2 : misH ((hAS, value) :: rq) (haS, valL rq [97, 99, 99, 101, 112, 116]) = !(value.toList == (valL rq [97, 99, 99, 101, 112, 116]).toList) := by
    unfold misH
    show (!((valL ((hAS, value) :: rq) [97, 99, 99, 101, 112, 116]).toList == (valL rq [97, 99, 99, 101, 112, 116]).toList)) = _
    rw [val_a]
  rw [m1, m2]
  simp
theorem vy_age (now : Int) : ageE now now = 0 := by unfold ageE; omega
theorem vy_use (url : ByteArray) (rq : List Hd) (body : ByteArray) (now : Int) (a b c : Bool) (d : Int) (hd : -1 ≤ d) : useB ⟨a, b, c, d⟩ (vyE url rq body now) now = !b := by
  unfold useB freshE
  show (decide (ageE now now < lifeL vyH) && (!b && (decide (d < 0) || decide (ageE now now ≤ 1000 * d)))) = !b
  rw [vy_age, vy_life]
  have h1 : (decide (d < 0) || decide ((0 : Int) ≤ 1000 * d)) = true := by
    by_cases h : d < 0
    · rw [decide_eq_true h]; rfl
    · rw [decide_eq_true (show (0 : Int) ≤ 1000 * d by omega)]; simp
  rw [h1]
  cases b <;> decide
/-- what Ask makes of the one entry -/
theorem vy_ask (y : Ee) (url : ByteArray) (rq : List Hd) (body : ByteArray) (now : Int) (value : ByteArray) (hy : y.2 = vyE url rq body now) (hz : HdSz y.2.va ∧ HdSz y.2.hd) (hzo : HdSz ((hAS, value) :: rq)) (hns : (dirL rq).ns = false) :
    ∃ (k : Int) (en : En) (hs : List Hd), ((value.toList == (valL rq [97, 99, 99, 101, 112, 116]).toList) = false → k = 1) ∧ ((value.toList == (valL rq [97, 99, 99, 101, 112, 116]).toList) = true → (dirL rq).nc = false → k = 2) ∧ ((value.toList == (valL rq [97, 99, 99, 101, 112, 116]).toList) = true → (dirL rq).nc = true → k = 1) ∧
      ∀ (jb B : Nat) (v : Value) (w : World) (vr : Value), MaxAt w → CaIn w jb B v [y] → SlK hdC 2 w vr ((hAS, value) :: rq) → Calls Tryd.prog 8 #[.pointer (some ⟨jb, 0, none⟩), .string url, vr, .int .i64 now] w (AskQ w jb B v k en hs [y]) := by
  have hA : ansB y.2 url ((hAS, value) :: rq) = (value.toList == (valL rq [97, 99, 99, 101, 112, 116]).toList) := by rw [hy]; exact vy_ans url rq body now value
  have hz1 : ∀ x ∈ [y], HdSz x.2.va ∧ HdSz x.2.hd := fun x hx => by obtain rfl := List.mem_singleton.1 hx; exact hz
  obtain ⟨D, hD⟩ : ∃ D, dirL rq = D := ⟨_, rfl⟩
  have hD2 : dirL ((hAS, value) :: rq) = D := by rw [dir_other]; exact hD
  have hDb := dirL_bd rq
  rw [hD] at hDb
  rw [hD] at hns ⊢
  obtain ⟨d1, d2, d3, d4⟩ := D
  have hns : d1 = false := hns
  subst hns
  cases hc : (value.toList == (valL rq [97, 99, 99, 101, 112, 116]).toList) with
  | false =>
    refine ⟨1, en0, [], fun _ => rfl, fun h => (by cases h), fun h => (by cases h), fun jb B v w vr hM hJ hq => ?_⟩
    exact ask_no jb B v [y] w hM hJ hz1 (show 1 ≤ 1000 by decide) url _ vr hq hzo now (-1) (.inl ⟨rfl, fun j hj => by
      have : j = 0 := by have : [y].length = 1 := rfl; omega
      subst this
      show ansB y.2 url _ = false
      rw [hA, hc]⟩) _ hD2 (.inl rfl)
  | true =>
    have hl : LastAt (fun x : Ee => ansB x.2 url ((hAS, value) :: rq)) [y] ((0 : Nat) : Int) := .inr ⟨0, Nat.zero_lt_one, rfl, by show ansB y.2 url _ = true; rw [hA, hc], fun j hj hlt => by have : [y].length = 1 := rfl; omega⟩
    have hU : useB ⟨false, d2, d3, d4⟩ y.2 now = !d2 := by rw [hy]; exact vy_use url rq body now false d2 d3 d4 hDb.1
    cases d2 with
    | false =>
      refine ⟨2, y.2, [], fun h => (by cases h), fun _ _ => rfl, fun _ h => (by cases h), fun jb B v w vr hM hJ hq => ?_⟩
      exact ask_use jb B v [y] w hM hJ hz1 (show 1 ≤ 1000 by decide) url _ vr hq hzo now 0 Nat.zero_lt_one y rfl hl false d3 d4 hD2 hU
    | true =>
      refine ⟨1, en0, [], fun _ => rfl, fun _ h => (by cases h), fun _ _ => rfl, fun jb B v w vr hM hJ hq => ?_⟩
      exact ask_chk0 jb B v [y] w hM hJ hz1 (show 1 ≤ 1000 by decide) url _ vr hq hzo now 0 Nat.zero_lt_one y rfl hl true d3 d4 hD2 hU (by rw [hy]; exact vy_chk)
theorem askq_open2 {w : World} {jb B : Nat} {v : Value} {k : Int} {en : En} {hs : List Hd} {l' : List Ee} {e : Ending} {w' : World} (h : AskQ w jb B v k en hs l' e w') :
    ∃ (u : ByteArray) (a1 : Option Addr) (n1 k1 : Nat) (st : Int) (a2 : Option Addr) (n2 k2 : Nat) (bo : ByteArray) (ti : Int) (ua : Option Addr) (un uc : Nat), e = .returned (.agg #[.int .i64 k, .string u, .slice a1 n1 k1, .int .i64 st, .slice a2 n2 k2, .string bo, .int .i64 ti, .slice ua un uc]) ∧ CaTo w jb B v l' w' := by
  obtain ⟨r, u, h1, h2, h3, h4⟩ := h
  have hs2 := Rd.shp (x := (r, en)) h2
  obtain ⟨⟨a1, n1, k1, e1⟩, a2, n2, k2, e2⟩ := hs2
  obtain ⟨ua, uc, rfl, _⟩ := h3.shape
  obtain ⟨u, vv, st, hh, bo, ti⟩ := r
  have e1 : vv = .slice a1 n1 k1 := e1
  have e2 : hh = .slice a2 n2 k2 := e2
  subst e1 e2
  exact ⟨u, a1, n1, k1, st, a2, n2, k2, bo, ti, ua, _, uc, h1, h4⟩
theorem putq_open {w : World} {jb B : Nat} {v : Value} {e0 : En} {e : Ending} {w' : World} (h : PutQ w jb B v true [e0] e w') : ∃ (y : Ee), e = .returned (.bool true) ∧ y.2 = e0 ∧ CaTo w jb B v [y] w' := by
  obtain ⟨h1, l', h2, h3⟩ := h
  match l', h3 with
  | [y], h3 => exact ⟨y, h1, by simpa using h3, h2⟩
theorem putq_none {w : World} {jb B : Nat} {v : Value} {e : Ending} {w' : World} (h : PutQ w jb B v false [] e w') : e = .returned (.bool false) ∧ CaTo w jb B v [] w' := by
  obtain ⟨h1, l', h2, h3⟩ := h
  match l', h3 with
  | [], h3 => exact ⟨h1, h2⟩
/-- where the vary headers of the one entry lie -/
theorem vy_cells {w : World} {jb B : Nat} {a : Option Addr} {c : Nat} {y : Ee} {va : List Hd} {p0 p1 : Hd} (hJ : CaIn w jb B (.slice a 1 c) [y]) (hva : y.2.va = va) (hv2 : va = [p0, p1]) :
    ∃ (g b off k : Nat), a = some ⟨g, 0, none⟩ ∧ w.cell? ⟨jb, 0, none⟩ = some (.slice (some ⟨g, 0, none⟩) 1 c) ∧ w.cell? ⟨g, 1, none⟩ = some (.slice (some ⟨b, off, none⟩) 2 k) ∧ w.cell? ⟨b, off + 2, none⟩ = some (.string p1.1) ∧ w.cell? ⟨b, off + 2 + 1, none⟩ = some (.string p1.2) := by
  obtain ⟨a', c', he, _, _, ha⟩ := own_reads hJ.own
  injection he with e1 _ _
  subst e1
  rcases ha with ⟨_, h0⟩ | ⟨g, rfl, _, _, hcell⟩
  · simp at h0
  have hrd := (hJ.rd y List.mem_cons_self).va
  rw [hva, hv2] at hrd
  rcases hrd with ⟨h0, _⟩ | ⟨_, b, off, k, hv, _, _, _, hc⟩
  · cases h0
  · refine ⟨g, b, off, k, rfl, hJ.at_.c 0 rfl, ?_, ?_, ?_⟩
    · have := hcell 1 _ (cellsK_get eelen [y] 0 Nat.zero_lt_one 1 y.1.vv rfl)
      rw [hv] at this
      simpa using this
    · simpa using hc 1 (show 1 < 2 by decide) 0 _ rfl
    · simpa using hc 1 (show 1 < 2 by decide) 1 _ rfl
end Go.Proofs.YtkobhknggamejaaDoor
