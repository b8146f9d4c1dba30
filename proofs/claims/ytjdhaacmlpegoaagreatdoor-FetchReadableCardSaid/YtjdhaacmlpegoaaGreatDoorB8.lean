import Derived.Test.YtjdhaacmlpegoaaGreatDoorB1
import Derived.Test.YtjdhaacmlpegoaaGreatDoorUN
import Derived.Shelf.SlicesQ.IndexFunc
import Derived.Deep.LoopGhost
import Derived.Deep.QuietTactic
import Derived.BigQuiet
import Derived.Test.YtjdhaacmlpegoaaGreatDoorLV2
import Derived.OneCell
import Derived.Deep.RegionHeld3
import Derived.Deep.RegionLaw
import Derived.Deep.AppendLies
import Derived.Outline
import Derived.Deep.DeepCutAuto
import Derived.Test.YtjdhaacmlpegoaaGreatDoorK2
import Derived.Test.YtjdhaacmlpegoaaGreatDoorLA
import Derived.Test.YtjdhaacmlpegoaaGreatDoorUS
import Derived.KernelRfl
/- Cookies: what a field sets (plain); control characters. -/
namespace Go.Proofs.YtjdhaacmlpegoaaGreatDoor
set_option linter.unusedVariables false
set_option linter.unusedSimpArgs false
open Go.RowKit

/-- a cookie -/
structure Ck where
  n : ByteArray
  v : ByteArray
  d : ByteArray
  p : ByteArray
  ho : Bool
  se : Bool
  hi : Bool
  ex : Int
  cr : Int
abbrev ckL (c : Ck) : List Value := [.string c.n, .string c.v, .string c.d, .string c.p, .bool c.ho, .bool c.se, .bool c.hi, .int .i64 c.ex, .int .i64 c.cr]
abbrev ckA (c : Ck) : Value := .agg #[.string c.n, .string c.v, .string c.d, .string c.p, .bool c.ho, .bool c.se, .bool c.hi, .int .i64 c.ex, .int .i64 c.cr]
def E : ByteArray := ⟨#[]⟩
abbrev ck0 : Ck := ⟨⟨#[]⟩, ⟨#[]⟩, ⟨#[]⟩, ⟨#[]⟩, false, false, false, 0, 0⟩
def bs (l : List UInt8) : ByteArray := ⟨l.toArray⟩
theorem bs_list (l : List UInt8) : (bs l).data.toList = l := rfl
theorem bs_size (l : List UInt8) : (bs l).size = l.length := by rw [← size_len]; rfl
theorem bs_of {t : ByteArray} {l : List UInt8} (h : t.data.toList = l) : t = bs l := ba_ext' h

abbrev maxageL : List UInt8 := [109, 97, 120, 45, 97, 103, 101]
abbrev domainL : List UInt8 := [100, 111, 109, 97, 105, 110]
abbrev pathwL : List UInt8 := [112, 97, 116, 104]
abbrev secureL : List UInt8 := [115, 101, 99, 117, 114, 101]
abbrev hidL : List UInt8 := [104, 116, 116, 112, 111, 110, 108, 121]
/-- a domain without its dot -/
def undot (l : List UInt8) : List UInt8 := if Lib.hasPrefix l [46] = true then l.drop 1 else l
/-- what a part with a name changes; host, path: the address's host, and its default path -/
def attrC (host path : ByteArray) (now : Int) (c : Ck) (name value : List UInt8) : Ck :=
  if name = maxageL then (match ageL value with | some n => { c with ex := clockI now + n * 1000 } | none => c)
  else if name = domainL then (if lowL (undot value) = [] then { c with d := host, ho := true } else { c with d := bs (lowL (undot value)), ho := false })
  else if name = pathwL then { c with p := if Lib.hasPrefix value [47] = true then bs value else path }
  else if name = secureL then { c with se := true }
  else if name = hidL then { c with hi := true }
  else c
def stepC (host path : ByteArray) (now : Int) (c : Ck) (part : List UInt8) : Ck := attrC host path now c (lowL (trimC (pre 61 part))) (trimC (post 61 part))
def ctlB (b : UInt8) : Bool := decide (b.toNat < 32) && b != 9 || b == 127
def ctlL (l : List UInt8) : Bool := l.any ctlB
def firstC (host path : ByteArray) (part : List UInt8) : Ck := ⟨bs (trimC (pre 61 part)), bs (trimC (post 61 part)), host, path, true, false, false, -1, 0⟩
def lastC (host scheme : List UInt8) (c : Ck) : Ck × Int :=
  if domL host c.d.data.toList = false ∨ (c.d.data.toList ≠ host ∧ c.d.data.toList.contains 46 = false) then (ck0, 15)
  else if c.se = true ∧ scheme ≠ httpsL then (ck0, 7)
  else (c, 0)
/-- the cookie that a field sets at an address, or the error -/
def parseC (field : List UInt8) (ok : Bool) (scheme host path : ByteArray) (now : Int) : Ck × Int :=
  if ok = false then (ck0, 7)
  else match segs 59 field with
    | [] => (ck0, 4)
    | p0 :: ps =>
      if p0.contains 61 = false ∨ trimC (pre 61 p0) = [] ∨ ctlL field = true then (ck0, 4)
      else lastC host.data.toList scheme.data.toList (ps.foldl (stepC host (bs (defpL path.data.toList)) now) (firstC host (bs (defpL path.data.toList)) p0))
def resC (r : Ck × Int) : Value := .tuple #[ckA r.1, .int .i64 r.2]

/-! control characters -/
def ctlN (n : Nat) : Bool := decide (n < 32) && decide (n ≠ 9) || decide (n = 127)
theorem ctlN_lt (n : Nat) (h : ctlN n = true) : n < 128 := by
  unfold ctlN at h
  simp only [Bool.or_eq_true, Bool.and_eq_true, decide_eq_true_eq] at h
  omega
theorem ctlB_is (b : UInt8) : ctlB b = ctlN b.toNat := by
  unfold ctlB ctlN
  have e1 : (b != 9) = decide (b.toNat ≠ 9) := by
    rw [Bool.eq_iff_iff, bne_iff_ne, decide_eq_true_eq]
    exact ⟨fun h e => h (UInt8.toNat_inj.1 e), fun h e => h (by rw [e]; rfl)⟩
  have e2 : (b == 127) = decide (b.toNat = 127) := by
    rw [Bool.eq_iff_iff, beq_iff_eq, decide_eq_true_eq]
    exact ⟨fun h => by rw [h]; rfl, fun h => UInt8.toNat_inj.1 h⟩
  rw [e1, e2]
theorem dec_cases (s : ByteArray) (i : Nat) :
    ((s.get! i).toNat < 128 ∧ Utf8.decode s i = ((s.get! i).toNat, 1)) ∨ (128 ≤ (s.get! i).toNat ∧ 128 ≤ (Utf8.decode s i).1 ∧ 1 ≤ (Utf8.decode s i).2 ∧ ∀ k, 1 ≤ k → k < (Utf8.decode s i).2 → i + k < s.size ∧ 128 ≤ (s.get! (i + k)).toNat) := by
  by_cases h0 : (s.get! i).toNat < 128
  · left
    refine ⟨h0, ?_⟩
    unfold Utf8.decode
    simp only [Nat.add_zero]
    rw [if_pos h0]
  · right
    refine ⟨by omega, ?_⟩
    have cc : ∀ k, (decide (i + k < s.size) && ((s.get! (i + k)).toNat / 64 == 2)) = true → i + k < s.size ∧ 128 ≤ (s.get! (i + k)).toNat := fun k h => by
      simp only [Bool.and_eq_true, decide_eq_true_eq, beq_iff_eq] at h
      omega
    unfold Utf8.decode
    simp only [Nat.add_zero]
    rw [if_neg h0]
    split
    · next h =>
      simp only [Bool.and_eq_true] at h
      have c1 := cc 1 (by simp only [Bool.and_eq_true]; exact h.2)
      split
      · next h2 => 
        refine ⟨h2, by simp, fun k hk1 hk2 => ?_⟩
        simp only at hk2
        obtain rfl : k = 1 := by omega
        exact c1
      · exact ⟨by decide, by omega, fun k hk1 hk2 => by simp at hk2; omega⟩
    · split
      · next h =>
        simp only [Bool.and_eq_true] at h
        have c1 := cc 1 (by simp only [Bool.and_eq_true]; exact h.1.2)
        have c2 := cc 2 (by simp only [Bool.and_eq_true]; exact h.2)
        split
        · next h2 =>
          simp only [Bool.and_eq_true, decide_eq_true_eq] at h2
          refine ⟨by simp only; omega, by simp, fun k hk1 hk2 => ?_⟩
          simp only at hk2
          rcases (by omega : k = 1 ∨ k = 2) with rfl | rfl
          · exact c1
          · exact c2
        · exact ⟨by decide, by omega, fun k hk1 hk2 => by simp at hk2; omega⟩
      · split
        · next h =>
          simp only [Bool.and_eq_true] at h
          have c1 := cc 1 (by simp only [Bool.and_eq_true]; exact h.1.1.2)
          have c2 := cc 2 (by simp only [Bool.and_eq_true]; exact h.1.2)
          have c3 := cc 3 (by simp only [Bool.and_eq_true]; exact h.2)
          split
          · next h2 =>
            simp only [Bool.and_eq_true, decide_eq_true_eq] at h2
            refine ⟨by simp only; omega, by simp, fun k hk1 hk2 => ?_⟩
            simp only at hk2
            rcases (by omega : k = 1 ∨ k = 2 ∨ k = 3) with rfl | rfl | rfl
            · exact c1
            · exact c2
            · exact c3
          · exact ⟨by decide, by omega, fun k hk1 hk2 => by simp at hk2; omega⟩
        · exact ⟨by decide, by omega, fun k hk1 hk2 => by simp at hk2; omega⟩
theorem get_at (s : ByteArray) (i : Nat) (h : i < s.size) : s.get! i = s[i] := by
  show s.data[i]! = _
  rw [getElem!_pos s.data i h]; rfl
theorem ctl_skip (s : ByteArray) : ∀ (n i : Nat), i + n ≤ s.size → (∀ k, k < n → 128 ≤ (s.get! (i + k)).toNat) → (s.data.toList.drop i).any ctlB = (s.data.toList.drop (i + n)).any ctlB := by
  intro n
  induction n with
  | zero => intro i _ _; rfl
  | succ n ih =>
    intro i h1 h2
    have hi : i < s.size := by omega
    have h3 := h2 0 (by omega)
    rw [Nat.add_zero, get_at s i hi] at h3
    have h4 : ctlB s[i] = false := by
      cases e : ctlB s[i] with
      | false => rfl
      | true => rw [ctlB_is] at e; have := ctlN_lt _ e; omega
    rw [drop_at s i hi, List.any_cons, h4, Bool.false_or, ih (i + 1) (by omega) (fun k hk => by have := h2 (k + 1) (by omega); rwa [show i + (k + 1) = i + 1 + k by omega] at this)]
    congr 2; omega
end Go.Proofs.YtjdhaacmlpegoaaGreatDoor

/- Slices of structs: reading; rows of structs that are written. -/
namespace Go.Proofs.YtjdhaacmlpegoaaGreatDoor
set_option linter.unusedVariables false
set_option linter.unusedSimpArgs false
open Go.RowKit

/-- a slice that reads as a list of structs of k cells -/
def SlK {α : Type} (enc : α → List Value) (k : Nat) (w : World) (v : Value) (l : List α) : Prop :=
  (l = [] ∧ ∃ a cap, v = .slice a 0 cap ∧ cap ≤ maxLen) ∨ (l ≠ [] ∧ ∃ b off cap, v = .slice (some ⟨b, off, none⟩) l.length cap ∧ l.length ≤ cap ∧ cap ≤ maxLen ∧ b < w.heap.size ∧ ∀ i (h : i < l.length) j u, (enc l[i])[j]? = some u → w.cell? ⟨b, off + i * k + j, none⟩ = some u)
theorem SlK.below {α : Type} {enc : α → List Value} {k : Nat} {w w' : World} {v : Value} {l : List α} {B : Nat} (h : SlK enc k w v l) (hb : Below B w w') (hB : w.heap.size ≤ B) : SlK enc k w' v l := by
  rcases h with h | ⟨h0, b, off, cap, h1, h2, h3, h4, h5⟩
  · exact .inl h
  · exact .inr ⟨h0, b, off, cap, h1, h2, h3, Nat.lt_of_lt_of_le h4 hb.size, fun i hi j u hu => (hb.cell (p := ⟨b, off + i * k + j, none⟩) (by show b < B; omega)).trans (h5 i hi j u hu)⟩
theorem SlK.shape {α : Type} {enc : α → List Value} {k : Nat} {w : World} {v : Value} {l : List α} (h : SlK enc k w v l) : ∃ a cap, v = .slice a l.length cap ∧ cap ≤ maxLen := by
  rcases h with ⟨rfl, a, cap, h1, h2⟩ | ⟨h0, b, off, cap, h1, h2, h3, h4, h5⟩
  · exact ⟨a, cap, h1, h2⟩
  · exact ⟨_, cap, h1, h3⟩
/-- the cells of a list of structs -/
def cellsK {α : Type} (enc : α → List Value) (l : List α) : List Value := l.flatMap enc
theorem cellsK_len {α : Type} {enc : α → List Value} {k : Nat} (hk : ∀ x, (enc x).length = k) (l : List α) : (cellsK enc l).length = l.length * k := by
  unfold cellsK
  induction l with
  | nil => simp
  | cons x l ih => rw [List.flatMap_cons, List.length_append, ih, hk, List.length_cons, Nat.add_mul]; omega
theorem cellsK_app {α : Type} (enc : α → List Value) (a b : List α) : cellsK enc (a ++ b) = cellsK enc a ++ cellsK enc b := by simp [cellsK]
theorem cellsK_get {α : Type} {enc : α → List Value} {k : Nat} (hk : ∀ x, (enc x).length = k) : ∀ (l : List α) (i : Nat) (h : i < l.length) (j : Nat) (u : Value), (enc l[i])[j]? = some u → (cellsK enc l)[i * k + j]? = some u := by
  intro l
  induction l with
  | nil => intro i h; simp at h
  | cons x l ih =>
    intro i h j u hu
    have hj : ∀ y, (enc y)[j]? = some u → j < k := fun y hy => by have := (List.getElem?_eq_some_iff.1 hy).1; rwa [hk] at this
    unfold cellsK
    rw [List.flatMap_cons]
    cases i with
    | zero =>
      simp only [List.getElem_cons_zero] at hu
      rw [Nat.zero_mul, Nat.zero_add, List.getElem?_append_left (by rw [hk]; exact hj _ hu)]
      exact hu
    | succ i =>
      simp only [List.getElem_cons_succ] at hu
      rw [Nat.add_mul, Nat.one_mul, List.getElem?_append_right (by rw [hk]; omega), hk, show i * k + k + j - k = i * k + j by omega]
      exact ih i (by simpa using h) j u hu
theorem SlK.of_own {α : Type} {enc : α → List Value} {k : Nat} (hk : ∀ x, (enc x).length = k) {w : World} {b e : Nat} {v : Value} {l : List α} (h : w.ownsRow b e k v l.length (cellsK enc l)) : SlK enc k w v l := by
  obtain ⟨a, cap, hv, hc, hm, ha⟩ := own_reads h
  by_cases hl : l = []
  · subst hl
    exact .inl ⟨rfl, a, cap, hv, hm⟩
  · rcases ha with ⟨rfl, h0⟩ | ⟨g, rfl, hg, hgw, hcell⟩
    · exact absurd (List.eq_nil_of_length_eq_zero h0) hl
    · refine .inr ⟨hl, g, 0, cap, hv, hc, hm, hgw, fun i hi j u hu => ?_⟩
      rw [Nat.zero_add]
      exact hcell _ _ (cellsK_get hk l i hi j u hu)
/-- the first place at which p holds, or -1 -/
def idxI {α : Type} (p : α → Bool) (l : List α) : Int := if l.any p then (l.findIdx p : Nat) else -1
theorem idxI_hit {α : Type} (p : α → Bool) (l : List α) (k : Nat) (hk : k < l.length) (h : p l[k] = true) (hb : ∀ j (hj : j < k), p (l[j]'(by omega)) = false) : idxI p l = k := by
  unfold idxI
  have h1 : l.findIdx p = k := by
    rw [List.findIdx_eq hk]
    exact ⟨h, fun j hj => hb j hj⟩
  rw [if_pos (List.any_eq_true.2 ⟨l[k], List.getElem_mem hk, h⟩), h1]
theorem idxI_miss {α : Type} (p : α → Bool) (l : List α) (h : ∀ j (hj : j < l.length), p l[j] = false) : idxI p l = -1 := by
  unfold idxI
  rw [if_neg]
  rw [List.any_eq_true]
  rintro ⟨x, hx, hp⟩
  obtain ⟨j, hj, rfl⟩ := List.getElem_of_mem hx
  rw [h j hj] at hp; cases hp
theorem ckL_len (c : Ck) : (ckL c).length = 9 := rfl
end Go.Proofs.YtjdhaacmlpegoaaGreatDoor

/- Slices of structs: reading; slices.IndexFunc over cookies. -/
namespace Go.Proofs.YtjdhaacmlpegoaaGreatDoor
set_option linter.unusedVariables false
set_option linter.unusedSimpArgs false
open Go.RowKit

end Go.Proofs.YtjdhaacmlpegoaaGreatDoor

/- Cookies: expired, same. -/
namespace Go.Proofs.YtjdhaacmlpegoaaGreatDoor
set_option linter.unusedVariables false
set_option linter.unusedSimpArgs false
open Go.RowKit

def exB (c : Ck) (now : Int) : Bool := decide (0 ≤ c.ex) && decide (c.ex ≤ clockI now)
/-- two cookies are the same -/
def sameB (c d : Ck) : Bool := (c.n.toList == d.n.toList) && (c.d.toList == d.d.toList) && (c.p.toList == d.p.toList)
end Go.Proofs.YtjdhaacmlpegoaaGreatDoor

/- Cookies: whether an address has cookies. -/
namespace Go.Proofs.YtjdhaacmlpegoaaGreatDoor
set_option linter.unusedVariables false
set_option linter.unusedSimpArgs false
open Go.RowKit

theorem brl {B : Nat} {w0 w1 : World} (hb : Below B w0 w1) : ∀ b o, b < B → w1.cell? ⟨b, o, none⟩ = w0.cell? ⟨b, o, none⟩ := fun b o h => hb.cell (p := ⟨b, o, none⟩) h
/-- an address has cookies -/
def takesB (u : U6) : Bool := validB u && !(u.1 == aboutL)
abbrev urlA (a b c d e f : ByteArray) : Value := .agg #[.string a, .string b, .string c, .string d, .string e, .string f]
abbrev urlL (a b c d e f : ByteArray) : List Value := [.string a, .string b, .string c, .string d, .string e, .string f]
abbrev u6 (a b c d e f : ByteArray) : U6 := (a.data.toList, b.data.toList, c.data.toList, d.data.toList, e.data.toList, f.data.toList)
structure USize (n : Nat) (a b c d e f : ByteArray) : Prop where
  a : a.size ≤ n
  b : b.size ≤ n
  c : c.size ≤ n
  d : d.size ≤ n
  e : e.size ≤ n
  f : f.size ≤ n
theorem neq_about (a : ByteArray) : (a.toList != aboutL) = !(a.data.toList == aboutL) := by rw [ByteArray.toList_eq]; rfl
end Go.Proofs.YtjdhaacmlpegoaaGreatDoor

/- Cookies: storing into a jar: a new cookie; one that has expired and is not there. -/
namespace Go.Proofs.YtjdhaacmlpegoaaGreatDoor
set_option linter.unusedVariables false
set_option linter.unusedSimpArgs false
open Go.RowKit

theorem AtL.grown {w w' : World} {k : Nat} {vs : List Value} {row : Option Nat} (h : AtL w k vs) (hg : w.grownBy w' row) (hr : row ≠ some k) : AtL w' k vs := by
  have hh := hg.block k h.1 (fun e => hr e.symm)
  exact ⟨Nat.lt_of_lt_of_le h.1 hg.size, fun j v hv => ⟨(World.cell?_of_block (w := w) hh).trans (h.c j hv), (World.frozen?_of_block (w := w) hh).trans (h.f j hv)⟩⟩
theorem atL_drewk {w wA : World} {vs : List Value} (h : AtL w wA.drew.heap.size vs) : AtL w wA.heap.size vs := h
theorem own_fresh {w : World} {b e s n : Nat} {v : Value} {xs : List Value} (h : w.ownsRow b e s v n xs) : v.ownBlock ≠ some w.heap.size := by
  rcases h.2 with ⟨rfl, _⟩ | ⟨g, cap, cur, rfl, hg, hh, _⟩
  · simp [Value.ownBlock]
  · intro e
    simp only [Value.ownBlock, Option.some.injEq] at e
    have := (Array.getElem?_eq_some_iff.1 hh).1
    omega
theorem own_eq {w : World} {b e s n n' : Nat} {v : Value} {xs xs' : List Value} (h : w.ownsRow b e s v n xs) (hn : n = n') (hx : xs = xs') : w.ownsRow b e s v n' xs' := by subst hn hx; exact h
/-- a jar's slice and a cookie's nine cells, as a drawn region asks for them -/
def S10 (jb K : Nat) (v : Value) (c : Ck) (wa w' : World) : Prop := w'.cell? ⟨jb, 0, none⟩ = some v ∧ w'.cell? ⟨K, 0, none⟩ = some (.string c.n) ∧ w'.cell? ⟨K, 1, none⟩ = some (.string c.v) ∧ w'.cell? ⟨K, 2, none⟩ = some (.string c.d) ∧ w'.cell? ⟨K, 3, none⟩ = some (.string c.p) ∧ w'.cell? ⟨K, 4, none⟩ = some (.bool c.ho) ∧ w'.cell? ⟨K, 5, none⟩ = some (.bool c.se) ∧ w'.cell? ⟨K, 6, none⟩ = some (.bool c.hi) ∧ w'.cell? ⟨K, 7, none⟩ = some (.int .i64 c.ex) ∧ w'.cell? ⟨K, 8, none⟩ = some (.int .i64 c.cr) ∧ Below wa.heap.size wa w'
theorem s10_start {jb K : Nat} {v nx : Value} {c : Ck} {wa : World} (hj : AtL wa jb [v, nx]) (hk : AtL wa K (ckL c)) : S10 jb K v c wa wa :=
  ⟨hj.c 0 rfl, hk.c 0 rfl, hk.c 1 rfl, hk.c 2 rfl, hk.c 3 rfl, hk.c 4 rfl, hk.c 5 rfl, hk.c 6 rfl, hk.c 7 rfl, hk.c 8 rfl, Below.refl _ _⟩
theorem s10_next {jb K : Nat} {v : Value} {c : Ck} {wa wX w3 : World} (hj : jb < wa.heap.size) (hk : K < wa.heap.size) (h : S10 jb K v c wa wX) (h3 : Below wX.heap.size wX w3) : S10 jb K v c wa w3 := by
  obtain ⟨a0, a1, a2, a3, a4, a5, a6, a7, a8, a9, hb⟩ := h
  have h1 := Nat.lt_of_lt_of_le hj hb.size
  have h2 := Nat.lt_of_lt_of_le hk hb.size
  have r := brl h3
  exact ⟨(r jb 0 h1).trans a0, (r K 0 h2).trans a1, (r K 1 h2).trans a2, (r K 2 h2).trans a3, (r K 3 h2).trans a4, (r K 4 h2).trans a5, (r K 5 h2).trans a6, (r K 6 h2).trans a7, (r K 7 h2).trans a8, (r K 8 h2).trans a9, hb.trans (h3.mono hb.size)⟩
theorem s10_below {jb K : Nat} {v : Value} {c : Ck} {wa wX : World} (h : S10 jb K v c wa wX) : Below wa.heap.size wa wX := h.2.2.2.2.2.2.2.2.2.2
theorem grownBy_of_drew {w w' : World} {row : Option Nat} (h : w.drew.grownBy w' row) : w.grownBy w' row := ⟨h.os, h.tape, h.output, h.size, h.block⟩
/-- an append of freshly built elements, as a step of a drawn region: where the new row lies -/
theorem step_app {P : Program} {T E size bytes : Nat} (ty : SlTy P T E size bytes) (W0 : World) {ops : Array Oper} {o : Oper} {a : Act} {K : Act → World → Prop} {Q : Exit → Act → World → Prop} {Ep : Prop}
    (hgd : o.guard = none) (s x : Operand) (ho : o.op = .call { callee := .builtin .append, args := #[s, x], argTypes := #[T, T] })
    (B : Nat) (v : Value) (n : Nat) (xs : List Value) (hs : a.eval s = v) (hown : W0.ownsRow B E size v n xs) (news : List Value) (m : Nat)
    (kk : Nat) (hx : a.eval x = .slice (some ⟨kk, 0, none⟩) m m) (hkk : kk = W0.heap.size) (hl : news.length = m * size) (h1 : ∀ u ∈ news, u.oneCell' = true)
    (hm : 0 < m) (hb : (n + m) * bytes ≤ 140737488355328) (hn : n + m ≤ 140737488355328) (hB : B ≤ W0.heap.size)
    (h : ∀ g cap w', w'.ownsRow B E size (.slice (some ⟨g, 0, none⟩) (n + m) cap) (n + m) (xs ++ news) → W0.grownBy w' v.ownBlock → (v.ownBlock = some g ∨ g = W0.heap.size + 1) → g < w'.heap.size → K (a.put o.dst (.slice (some ⟨g, 0, none⟩) (n + m) cap)) w') :
    if Region.wanted o (yielded ops a.tmps) = true then Oper.wp P o a (W0.alloc (.cells news.toArray E)).drew K Q else Ep := by
  subst hkk
  obtain ⟨hu, ⟨i, z, hi, hz, h2, h3, h4⟩, hp⟩ := ty
  exact step_append_lies _ hgd s x T ho B E i z size bytes hu hi hz h2 h3 h4 hp v n xs hs (hown.alloc _).drew ⟨W0.heap.size, 0, none⟩ m m news hx hl (fun j u hu => cells_new W0 news E j u hu) h1 hm (by unfold maxLen; omega) hb (by simp; omega) (W0.heap.size + 1) (by simp)
    fun g cap w' a1 a2 a3 a4 => h g cap w' a1 (grownBy_trans_alloc (grownBy_of_drew a2)) a3 a4
theorem one9 (c : Ck) : ∀ u ∈ ckL c, u.oneCell' = true := by
  intro u hu
  simp at hu
  rcases hu with rfl | rfl | rfl | rfl | rfl | rfl | rfl | rfl | rfl <;> rfl
/-- the same cells without a world to come from: what stays of them behind an append -/
def S2 (jb K : Nat) (v : Value) (c : Ck) (w' : World) : Prop := w'.cell? ⟨jb, 0, none⟩ = some v ∧ w'.cell? ⟨K, 0, none⟩ = some (.string c.n) ∧ w'.cell? ⟨K, 1, none⟩ = some (.string c.v) ∧ w'.cell? ⟨K, 2, none⟩ = some (.string c.d) ∧ w'.cell? ⟨K, 3, none⟩ = some (.string c.p) ∧ w'.cell? ⟨K, 4, none⟩ = some (.bool c.ho) ∧ w'.cell? ⟨K, 5, none⟩ = some (.bool c.se) ∧ w'.cell? ⟨K, 6, none⟩ = some (.bool c.hi) ∧ w'.cell? ⟨K, 7, none⟩ = some (.int .i64 c.ex) ∧ w'.cell? ⟨K, 8, none⟩ = some (.int .i64 c.cr)
theorem s2_start {jb K : Nat} {v nx : Value} {c : Ck} {wa : World} (hj : AtL wa jb [v, nx]) (hk : AtL wa K (ckL c)) : S2 jb K v c wa :=
  ⟨hj.c 0 rfl, hk.c 0 rfl, hk.c 1 rfl, hk.c 2 rfl, hk.c 3 rfl, hk.c 4 rfl, hk.c 5 rfl, hk.c 6 rfl, hk.c 7 rfl, hk.c 8 rfl⟩
theorem s2_of {jb K : Nat} {v : Value} {c : Ck} {w w' : World} (h : S2 jb K v c w) (r : ∀ b o u, b = jb ∨ b = K → w.cell? ⟨b, o, none⟩ = some u → w'.cell? ⟨b, o, none⟩ = some u) : S2 jb K v c w' := by
  obtain ⟨a0, a1, a2, a3, a4, a5, a6, a7, a8, a9⟩ := h
  exact ⟨r _ _ _ (.inl rfl) a0, r _ _ _ (.inr rfl) a1, r _ _ _ (.inr rfl) a2, r _ _ _ (.inr rfl) a3, r _ _ _ (.inr rfl) a4, r _ _ _ (.inr rfl) a5, r _ _ _ (.inr rfl) a6, r _ _ _ (.inr rfl) a7, r _ _ _ (.inr rfl) a8, r _ _ _ (.inr rfl) a9⟩
theorem s2_alloc {jb K : Nat} {v : Value} {c : Ck} {w : World} (o : Obj) (h : S2 jb K v c w) : S2 jb K v c (w.alloc o) := s2_of h fun b o' u _ hu => (brl ((Below.refl _ w).alloc (Nat.le_refl _) o) b o' (cell_lt hu)).trans hu
theorem s2_drew {jb K : Nat} {v : Value} {c : Ck} {w : World} (h : S2 jb K v c w) : S2 jb K v c w.drew := h
theorem s2_adrew {jb K : Nat} {v : Value} {c : Ck} {w : World} (o : Obj) (h : S2 jb K v c w.drew) : S2 jb K v c (w.alloc o).drew := s2_drew (s2_alloc o h)
theorem s2_grown {jb K : Nat} {v : Value} {c : Ck} {w w' : World} {row : Option Nat} (h : S2 jb K v c w) (hg : w.grownBy w' row) (h1 : row ≠ some jb) (h2 : row ≠ some K) : S2 jb K v c w' :=
  s2_of h fun b o u hb hu => (World.cell?_of_block (w := w) (a := ⟨b, o, none⟩) (hg.block b (cell_lt hu) (by rintro e; rcases hb with rfl | rfl; exact h1 e.symm; exact h2 e.symm))).trans hu
/-- of the blocks that lay there, all but one and a row's own are as they were -/
structure RowBut (n jb : Nat) (o : Option Nat) (w w' : World) : Prop where
  os : w'.os = w.os
  tape : w'.tape = w.tape
  output : w'.output = w.output
  size : w.heap.size ≤ w'.heap.size
  block : ∀ k, k < n → k ≠ jb → o ≠ some k → w'.heap[k]? = w.heap[k]?
theorem RowBut.refl (n jb : Nat) (o : Option Nat) (w : World) : RowBut n jb o w w := ⟨rfl, rfl, rfl, Nat.le_refl _, fun _ _ _ _ => rfl⟩
theorem RowBut.below {n jb B' : Nat} {o : Option Nat} {W w w' : World} (h : RowBut n jb o W w) (k : Below B' w w') (hB : n ≤ B') : RowBut n jb o W w' :=
  ⟨k.os.trans h.os, k.tape.trans h.tape, k.output.trans h.output, Nat.le_trans h.size k.size, fun i hi hb ho => (k.block i (by omega)).trans (h.block i hi hb ho)⟩
theorem RowBut.setCell {n jb : Nat} {o : Option Nat} {W w : World} (h : RowBut n jb o W w) (p : Addr) (hp : p.block = jb ∨ o = some p.block ∨ n ≤ p.block) (u : Value) : RowBut n jb o W (w.setCell p u) :=
  ⟨h.os, h.tape, h.output, by simp [World.setCell]; exact h.size, fun k hk hb ho => by
    have hne : k ≠ p.block := by
      rcases hp with hp | hp | hp
      · omega
      · exact fun e => ho (by rw [hp, e])
      · omega
    exact (Below.heap_setCell w p u k hne).trans (h.block k hk hb ho)⟩
theorem RowBut.grown {n jb : Nat} {o : Option Nat} {W w w' : World} (h : RowBut n jb o W w) (hg : w.grownBy w' o) (hn : n ≤ w.heap.size) : RowBut n jb o W w' :=
  ⟨hg.os.trans h.os, hg.tape.trans h.tape, hg.output.trans h.output, Nat.le_trans h.size hg.size, fun k hk hb ho => (hg.block k (by omega) (fun e => ho e.symm)).trans (h.block k hk hb ho)⟩
theorem RowBut.mono {n n' jb : Nat} {o : Option Nat} {w w' : World} (h : RowBut n jb o w w') (hn : n' ≤ n) : RowBut n' jb o w w' := ⟨h.os, h.tape, h.output, h.size, fun k hk => h.block k (by omega)⟩
theorem RowBut.trans {n jb : Nat} {o : Option Nat} {W w w' : World} (h : RowBut n jb o W w) (k : RowBut n jb o w w') : RowBut n jb o W w' := ⟨k.os.trans h.os, k.tape.trans h.tape, k.output.trans h.output, Nat.le_trans h.size k.size, fun x hx hb ho => (k.block x hx hb ho).trans (h.block x hx hb ho)⟩
theorem own_base {w : World} {b e s n g : Nat} {v : Value} {xs : List Value} (h : w.ownsRow b e s v n xs) (ho : v.ownBlock = some g) : b ≤ g := by
  rcases h.2 with ⟨rfl, _⟩ | ⟨g', cap, cur, rfl, hg, _⟩
  · simp [Value.ownBlock] at ho
  · simp only [Value.ownBlock, Option.some.injEq] at ho
    omega
/-- the same, said below the jar's memory -/
theorem RowBut.but {n jb B e s m : Nat} {w w' W : World} {v : Value} {xs : List Value} (h : RowBut n jb v.ownBlock w w') (ho : W.ownsRow B e s v m xs) (hn : B ≤ n) : BelowBut B jb w w' :=
  ⟨h.os, h.tape, h.output, h.size, fun k hk hb => h.block k (by omega) hb (fun e => by have := own_base ho e; omega)⟩
end Go.Proofs.YtjdhaacmlpegoaaGreatDoor

/- Cookies: the walk of cookie.Parse. -/
namespace Go.Proofs.YtjdhaacmlpegoaaGreatDoor
set_option linter.unusedVariables false
set_option linter.unusedSimpArgs false
open Go.RowKit

theorem trimC_nil_bs (l : List UInt8) : (bs (trimC l)).toList.isEmpty = decide (trimC l = []) := by
  rw [ByteArray.toList_eq, bs_list]
  cases trimC l with
  | nil => rfl
  | cons b r => simp
theorem split_is (c : UInt8) (s : ByteArray) (hs : s.size ≤ 1000000) : ∃ l : List ByteArray, lists l = segs c s.data.toList ∧ ∀ w, MaxAt w → Calls Tryz.prog 115 #[.string s, .string ⟨#[c]⟩] w fun e w' => e = .returned (.slice (some ⟨w.heap.size, 0, none⟩) l.length l.length) ∧ w' = w.alloc (.cells (l.map Value.string).toArray 9) := by
  refine ⟨Lib.splitB ⟨#[c]⟩ 0 (Lib.countB s ⟨#[c]⟩) s, split_segs c _ s rfl, fun w hM => ?_⟩
  obtain ⟨m, hm⟩ := hM
  have cS := Tryz.strings_Split s ⟨#[c]⟩ m w (by omega) hm (by show 1 ≤ 1; omega)
  have hsl := Lib.splitB_all ⟨#[c]⟩ (Nat.le_refl 1) 0 (Lib.countB s ⟨#[c]⟩) s rfl
  rw [← hsl] at cS
  exact cS
theorem smallc_is (s T : ByteArray) (hT : T.data.toList = lowL s.data.toList) (w : World) (hs : s.size ≤ 1000000) :
    Calls Tryz.prog 140 #[.string s] w fun e w' => e = .returned (.string T) ∧ Below w.heap.size w w' := by
  refine (small_any s w hs).mono ?_
  rintro e w' ⟨t, rfl, ht, h⟩
  exact ⟨by rw [ba_ext' (ht.trans hT.symm)], h⟩
/-- which attribute a name is -/
theorem kind_cases (L : ByteArray) :
    ((L.toList == maxageL) = true ∧ L.data.toList = maxageL) ∨ ((L.toList == maxageL) = false ∧ (L.toList == domainL) = true ∧ L.data.toList = domainL) ∨
    ((L.toList == maxageL) = false ∧ (L.toList == domainL) = false ∧ (L.toList == pathwL) = true ∧ L.data.toList = pathwL) ∨
    ((L.toList == maxageL) = false ∧ (L.toList == domainL) = false ∧ (L.toList == pathwL) = false ∧ (L.toList == secureL) = true ∧ L.data.toList = secureL) ∨
    ((L.toList == maxageL) = false ∧ (L.toList == domainL) = false ∧ (L.toList == pathwL) = false ∧ (L.toList == secureL) = false ∧ (L.toList == hidL) = true ∧ L.data.toList = hidL) ∨
    ((L.toList == maxageL) = false ∧ (L.toList == domainL) = false ∧ (L.toList == pathwL) = false ∧ (L.toList == secureL) = false ∧ (L.toList == hidL) = false ∧ L.data.toList ≠ maxageL ∧ L.data.toList ≠ domainL ∧ L.data.toList ≠ pathwL ∧ L.data.toList ≠ secureL ∧ L.data.toList ≠ hidL) := by
  rw [ByteArray.toList_eq]
  by_cases h1 : L.data.toList = maxageL
  · exact .inl ⟨beq_iff_eq.2 h1, h1⟩
  · refine .inr ?_
    by_cases h2 : L.data.toList = domainL
    · exact .inl ⟨beq_eq_false_iff_ne.2 h1, beq_iff_eq.2 h2, h2⟩
    · refine .inr ?_
      by_cases h3 : L.data.toList = pathwL
      · exact .inl ⟨beq_eq_false_iff_ne.2 h1, beq_eq_false_iff_ne.2 h2, beq_iff_eq.2 h3, h3⟩
      · refine .inr ?_
        by_cases h4 : L.data.toList = secureL
        · exact .inl ⟨beq_eq_false_iff_ne.2 h1, beq_eq_false_iff_ne.2 h2, beq_eq_false_iff_ne.2 h3, beq_iff_eq.2 h4, h4⟩
        · refine .inr ?_
          by_cases h5 : L.data.toList = hidL
          · exact .inl ⟨beq_eq_false_iff_ne.2 h1, beq_eq_false_iff_ne.2 h2, beq_eq_false_iff_ne.2 h3, beq_eq_false_iff_ne.2 h4, beq_iff_eq.2 h5, h5⟩
          · exact .inr ⟨beq_eq_false_iff_ne.2 h1, beq_eq_false_iff_ne.2 h2, beq_eq_false_iff_ne.2 h3, beq_eq_false_iff_ne.2 h4, beq_eq_false_iff_ne.2 h5, h1, h2, h3, h4, h5⟩
theorem attr_max (h p : ByteArray) (now : Int) (c : Ck) (v : List UInt8) (n : Int) (hn : ageL v = some n) : attrC h p now c maxageL v = { c with ex := clockI now + n * 1000 } := by unfold attrC; rw [if_pos rfl, hn]
theorem attr_max0 (h p : ByteArray) (now : Int) (c : Ck) (v : List UInt8) (hn : ageL v = none) : attrC h p now c maxageL v = c := by unfold attrC; rw [if_pos rfl, hn]
theorem attr_dom (h p : ByteArray) (now : Int) (c : Ck) (v : List UInt8) : attrC h p now c domainL v = if lowL (undot v) = [] then { c with d := h, ho := true } else { c with d := bs (lowL (undot v)), ho := false } := by unfold attrC; rw [if_neg (by decide), if_pos rfl]
theorem attr_path (h p : ByteArray) (now : Int) (c : Ck) (v : List UInt8) : attrC h p now c pathwL v = { c with p := if Lib.hasPrefix v [47] = true then bs v else p } := by unfold attrC; rw [if_neg (by decide), if_neg (by decide), if_pos rfl]
theorem attr_sec (h p : ByteArray) (now : Int) (c : Ck) (v : List UInt8) : attrC h p now c secureL v = { c with se := true } := by unfold attrC; rw [if_neg (by decide), if_neg (by decide), if_neg (by decide), if_pos rfl]
theorem attr_hid (h p : ByteArray) (now : Int) (c : Ck) (v : List UInt8) : attrC h p now c hidL v = { c with hi := true } := by unfold attrC; rw [if_neg (by decide), if_neg (by decide), if_neg (by decide), if_neg (by decide), if_pos rfl]
theorem attr_no (h p : ByteArray) (now : Int) (c : Ck) (l v : List UInt8) (h1 : l ≠ maxageL) (h2 : l ≠ domainL) (h3 : l ≠ pathwL) (h4 : l ≠ secureL) (h5 : l ≠ hidL) : attrC h p now c l v = c := by unfold attrC; rw [if_neg h1, if_neg h2, if_neg h3, if_neg h4, if_neg h5]

theorem low_len (l : List UInt8) : (lowL l).length = l.length := by simp [lowL]
theorem undot_len (l : List UInt8) : (undot l).length ≤ l.length := by
  unfold undot; split
  · simp
  · exact Nat.le_refl _
theorem pre_len' (c : UInt8) (l : List UInt8) : (pre c l).length ≤ l.length := (List.takeWhile_sublist _).length_le
theorem post_len' (c : UInt8) (l : List UInt8) : (post c l).length ≤ l.length := by
  unfold post; rw [List.length_drop]
  have := (List.dropWhile_sublist (p := (· != c)) (l := l)).length_le
  omega
end Go.Proofs.YtjdhaacmlpegoaaGreatDoor

/- Cookies: the walk of cookie.Parse: the errors, and the loop. -/
namespace Go.Proofs.YtjdhaacmlpegoaaGreatDoor
set_option linter.unusedVariables false
set_option linter.unusedSimpArgs false
open Go.RowKit

abbrev ck0V : List Value := [.string ⟨#[]⟩, .string ⟨#[]⟩, .string ⟨#[]⟩, .string ⟨#[]⟩, .bool false, .bool false, .bool false, .int .i64 0, .int .i64 0]
theorem parseC_no (field : List UInt8) (s h p : ByteArray) (now : Int) : parseC field false s h p now = (ck0, 7) := by unfold parseC; rw [if_pos rfl]
theorem parseC_yes (field : List UInt8) (s h p : ByteArray) (now : Int) (p0 : List UInt8) (ps : List (List UInt8)) (hs : segs 59 field = p0 :: ps) :
    parseC field true s h p now = if p0.contains 61 = false ∨ trimC (pre 61 p0) = [] ∨ ctlL field = true then (ck0, 4)
      else lastC h.data.toList s.data.toList (ps.foldl (stepC h (bs (defpL p.data.toList)) now) (firstC h (bs (defpL p.data.toList)) p0)) := by
  unfold parseC; rw [if_neg (by decide), hs]
end Go.Proofs.YtjdhaacmlpegoaaGreatDoor

/- Cookies: the walk of cookie.Parse: a field that sets nothing. -/
namespace Go.Proofs.YtjdhaacmlpegoaaGreatDoor
set_option linter.unusedVariables false
set_option linter.unusedSimpArgs false
open Go.RowKit

theorem split_at (c : UInt8) (s : ByteArray) (hs : s.size ≤ 1000000) : ∃ (q0 : ByteArray) (qs : List ByteArray), lists (q0 :: qs) = segs c s.data.toList ∧ ∀ w, MaxAt w → Calls Tryz.prog 115 #[.string s, .string ⟨#[c]⟩] w fun e w' => e = .returned (.slice (some ⟨w.heap.size, 0, none⟩) (q0 :: qs).length (q0 :: qs).length) ∧ Below w.heap.size w w' ∧ w.heap.size < w'.heap.size ∧ w'.cell? ⟨w.heap.size, 0, none⟩ = some (.string q0) ∧ ∀ j (h : j < qs.length), w'.cell? ⟨w.heap.size, 1 + j, none⟩ = some (.string qs[j]) := by
  obtain ⟨l, hl, hc⟩ := split_is c s hs
  cases l with
  | nil => exact absurd hl.symm (segs_ne c _)
  | cons q0 qs =>
    refine ⟨q0, qs, hl, fun w hM => (hc w hM).mono ?_⟩
    rintro e w' ⟨rfl, rfl⟩
    have hA := AtL.new w ((q0 :: qs).map Value.string) 9
    refine ⟨rfl, (Below.refl _ w).alloc (Nat.le_refl _) _, by simp, hA.c 0 rfl, fun j hj => ?_⟩
    have := hA.c (1 + j) (v := .string qs[j]) (by rw [Nat.add_comm, List.map_cons, List.getElem?_cons_succ, List.getElem?_map, List.getElem?_eq_getElem hj]; rfl)
    exact this
theorem segs_sizes {c : UInt8} {s : ByteArray} {l : List ByteArray} (h : lists l = segs c s.data.toList) : l.length ≤ s.size + 1 ∧ ∀ p ∈ l, p.size ≤ s.size := by
  constructor
  · have h1 := segs_count c s.data.toList
    rw [← h, size_len] at h1
    simpa [lists] using h1
  · intro p hp
    have := segs_len c s.data.toList p.data.toList (by rw [← h]; exact List.mem_map_of_mem hp)
    rwa [size_len, size_len] at this
end Go.Proofs.YtjdhaacmlpegoaaGreatDoor

/- Cookies: the walk of cookie.Parse: a field that sets a cookie. -/
namespace Go.Proofs.YtjdhaacmlpegoaaGreatDoor
set_option linter.unusedVariables false
set_option linter.unusedSimpArgs false
open Go.RowKit

theorem MaxAt.keep {w w' : World} {B : Nat} (h : MaxAt w) (hb : Below B w w') (hB : 0 < B) : MaxAt w' := by
  obtain ⟨m, hm⟩ := h
  exact ⟨m, (hb.cell (p := ⟨0, 0, none⟩) hB).trans hm⟩
theorem MaxAt.lt {w : World} (h : MaxAt w) : 0 < w.heap.size := by
  obtain ⟨m, hm⟩ := h
  exact cell_lt hm
theorem bs_data (V : ByteArray) : bs V.data.toList = V := ba_ext' rfl
theorem step_is (h p : ByteArray) (now : Int) (c : Ck) (l : List UInt8) (L V : ByteArray) (hL : L.data.toList = lowL (trimC (pre 61 l))) (hV : V.data.toList = trimC (post 61 l)) : stepC h p now c l = attrC h p now c L.data.toList V.data.toList := by unfold stepC; rw [hL, hV]
theorem bne_data (a b : ByteArray) : (a.toList != b.toList) = !decide (a.data.toList = b.data.toList) := by
  rw [ByteArray.toList_eq, ByteArray.toList_eq, Bool.eq_iff_iff]
  simp
theorem bne_list (a : ByteArray) (l : List UInt8) : (a.toList != l) = !decide (a.data.toList = l) := by
  rw [ByteArray.toList_eq, Bool.eq_iff_iff]
  simp
end Go.Proofs.YtjdhaacmlpegoaaGreatDoor

/- Cookies: the walk of cookie.Parse, whole. -/
namespace Go.Proofs.YtjdhaacmlpegoaaGreatDoor
set_option linter.unusedVariables false
set_option linter.unusedSimpArgs false
open Go.RowKit

end Go.Proofs.YtjdhaacmlpegoaaGreatDoor

/- Cookies: storing an expired cookie that is not there; Set on an empty jar. -/
namespace Go.Proofs.YtjdhaacmlpegoaaGreatDoor
set_option linter.unusedVariables false
set_option linter.unusedSimpArgs false
open Go.RowKit

theorem s2_below {jb K : Nat} {v : Value} {c : Ck} {w w' : World} (h : S2 jb K v c w) (hb : Below w.heap.size w w') : S2 jb K v c w' := s2_of h fun b o u _ hu => (brl hb b o (cell_lt hu)).trans hu
theorem s2_set {jb K : Nat} {v : Value} {c : Ck} {w : World} (h : S2 jb K v c w) (hne : jb ≠ K) : S2 jb K v c (w.setCell ⟨jb, 0, none⟩ v) := s2_of h fun b o u hb hu => by
  by_cases e : (⟨jb, 0, none⟩ : Addr) = ⟨b, o, none⟩
  · have e1 : b = jb ∧ o = 0 := by injection e with e1 e2; exact ⟨e1.symm, e2.symm⟩
    obtain ⟨rfl, rfl⟩ := e1
    have : some u = some v := hu.symm.trans h.1
    injection this with this
    subst this
    exact World.cell?_setCell_same' w _ _ (by rw [hu]; rfl)
  · rw [World.cell?_setCell_other w _ _ v e]; exact hu
end Go.Proofs.YtjdhaacmlpegoaaGreatDoor

/- Cookies: Set. -/
namespace Go.Proofs.YtjdhaacmlpegoaaGreatDoor
set_option linter.unusedVariables false
set_option linter.unusedSimpArgs false
open Go.RowKit

end Go.Proofs.YtjdhaacmlpegoaaGreatDoor

/- Cookies: Match, by what the sort makes of the cookies that match. -/
namespace Go.Proofs.YtjdhaacmlpegoaaGreatDoor
set_option linter.unusedVariables false
set_option linter.unusedSimpArgs false
open Go.RowKit

/-- the cookies that are sent -/
def hitB (a b d : ByteArray) (now : Int) (c : Ck) : Bool :=
  (if c.ho then c.d.toList == b.toList else domL b.data.toList c.d.data.toList) && !exB c now && pathL d.data.toList c.p.data.toList && (!c.se || a.toList == httpsL)
theorem take_hit (p : Ck → Bool) (l : List Ck) (k : Nat) (h : k < l.length) (y : Ck) (hy : l[k] = y) (b : Bool) (hb : p y = b) : (l.take (k + 1)).filter p = (l.take k).filter p ++ (if b then [y] else []) := by
  subst hy hb
  rw [List.take_succ_eq_append_getElem h, List.filter_append]
  cases hp : p l[k] <;> simp [hp]
end Go.Proofs.YtjdhaacmlpegoaaGreatDoor

/- Cookies: join. -/
namespace Go.Proofs.YtjdhaacmlpegoaaGreatDoor
set_option linter.unusedVariables false
set_option linter.unusedSimpArgs false
open Go.RowKit

theorem slS2 : SlTy Tryz.prog 75 9 1 16 := .mk' (z := .string ⟨#[]⟩) Tryz.underlying75 (by kernel_rfl) rfl (by decide)
def pairT (c : Ck) : List UInt8 := c.n.data.toList ++ (61 :: c.v.data.toList)
end Go.Proofs.YtjdhaacmlpegoaaGreatDoor

/- Cookies: Header; the check that stands before each law. -/
namespace Go.Proofs.YtjdhaacmlpegoaaGreatDoor
set_option linter.unusedVariables false
set_option linter.unusedSimpArgs false
open Go.RowKit

abbrev httpS : ByteArray := ⟨#[104, 116, 116, 112]⟩
abbrev wwwS : ByteArray := ⟨#[119, 119, 119, 46, 97, 46, 99, 111, 109]⟩
abbrev xyS : ByteArray := ⟨#[47, 120, 47, 121]⟩
abbrev nilS : ByteArray := ⟨#[]⟩
abbrev fieldS : ByteArray := ⟨#[110, 61, 49, 59, 32, 68, 111, 109, 97, 105, 110, 61, 46, 97, 46, 99, 111, 109, 59, 32, 77, 97, 120, 45, 65, 103, 101, 61, 49, 48]⟩
abbrev fitC : Ck := ⟨⟨#[110]⟩, ⟨#[49]⟩, ⟨#[97, 46, 99, 111, 109]⟩, ⟨#[47, 120]⟩, false, false, false, 10005, 0⟩
theorem fit_takes : takesB (u6 httpS wwwS nilS xyS nilS nilS) = true := by kernel_rfl
theorem fit_parses : parseC fieldS.data.toList true httpS wwwS xyS 5 = (fitC, 0) := by kernel_rfl
theorem fit_hit : hitB httpS wwwS xyS 5 fitC = true := by kernel_rfl
theorem fit_hit' : hitB httpS wwwS xyS 10005 fitC = false := by kernel_rfl
theorem fit_exp : exB fitC 5 = false := by kernel_rfl
end Go.Proofs.YtjdhaacmlpegoaaGreatDoor

/- few and Short of knapsacklaw41, for the rounds after url; small of knapsacklaw42. -/
namespace Go.Proofs.YtjdhaacmlpegoaaGreatDoor
set_option linter.unusedVariables false
set_option linter.unusedSimpArgs false
open Go.RowKit

set_option maxRecDepth 20000 in
theorem few_any (xs : List ByteArray) (b c : Nat) (w : World) (hc : ∀ j (h : j < xs.length), w.cell? ⟨b, j, none⟩ = some (.string xs[j])) (hn : xs.length ≤ 1000) :
    Calls Tryz.prog 51 #[.slice (some ⟨b, 0, none⟩) xs.length c] w fun e w' => e = .returned (.bool (xs.all fun s => decide (s.size ≤ 400))) ∧ w = w' := by
  obtain ⟨R, hR⟩ : ∃ R, (xs.all fun s => decide (s.size ≤ 400)) = R := ⟨_, rfl⟩
  rw [hR]
  have HR := Lib.hid hR
  have HC := Lib.hid hc
  clear hR hc
  go_enter Tryz.func51, Tryz.ntmps51
  go_wp2_with fail
  go_loop [7] (fun i => ∃ k : Nat, k ≤ xs.length ∧ i = .int .i64 k ∧ ((xs.drop k).all fun s => decide (s.size ≤ 400)) = R) (fun i => xs.length - (intOf i).toNat)
  case atStart => exact ⟨0, Nat.zero_le _, rfl, HR.out⟩
  case round =>
    obtain ⟨k, hk, rfl, hf⟩ := hrel
    by_cases hlt : k < xs.length
    · have c0 := HC.out k hlt
      rw [List.drop_eq_getElem_cons hlt, List.all_cons] at hf
      obtain ⟨p, hp⟩ : ∃ p, xs[k] = p := ⟨_, rfl⟩
      rw [hp] at c0 hf
      by_cases h4 : p.size ≤ 400
      · rw [decide_eq_true h4, Bool.true_and] at hf
        have HF := Lib.hid hf
        have h4i : (p.size : Int) ≤ 400 := by omega
        clear hf hp
        go_wp2_with fail
        go_round
        case rel => exact ⟨k + 1, by omega, by go_num, HF.out⟩
        case measure => simp [intOf]; omega
      · rw [decide_eq_false h4, Bool.false_and] at hf
        subst hf
        have h4i : ¬ (p.size : Int) ≤ 400 := by omega
        clear hp HR
        go_wp2_with fail
        go_ret
        exact ⟨rfl, rfl⟩
    · rw [List.drop_eq_nil_of_le (by omega)] at hf
      have HF := Lib.hid hf
      clear hf
      go_wp2_with fail
      go_ret
      exact ⟨ret_bool (by rw [← HF.out]; rfl), rfl⟩
def shortB (a b c d e f : ByteArray) : Bool := [a, b, c, d, e, f].all fun s => decide (s.size ≤ 400)
theorem shortB_iff {a b c d e f : ByteArray} (h : shortB a b c d e f = true) : a.size ≤ 400 ∧ b.size ≤ 400 ∧ c.size ≤ 400 ∧ d.size ≤ 400 ∧ e.size ≤ 400 ∧ f.size ≤ 400 := by
  simpa [shortB] using h
set_option maxRecDepth 20000 in
theorem short_any (a b c d e f : ByteArray) (w : World) :
    Calls Tryz.prog 23 #[.agg #[.string a, .string b, .string c, .string d, .string e, .string f]] w fun x w' => x = .returned (.bool (shortB a b c d e f)) ∧ Below w.heap.size w w' := by
  obtain ⟨B, hB⟩ : ∃ B, shortB a b c d e f = B := ⟨_, rfl⟩
  have cW : ∀ (bk : Nat) (w : World), (∀ j (h : j < [a, b, c, d, e, f].length), w.cell? ⟨bk, j, none⟩ = some (.string [a, b, c, d, e, f][j])) → Calls Tryz.prog 51 #[.slice (some ⟨bk, 0, none⟩) 6 6] w fun e w' => e = .returned (.bool B) ∧ w = w' := fun bk w hc => by
    rw [← hB]; exact few_any [a, b, c, d, e, f] bk 6 w hc (by simp)
  rw [hB]
  have CW := Lib.hid cW
  clear cW hB
  go_enter Tryz.func23, Tryz.ntmps23
  go_wp2_with (go_at_call 51; with_reducible refine (CW.out _ _ ?_).mono ?_)
  · intro j hj
    match j, hj with
    | 0, _ => simp
    | 1, _ => simp
    | 2, _ => simp
    | 3, _ => simp
    | 4, _ => simp
    | 5, _ => simp
  · rintro x w' ⟨rfl, rfl⟩
    go_wp2_with fail
    go_ret
    exact ⟨rfl, ((Below.refl _ w).alloc (Nat.le_refl _) _).alloc (by simp) _⟩
end Go.Proofs.YtjdhaacmlpegoaaGreatDoor

/- Cookies: Header by the list; the check that stands before each law. -/
namespace Go.Proofs.YtjdhaacmlpegoaaGreatDoor
set_option linter.unusedVariables false
set_option linter.unusedSimpArgs false
open Go.RowKit

theorem but_trans {B b : Nat} {W w w' : World} (h : BelowBut B b W w) (k : BelowBut B b w w') : BelowBut B b W w' := ⟨k.os.trans h.os, k.tape.trans h.tape, k.output.trans h.output, Nat.le_trans h.size k.size, fun x hx hb => (k.block x hx hb).trans (h.block x hx hb)⟩
theorem fit_size : USize 40000 httpS wwwS nilS xyS nilS nilS := ⟨by decide, by decide, by decide, by decide, by decide, by decide⟩
end Go.Proofs.YtjdhaacmlpegoaaGreatDoor

/- Cookies: what the walk of the reference's Parse needs; its two early ends. -/
namespace Go.Proofs.YtjdhaacmlpegoaaGreatDoor
set_option linter.unusedVariables false
set_option linter.unusedSimpArgs false
open Go.RowKit

theorem ws61 : wsC 61 = false := by decide
theorem ldrop_mid (a b : List UInt8) : ldrop (a ++ 61 :: b) = ldrop a ++ 61 :: b := by
  unfold ldrop
  rw [List.dropWhile_append]
  split
  · next h =>
    rw [List.dropWhile_cons, if_neg (by simp [ws61])]
    simp only [List.isEmpty_iff] at h
    rw [h]; rfl
  · rfl
theorem rdrop_mid (a b : List UInt8) : rdrop (a ++ 61 :: b) = a ++ 61 :: rdrop b := by
  unfold rdrop
  rw [List.reverse_append, List.reverse_cons, List.append_assoc, List.dropWhile_append]
  split
  · next h =>
    simp only [List.isEmpty_iff] at h
    rw [h, List.singleton_append, List.dropWhile_cons, if_neg (by simp [ws61])]
    simp
  · simp
theorem rdrop_ldrop_idem (l : List UInt8) : ldrop (ldrop l) = ldrop l := by
  unfold ldrop
  have := List.head?_dropWhile_not (p := wsC) (l := l)
  cases h : l.dropWhile wsC with
  | nil => rfl
  | cons b r =>
    rw [h] at this
    simp at this
    rw [List.dropWhile_cons, if_neg (by simp [this])]
theorem rdrop_idem (l : List UInt8) : rdrop (rdrop l) = rdrop l := by
  unfold rdrop
  rw [List.reverse_reverse]
  exact congrArg List.reverse (rdrop_ldrop_idem l.reverse)
theorem trim_ldrop (l : List UInt8) : trimC (ldrop l) = trimC l := by unfold trimC; rw [rdrop_ldrop_idem]
theorem trim_rdrop (l : List UInt8) : trimC (rdrop l) = trimC l := by unfold trimC; rw [trim_comm, rdrop_idem]
theorem trim_trim (l : List UInt8) : trimC (trimC l) = trimC l := by
  show trimC (rdrop (ldrop l)) = _
  rw [trim_rdrop, trim_ldrop]
theorem mem_ws {l : List UInt8} (h : (61 : UInt8) ∉ l) : (61 : UInt8) ∉ trimC l := fun hm => h (by
  unfold trimC rdrop ldrop at hm
  rw [List.mem_reverse] at hm
  exact (List.dropWhile_sublist _).subset (List.mem_reverse.1 ((List.dropWhile_sublist _).subset hm)))
theorem trim_mid (l : List UInt8) (h : (61 : UInt8) ∈ l) : trimC l = ldrop (pre 61 l) ++ 61 :: rdrop (post 61 l) := by
  have e := pre_post 61 l h
  conv => lhs; rw [e]
  unfold trimC
  rw [ldrop_mid, rdrop_mid]
theorem ldrop_no {l : List UInt8} (h : (61 : UInt8) ∉ l) : (61 : UInt8) ∉ ldrop l := fun hm => h ((List.dropWhile_sublist _).subset hm)
theorem pre_app (a b : List UInt8) (h : (61 : UInt8) ∉ a) : pre 61 (a ++ 61 :: b) = a ∧ post 61 (a ++ 61 :: b) = b := by
  have hw : ∀ x ∈ a, (x != 61) = true := fun x hx => by rw [bne_iff_ne]; intro e; exact h (e ▸ hx)
  constructor
  · unfold pre
    rw [List.takeWhile_append_of_pos hw]
    simp
  · unfold post
    rw [List.dropWhile_append_of_pos hw]
    simp
theorem part_pre (l : List UInt8) : trimC (pre 61 (trimC l)) = trimC (pre 61 l) := by
  by_cases h : (61 : UInt8) ∈ l
  · rw [trim_mid l h, (pre_app _ _ (ldrop_no (pre_not 61 l))).1, trim_ldrop]
  · rw [pre_all 61 _ (mem_ws h), pre_all 61 l h, trim_trim]
theorem part_post (l : List UInt8) : trimC (post 61 (trimC l)) = trimC (post 61 l) := by
  by_cases h : (61 : UInt8) ∈ l
  · rw [trim_mid l h, (pre_app _ _ (ldrop_no (pre_not 61 l))).2, trim_rdrop]
  · rw [post_none 61 _ (mem_ws h), post_none 61 l h]
theorem part_mem (l : List UInt8) : ((61 : UInt8) ∈ trimC l) ↔ (61 : UInt8) ∈ l := by
  constructor
  · intro h
    exact Decidable.byContradiction fun h2 => mem_ws h2 h
  · intro h
    rw [trim_mid l h]; simp
theorem pre_lt_iff (l : List UInt8) : (pre 61 l).length < l.length ↔ (61 : UInt8) ∈ l := by
  constructor
  · intro h
    exact Decidable.byContradiction fun h2 => by rw [pre_all 61 l h2] at h; omega
  · intro h
    have e := congrArg List.length (pre_post 61 l h)
    rw [List.length_append, List.length_cons] at e
    omega

theorem findc61 (s : ByteArray) (n : Nat) (hn : (pre 61 s.data.toList).length = n) (w : World) (hs : s.size ≤ 1000000) :
    Calls Tryz.prog 141 #[.string s, .int .u8 61] w fun e w' => e = .returned (.int .i64 n) ∧ w = w' := by subst hn; exact find_any 61 s w hs
theorem findc46 (s : ByteArray) (n : Nat) (hn : (pre 46 s.data.toList).length = n) (w : World) (hs : s.size ≤ 1000000) :
    Calls Tryz.prog 141 #[.string s, .int .u8 46] w fun e w' => e = .returned (.int .i64 n) ∧ w = w' := by subst hn; exact find_any 46 s w hs
theorem seg59 (s : ByteArray) (w : World) (hs : s.size ≤ 1000000) :
    Calls Tryz.prog 205 #[.string s, .int .u8 59] w fun e w' => ∃ (g cap : Nat) (ps : List ByteArray), e = .returned (.slice (some ⟨g, 0, none⟩) ps.length cap) ∧ ps.length ≤ cap ∧ cap ≤ maxLen ∧ w.heap.size ≤ g ∧ g < w'.heap.size ∧ (∀ j (h : j < ps.length), w'.cell? ⟨g, j, none⟩ = some (.string ps[j])) ∧ lists ps = segs 59 s.data.toList ∧ Below w.heap.size w w' := by
  refine (segments_any s 59 w hs).mono ?_
  rintro e w' ⟨v, ps, rfl, hown, hps, hb⟩
  obtain ⟨ad, cp, hvs, hcp, hcm, had⟩ := own_reads hown
  subst hvs
  have hpe : ps ≠ [] := fun e => segs_ne 59 s.data.toList (by rw [← hps, e]; rfl)
  rcases had with ⟨rfl, h0⟩ | ⟨g, rfl, hg, hgw, hcell⟩
  · exact absurd (List.eq_nil_of_length_eq_zero h0) hpe
  · exact ⟨g, cp, ps, rfl, hcp, hcm, hg, hgw, fun j h => hcell j _ (by simp [strsV, h]), hps, hb⟩
theorem AtL.but {W W' : World} {k B b : Nat} {vs : List Value} (h : AtL W k vs) (hb : BelowBut B b W W') (hk : k < B) (hkb : k ≠ b) : AtL W' k vs := by
  have hh := hb.block k hk hkb
  exact ⟨Nat.lt_of_lt_of_le h.1 hb.size, fun j v hv => ⟨(World.cell?_of_block (w := W) hh).trans (h.c j hv), (World.frozen?_of_block (w := W) hh).trans (h.f j hv)⟩⟩
theorem MaxAt.but {w w' : World} {B b : Nat} (h : MaxAt w) (hb : BelowBut B b w w') (hB : 0 < B) (hne : 0 ≠ b) : MaxAt w' := by
  obtain ⟨m, hm⟩ := h
  exact ⟨m, (hb.cell (p := ⟨0, 0, none⟩) hB hne).trans hm⟩

/-- whether a byte is a control character, as the walk asks -/
theorem ctl_cases (b : UInt8) : (ctlB b = true ∧ ((b.toNat : Int) < 32 ∧ ¬ (b.toNat : Int) = 9 ∨ ¬ (b.toNat : Int) < 32 ∧ (b.toNat : Int) = 127)) ∨ (ctlB b = false ∧ ((b.toNat : Int) = 9 ∨ ¬ (b.toNat : Int) < 32 ∧ ¬ (b.toNat : Int) = 127)) := by
  rw [ctlB_is]
  unfold ctlN
  by_cases h1 : b.toNat < 32 <;> by_cases h2 : b.toNat = 9 <;> by_cases h3 : b.toNat = 127
  all_goals first
    | (exfalso; omega)
    | (left; refine ⟨by simp [h1, h2, h3], ?_⟩; omega)
    | (right; refine ⟨by simp [h1, h2, h3], ?_⟩; omega)
theorem ctl_snoc (s : ByteArray) (k : Nat) (h : k < s.size) : (s.data.toList.take (k + 1)).any ctlB = ((s.data.toList.take k).any ctlB || ctlB s[k]) := by
  rw [take_snoc' s k h, List.any_append]; simp
theorem ctl_found (s : ByteArray) (k : Nat) (h : k < s.size) (hc : ctlB s[k] = true) : ctlL s.data.toList = true := by
  unfold ctlL
  rw [List.any_eq_true]
  exact ⟨s[k], List.drop_subset k _ (by rw [drop_at s k h]; exact List.mem_cons_self), hc⟩
theorem ctl_none (s : ByteArray) (h : (s.data.toList.take s.size).any ctlB = false) : ctlL s.data.toList = false := by
  rwa [List.take_of_length_le (by rw [size_len]; exact Nat.le_refl _)] at h
end Go.Proofs.YtjdhaacmlpegoaaGreatDoor

/- Cookies: the check that stands before each law. -/
namespace Go.Proofs.YtjdhaacmlpegoaaGreatDoor
set_option linter.unusedVariables false
set_option linter.unusedSimpArgs false
open Go.RowKit

theorem fitC_size : ∀ c ∈ [fitC], (c.d.size ≤ 100000 ∧ c.p.size ≤ 100000) ∧ c.n.size ≤ 100000 ∧ c.v.size ≤ 100000 := by
  intro c hc
  rw [List.mem_singleton.1 hc]
  decide
end Go.Proofs.YtjdhaacmlpegoaaGreatDoor
