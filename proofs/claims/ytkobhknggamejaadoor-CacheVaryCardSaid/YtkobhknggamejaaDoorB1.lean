import Derived.Test.YtkobhknggamejaaDoorK2
import Derived.Test.YtkobhknggamejaaDoorShelf
import Derived.WalkSpells
import Derived.BigQuiet
import Derived.Lib.Hide
import Derived.Lib.IndexAny
import Derived.Lib.SplitLaws
import Derived.Lib.IndexMore
import Derived.Lib.CountLaws
import Derived.Lib.CutLaws
import Derived.Lib.ConvBytes
import Derived.Laws.IdiomStrings
import Derived.Shelf.Strings.SlTrimAscii
/- Bytes: letters, digits, hexadecimal digits; whether a byte is in a text; walks of the small functions of the url package and of its reference. -/
namespace Go.Proofs.YtkobhknggamejaaDoor
set_option linter.unusedVariables false
set_option linter.unusedSimpArgs false
open Go.RowKit

theorem ret_int {k : IntKind} {a b : Int} (h : a = b) : Ending.returned (.int k a) = .returned (.int k b) := by rw [h]
theorem ret_bool {a b : Bool} (h : a = b) : Ending.returned (.bool a) = .returned (.bool b) := by rw [h]
theorem ret_str {a b : ByteArray} (h : a = b) : Ending.returned (.string a) = .returned (.string b) := by rw [h]
theorem size_len (s : ByteArray) : s.data.toList.length = s.size := by simp
theorem wrap32_byte (b : UInt8) : wrap32 (b.toNat : Int) = b.toNat := IntWalk.wrap32_in _ (by have := b.toNat_lt; omega)
theorem drop_at (s : ByteArray) (k : Nat) (h : k < s.size) : s.data.toList.drop k = s[k] :: s.data.toList.drop (k + 1) := by
  rw [List.drop_eq_getElem_cons (by simpa using h)]; rfl
theorem drop_end (s : ByteArray) (k : Nat) (h : s.size ≤ k) : s.data.toList.drop k = [] := List.drop_eq_nil_of_le (by simpa using h)
theorem byte_bd (b : UInt8) : (0 : Int) ≤ b.toNat ∧ (b.toNat : Int) ≤ 255 := by have := b.toNat_lt; omega
theorem byte_back (b : UInt8) : ((b.toNat : Int)).toNat.toUInt8 = b := by simp

def letterI (x : Int) : Bool := decide (97 ≤ x ∧ x ≤ 122) || decide (65 ≤ x ∧ x ≤ 90)
def digitI (x : Int) : Bool := decide (48 ≤ x ∧ x ≤ 57)
def hexI (x : Int) : Int := if 48 ≤ x ∧ x ≤ 57 then x - 48 else if 97 ≤ x ∧ x ≤ 102 then x - 87 else if 65 ≤ x ∧ x ≤ 70 then x - 55 else -1
def letterB (b : UInt8) : Bool := letterI b.toNat
def digitB (b : UInt8) : Bool := digitI b.toNat
def hexB (b : UInt8) : Int := hexI b.toNat
theorem hexI_bd (x : Int) : -1 ≤ hexI x ∧ hexI x ≤ 15 := by unfold hexI; (repeat' split) <;> omega

/-- whether a byte is in a list -/
theorem idx_in (l : List UInt8) (b : UInt8) : (Lib.indexByte l b < 0) ↔ l.contains b = false := by
  rw [Lib.contains_iff_indexByte]; simp
/-- the bytes that only lets by -/
def okC (more : List UInt8) (b : UInt8) : Bool := letterB b || digitB b || more.contains b
end Go.Proofs.YtkobhknggamejaaDoor

/- Texts: trimming, finding a byte, cutting. -/
namespace Go.Proofs.YtkobhknggamejaaDoor
set_option linter.unusedVariables false
set_option linter.unusedSimpArgs false
open Go.RowKit

def strLen : Value → Nat
  | .string s => s.size
  | _ => 0
theorem ext_list (s : ByteArray) (a b : Nat) : (s.extract a b).data.toList = (s.data.toList.drop a).take (b - a) := by
  simp [ByteArray.data_extract, List.drop_take, Array.toList_extract, List.extract_eq_take_drop]
theorem ext_to (s : ByteArray) (a : Nat) : (s.extract a s.size).data.toList = s.data.toList.drop a := by
  rw [ext_list, List.take_of_length_le (by simp)]
theorem ext_from (s : ByteArray) (b : Nat) : (s.extract 0 b).data.toList = s.data.toList.take b := by
  rw [ext_list]; simp
theorem empty_of (s : ByteArray) (h : s.size = 0) : s.toList.isEmpty = true := by
  rw [List.isEmpty_iff, ByteArray.toList_eq]; exact List.eq_nil_of_length_eq_zero (by rw [size_len]; exact h)
theorem nonempty_of (s : ByteArray) (h : 0 < s.size) : s.toList.isEmpty = false := by
  cases e : s.toList.isEmpty with
  | false => rfl
  | true =>
    rw [List.isEmpty_iff, ByteArray.toList_eq] at e
    have := size_len s
    rw [e] at this
    simp at this
    omega
def wsB (b : UInt8) : Bool := decide (b.toNat ≤ 32)
def trimF (l : List UInt8) : List UInt8 := l.dropWhile wsB
def trimE (l : List UInt8) : List UInt8 := (l.reverse.dropWhile wsB).reverse
def trimL (l : List UInt8) : List UInt8 := trimE (trimF l)
theorem trimE_snoc (l : List UInt8) (b : UInt8) : trimE (l ++ [b]) = if wsB b then trimE l else l ++ [b] := by
  unfold trimE
  rw [List.reverse_append, List.reverse_cons, List.reverse_nil, List.nil_append, List.singleton_append, List.dropWhile_cons]
  split <;> simp
theorem snoc_at (s : ByteArray) (k : Nat) (h : s.size = k + 1) : s.data.toList = s.data.toList.take k ++ [s[k]] := by
  have := List.take_succ_eq_append_getElem (i := k) (l := s.data.toList) (by simp; omega)
  rw [List.take_of_length_le (by simp; omega)] at this
  exact this
end Go.Proofs.YtkobhknggamejaaDoor

/- Texts: finding a byte, small letters, percent codes. -/
namespace Go.Proofs.YtkobhknggamejaaDoor
set_option linter.unusedVariables false
set_option linter.unusedSimpArgs false
open Go.RowKit

def pre (c : UInt8) (l : List UInt8) : List UInt8 := l.takeWhile (· != c)
def post (c : UInt8) (l : List UInt8) : List UInt8 := (l.dropWhile (· != c)).drop 1
/-- a string of one byte -/
theorem conv_one (w : World) (n : Int) : (convert 68 9 (.slice (some ⟨w.heap.size, 0, none⟩) 1 1)).run Tryd.prog (w.alloc (.cells #[.int .u8 n] 5)) = .ok (.string (strOfNums [n])) (w.alloc (.cells #[.int .u8 n] 5)) :=
  run_convert_bytes_arg (w.alloc (.cells #[.int .u8 n] 5)) 68 5 Tryd.underlying68 Tryd.underlying5 w.heap.size 0 1 1 [n] rfl
    (fun i hi => by obtain rfl : i = 0 := by omega
                    simp) 9 Tryd.underlying9
theorem nums_one (n : Int) : (strOfNums [n]).data.toList = [UInt8.ofNat n.toNat] := by simp [strOfNums]
theorem nums_size (n : Int) : (strOfNums [n]).size = 1 := by rw [← size_len, nums_one]; rfl
theorem app_list (a b : ByteArray) : (a ++ b).data.toList = a.data.toList ++ b.data.toList := by simp
theorem byte_ofNat (b : UInt8) : UInt8.ofNat ((b.toNat : Int)).toNat = b := by simp
def lowB (b : UInt8) : UInt8 := if 65 ≤ b.toNat ∧ b.toNat ≤ 90 then b + 32 else b
theorem lowB_int (b : UInt8) : ((65 : Int) ≤ b.toNat → (b.toNat : Int) ≤ 90 → UInt8.ofNat ((b.toNat : Int) + 32).toNat = lowB b) ∧ (¬ ((65 : Int) ≤ b.toNat ∧ (b.toNat : Int) ≤ 90) → UInt8.ofNat ((b.toNat : Int)).toNat = lowB b) := by
  constructor
  · intro h1 h2
    rw [lowB, if_pos ⟨by omega, by omega⟩]
    apply UInt8.toNat_inj.1
    rw [show ((b.toNat : Int) + 32).toNat = b.toNat + 32 by omega, UInt8.toNat_ofNat', UInt8.toNat_add]
    rfl
  · intro h
    rw [lowB, if_neg (fun ⟨h1, h2⟩ => h ⟨by omega, by omega⟩), byte_ofNat]
def lowL (l : List UInt8) : List UInt8 := l.map lowB
end Go.Proofs.YtkobhknggamejaaDoor

/- Plain laws: a text divided at a byte. -/
namespace Go.Proofs.YtkobhknggamejaaDoor
set_option linter.unusedVariables false
set_option linter.unusedSimpArgs false
open Go.RowKit

def segs (c : UInt8) : List UInt8 → List (List UInt8)
  | [] => [[]]
  | b :: l => if b == c then [] :: segs c l else match segs c l with
    | [] => [[b]]
    | p :: r => (b :: p) :: r
theorem segs_ne (c : UInt8) (l : List UInt8) : segs c l ≠ [] := by
  cases l with
  | nil => simp [segs]
  | cons b l => unfold segs; split
                · simp
                · split <;> simp
theorem segs_pre (c : UInt8) (r : List UInt8) : ∀ p : List UInt8, c ∉ p → segs c (p ++ c :: r) = p :: segs c r := by
  intro p
  induction p with
  | nil => intro _; simp [segs]
  | cons b p ih =>
    intro h
    have hb : (b == c) = false := by simp; intro e; exact h (by simp [e])
    rw [List.cons_append, segs, hb, ih (fun q => h (List.mem_cons_of_mem _ q))]
    rfl
theorem segs_one (c : UInt8) : ∀ p : List UInt8, c ∉ p → segs c p = [p] := by
  intro p
  induction p with
  | nil => intro _; rfl
  | cons b p ih =>
    intro h
    have hb : (b == c) = false := by simp; intro e; exact h (by simp [e])
    rw [segs, hb, ih (fun q => h (List.mem_cons_of_mem _ q))]
    rfl
theorem pre_not (c : UInt8) (l : List UInt8) : c ∉ pre c l := by
  unfold pre
  induction l with
  | nil => simp
  | cons b l ih =>
    rw [List.takeWhile_cons]
    split
    · next h => simp only [List.mem_cons, not_or]; exact ⟨fun e => by simp [e] at h, ih⟩
    · simp
theorem pre_post (c : UInt8) (l : List UInt8) (h : c ∈ l) : l = pre c l ++ c :: post c l := by
  unfold pre post
  induction l with
  | nil => cases h
  | cons b l ih =>
    by_cases hb : b = c
    · subst hb; simp
    · have : c ∈ l := by rcases List.mem_cons.1 h with h | h; exact absurd h.symm hb; exact h
      rw [List.takeWhile_cons, if_pos (by simpa using hb), List.dropWhile_cons, if_pos (by simpa using hb), List.cons_append, ← ih this]
theorem pre_all (c : UInt8) (l : List UInt8) (h : c ∉ l) : pre c l = l := by
  unfold pre
  induction l with
  | nil => rfl
  | cons b l ih =>
    have hb : b ≠ c := fun e => h (by simp [e])
    rw [List.takeWhile_cons, if_pos (by simpa using hb), ih (fun q => h (List.mem_cons_of_mem _ q))]
theorem post_none (c : UInt8) (l : List UInt8) (h : c ∉ l) : post c l = [] := by
  unfold post
  induction l with
  | nil => rfl
  | cons b l ih =>
    have hb : b ≠ c := fun e => h (by simp [e])
    rw [List.dropWhile_cons, if_pos (by simpa using hb)]
    exact ih (fun q => h (List.mem_cons_of_mem _ q))
/-- the first place of a byte -/
theorem indexByte_pre (c : UInt8) (l : List UInt8) : Lib.indexByte l c = if c ∈ l then ((pre c l).length : Int) else -1 := by
  induction l with
  | nil => simp [Lib.indexByte]
  | cons b l ih =>
    unfold Lib.indexByte
    by_cases hb : b = c
    · subst hb; simp [pre]
    · have hb2 : (b == c) = false := by simp [hb]
      rw [hb2, ih]
      by_cases hc : c ∈ l
      · have e : pre c (b :: l) = b :: pre c l := by unfold pre; rw [List.takeWhile_cons, if_pos (by simpa using hb)]
        rw [if_pos hc, if_pos (List.mem_cons_of_mem _ hc), e]
        have : ¬ ((((pre c l).length : Int) == -1) = true) := by rw [beq_iff_eq]; omega
        rw [if_neg this]
        simp
      · have hn : c ∉ b :: l := fun q => by rcases List.mem_cons.1 q with q | q; exact hb q.symm; exact hc q
        rw [if_neg hc, if_neg hn]
        simp
/-- Cut at a byte -/
theorem cut_eq (c : UInt8) (l : List UInt8) : Lib.cut l [c] = (pre c l, post c l, l.contains c) := by
  unfold Lib.cut
  rw [Lib.index_one, indexByte_pre]
  by_cases h : c ∈ l
  · have e := pre_post c l h
    have e1 : l.take (pre c l).length = pre c l := by
      have := congrArg (List.take (pre c l).length) e
      rw [this]; exact List.take_left' rfl
    have e2 : l.drop ((pre c l).length + 1) = post c l := by
      have := congrArg (List.drop ((pre c l).length + 1)) e
      rw [this, ← List.drop_drop, List.drop_left' rfl]; rfl
    rw [if_pos h, if_pos (by omega), Int.toNat_natCast, List.length_singleton, e1, e2]
    simp [h]
  · rw [if_neg h, if_neg (by omega), pre_all c l h, post_none c l h]
    simp [h]
end Go.Proofs.YtkobhknggamejaaDoor

/- Plain law: strings.Split at a byte. -/
namespace Go.Proofs.YtkobhknggamejaaDoor
set_option linter.unusedVariables false
set_option linter.unusedSimpArgs false
open Go.RowKit

theorem indexB_one (s : ByteArray) (c : UInt8) : Lib.indexB s ⟨#[c]⟩ = Lib.indexByte s.data.toList c := by
  rw [Lib.indexB]
  exact Lib.index_one _ _
theorem split_segs (c : UInt8) : ∀ (k : Nat) (s : ByteArray), Lib.countB s ⟨#[c]⟩ = k → (Lib.splitB ⟨#[c]⟩ 0 k s).map (·.data.toList) = segs c s.data.toList := by
  intro k
  induction k with
  | zero =>
    intro s h
    have hi := indexB_one s c
    rw [indexByte_pre] at hi
    by_cases hc : c ∈ s.data.toList
    · rw [if_pos hc] at hi
      have := Lib.countB_hit s ⟨#[c]⟩ _ (Nat.le_refl 1) hi
      omega
    · rw [Lib.splitB_zero, segs_one c _ hc]; rfl
  | succ k ih =>
    intro s h
    have hi := indexB_one s c
    rw [indexByte_pre] at hi
    by_cases hc : c ∈ s.data.toList
    · rw [if_pos hc] at hi
      have h1 := Lib.countB_hit s ⟨#[c]⟩ _ (Nat.le_refl 1) hi
      have hm : ¬ ((Lib.indexB s ⟨#[c]⟩ == -1) = true) := by rw [hi, beq_iff_eq]; omega
      rw [Lib.splitB, if_neg hm, hi, Int.toNat_natCast, List.map_cons]
      have e := pre_post c s.data.toList hc
      have z : (⟨#[c]⟩ : ByteArray).size = 1 := rfl
      rw [z] at h1 ⊢
      rw [ih _ (by omega)]
      have e1 : (s.extract 0 ((pre c s.data.toList).length + 0)).data.toList = pre c s.data.toList := by
        rw [Nat.add_zero, ext_from]
        have := congrArg (List.take (pre c s.data.toList).length) e
        rw [this]; exact List.take_left' rfl
      have e2 : (s.extract ((pre c s.data.toList).length + 1) s.size).data.toList = post c s.data.toList := by
        rw [ext_to]
        have := congrArg (List.drop ((pre c s.data.toList).length + 1)) e
        rw [this, ← List.drop_drop, List.drop_left' rfl]; rfl
      rw [e1, e2]
      have := congrArg (segs c) e
      rw [segs_pre c _ _ (pre_not c _)] at this
      exact this.symm
    · rw [if_neg hc] at hi
      have := Lib.countB_miss s ⟨#[c]⟩ hi
      omega
end Go.Proofs.YtkobhknggamejaaDoor

/- The walk of the reference's Segments. -/
namespace Go.Proofs.YtkobhknggamejaaDoor
set_option linter.unusedVariables false
set_option linter.unusedSimpArgs false
open Go.RowKit

theorem slS : SlTy Tryd.prog 50 9 1 16 := .mk' (z := .string ⟨#[]⟩) Tryd.underlying50 (by kernel_rfl) rfl (by decide)
def strsV (l : List ByteArray) : List Value := l.map Value.string
def lists (l : List ByteArray) : List (List UInt8) := l.map (·.data.toList)
theorem mid_drop (l : List UInt8) (a b : Nat) (h : a ≤ b) : l.drop a = (l.drop a).take (b - a) ++ l.drop b := by
  have := (List.take_append_drop (b - a) (l.drop a)).symm
  rwa [List.drop_drop, show a + (b - a) = b by omega] at this
end Go.Proofs.YtkobhknggamejaaDoor

/- Texts: small letters in place; a byte changed. -/
namespace Go.Proofs.YtkobhknggamejaaDoor
set_option linter.unusedVariables false
set_option linter.unusedSimpArgs false
open Go.RowKit

/-- a block of the call's own whose first cells are bytes that may be written -/
structure BytesAt (w : World) (b : Nat) (l : List UInt8) : Prop where
  cell : ∀ j (h : j < l.length), w.cell? ⟨b, j, none⟩ = some (.int .u8 (l[j].toNat : Int))
  free : ∀ j, j < l.length → w.frozen? ⟨b, j, none⟩ = false
  lt : b < w.heap.size
theorem conv_bytes (w : World) (s : ByteArray) : ∃ cap w', (convert 9 68 (.string s)).run Tryd.prog w = .ok (.slice (some ⟨w.heap.size, 0, none⟩) s.size cap) w' ∧ BytesAt w' w.heap.size s.data.toList ∧ Below w.heap.size w w' := by
  refine ⟨_, _, Lib.run_convert_string_bytes w 9 68 5 s Tryd.underlying9 Tryd.underlying68 Tryd.underlying5, ⟨fun j h => ?_, fun j h => ?_, ?_⟩, ?_⟩
  · rw [Lib.bytesWorld_cell w 5 s j (by simpa using h), List.getD_eq_getElem?_getD, List.getElem?_eq_getElem h]; rfl
  · unfold World.frozen?
    rw [Lib.bytesWorld_at_new]
    have : s.size ≤ (Lib.bytesCells w 5 s).size := by simp [Lib.bytesCells]
    simp at h ⊢
    omega
  · rw [Lib.bytesWorld_size]; omega
  · exact ⟨rfl, rfl, rfl, by rw [Lib.bytesWorld_size]; omega, fun k hk => Lib.bytesWorld_at_old w 5 s k hk⟩
theorem BytesAt.set {w : World} {b : Nat} {l : List UInt8} (h : BytesAt w b l) (k : Nat) (hk : k < l.length) (x : UInt8) : BytesAt (w.setCell ⟨b, k, none⟩ (.int .u8 (x.toNat : Int))) b (l.set k x) := by
  refine ⟨fun j hj => ?_, fun j hj => ?_, by simpa using h.lt⟩
  · have hj' : j < l.length := by simpa using hj
    by_cases e : j = k
    · subst e
      rw [World.cell?_setCell_same _ _ _ (h.cell j hj')]
      simp
    · have := h.cell j hj'
      have hne : k ≠ j := fun q => e q.symm
      rw [World.cell?_setCell_other _ _ _ _ (by simp [hne]), this]
      simp [hne]
  · have hj' : j < l.length := by simpa using hj
    have := h.free j hj'
    simpa using this
end Go.Proofs.YtkobhknggamejaaDoor

/- Cookies: domains and paths, in both packages. -/
namespace Go.Proofs.YtkobhknggamejaaDoor
set_option linter.unusedVariables false
set_option linter.unusedSimpArgs false
open Go.RowKit

def numB (b : UInt8) : Bool := digitB b || b == 46
def numericL (l : List UInt8) : Bool := l.all numB
/-- a host belongs to a domain -/
def domL (h d : List UInt8) : Bool := !d.isEmpty && (h == d || (Lib.hasSuffix h (46 :: d) && !numericL h))
/-- a path belongs to a prefix -/
def pathL (p q : List UInt8) : Bool := p == q || (Lib.hasPrefix p q && (Lib.hasSuffix q [47] || (p.drop q.length).head? == some 47))
def befL (l : List UInt8) : List UInt8 := ((l.reverse.dropWhile (· != 47)).drop 1).reverse
/-- the part before the last slash -/
def defpL (l : List UInt8) : List UInt8 := if l.head? ≠ some 47 ∨ befL l = [] then [47] else befL l

theorem suf_iff (s t : ByteArray) (h : t.size ≤ s.size) : ((s.extract (s.size - t.size) s.size).toList == t.toList) = Lib.hasSuffix s.data.toList t.data.toList := by
  rw [ByteArray.toList_eq, ByteArray.toList_eq, ext_to, Lib.hasSuffix, Bool.eq_iff_iff, beq_iff_eq, List.isSuffixOf_iff_suffix, List.suffix_iff_eq_drop]
  rw [size_len, size_len]
  exact ⟨fun e => e.symm, fun e => e.symm⟩
theorem suf_short (s t : ByteArray) (h : ¬ t.size ≤ s.size) : Lib.hasSuffix s.data.toList t.data.toList = false := by
  rw [Lib.hasSuffix, Bool.eq_false_iff, ne_eq, List.isSuffixOf_iff_suffix]
  intro e
  have := e.length_le
  rw [size_len, size_len] at this
  omega
theorem pre_iff (s t : ByteArray) : ((s.extract 0 t.size).toList == t.toList) = Lib.hasPrefix s.data.toList t.data.toList := by
  rw [ByteArray.toList_eq, ByteArray.toList_eq, ext_from, Lib.hasPrefix, Bool.eq_iff_iff, beq_iff_eq, List.isPrefixOf_iff_prefix, List.prefix_iff_eq_take]
  rw [size_len]
  exact ⟨fun e => e.symm, fun e => e.symm⟩
theorem pre_short (s t : ByteArray) (h : ¬ t.size ≤ s.size) : Lib.hasPrefix s.data.toList t.data.toList = false := by
  rw [Lib.hasPrefix, Bool.eq_false_iff, ne_eq, List.isPrefixOf_iff_prefix]
  intro e
  have := e.length_le
  rw [size_len, size_len] at this
  omega
abbrev numCut : ByteArray := ⟨#[48, 49, 50, 51, 52, 53, 54, 55, 56, 57, 46]⟩
theorem trimcs_any (s cs : ByteArray) (w : World) (hs : s.size ≤ 1000000) (hcs : cs.size ≤ 1000) (ha : cs.data.toList.all (fun b => decide (b.toNat < 128)) = true) :
    Calls Tryd.prog 37 #[.string s, .string cs] w fun e w' => e = .returned (.string ⟨(Lib.trimS s.data.toList cs.data.toList).toArray⟩) ∧ Below w.heap.size w w' :=
  Any.strings_Trim_laid Tryd.lays160 (by kernel_rfl) s cs w (by omega) (by omega) (ascii_of_all ha)
theorem dropW_nil {p : UInt8 → Bool} (l : List UInt8) : l.dropWhile p = [] ↔ l.all p = true := by
  induction l with
  | nil => simp
  | cons b l ih =>
    rw [List.dropWhile_cons, List.all_cons]
    cases h : p b with
    | true => simp [ih]
    | false => simp
theorem trimS_nil (l cs : List UInt8) : Lib.trimS l cs = [] ↔ l.all (cs.contains ·) = true := by
  unfold Lib.trimS Lib.trimLeftS Lib.trimRightS
  rw [dropW_nil, List.all_reverse]
  constructor
  · intro h
    have h2 : l.reverse.dropWhile (cs.contains ·) = [] := by
      cases e : l.reverse.dropWhile (cs.contains ·) with
      | nil => rfl
      | cons b r =>
        have := List.head?_dropWhile_not (p := (cs.contains ·)) (l := l.reverse)
        rw [e] at this h
        simp at this h
        exact absurd h.1 this
    rw [dropW_nil, List.all_reverse] at h2
    exact h2
  · intro h
    have : l.reverse.dropWhile (cs.contains ·) = [] := by rw [dropW_nil, List.all_reverse]; exact h
    rw [this]; rfl
theorem numB_in : ∀ b : UInt8, numCut.data.toList.contains b = numB b := by
  have : ∀ n : Fin 256, numCut.data.toList.contains (UInt8.ofNat n.1) = numB (UInt8.ofNat n.1) := by decide +kernel
  intro b
  have h := this ⟨b.toNat, b.toNat_lt⟩
  simpa using h
theorem trimS_num (l : List UInt8) : (Lib.trimS l numCut.data.toList).isEmpty = numericL l := by
  rw [Bool.eq_iff_iff, List.isEmpty_iff, trimS_nil]
  unfold numericL
  rw [show (fun b => numCut.data.toList.contains b) = numB from funext numB_in]
end Go.Proofs.YtkobhknggamejaaDoor

/- Cookies: DomainMatches, PathMatches, DefaultPath: the walks, in both packages. -/
namespace Go.Proofs.YtkobhknggamejaaDoor
set_option linter.unusedVariables false
set_option linter.unusedSimpArgs false
open Go.RowKit

theorem dot_app (d : ByteArray) : ((⟨#[46]⟩ : ByteArray) ++ d).data.toList = 46 :: d.data.toList := by rw [app_list]; rfl
theorem domL_nil (h : List UInt8) : domL h [] = false := rfl
theorem domL_ne (h d : List UInt8) (hd : d ≠ []) : domL h d = (h == d || (Lib.hasSuffix h (46 :: d) && !numericL h)) := by
  unfold domL
  cases d with
  | nil => exact absurd rfl hd
  | cons b r => rfl
theorem list_ne' {s : ByteArray} (h : ¬ s.size = 0) : s.data.toList ≠ [] := fun e => h (by rw [← size_len, e]; rfl)
theorem list_nil' {s : ByteArray} (h : s.size = 0) : s.data.toList = [] := List.eq_nil_of_length_eq_zero (by rw [size_len]; exact h)
theorem beq_lists (a b : ByteArray) : (a.toList == b.toList) = (a.data.toList == b.data.toList) := by rw [ByteArray.toList_eq, ByteArray.toList_eq]
/-! PathMatches -/
theorem pathL_eq (p : List UInt8) : pathL p p = true := by simp [pathL]
theorem pathL_ne (p q : List UInt8) (h : p ≠ q) : pathL p q = (Lib.hasPrefix p q && (Lib.hasSuffix q [47] || (p.drop q.length).head? == some 47)) := by
  unfold pathL
  rw [beq_eq_false_iff_ne.2 h]; rfl
theorem ba_ext' {a b : ByteArray} (h : a.data.toList = b.data.toList) : a = b := by
  cases a; cases b; congr 1; exact Array.toList_inj.1 h
theorem hasPrefix_drop {p q : List UInt8} (h : Lib.hasPrefix p q = true) : p = q ++ p.drop q.length := by
  unfold Lib.hasPrefix at h
  rw [List.isPrefixOf_iff_prefix] at h
  obtain ⟨r, rfl⟩ := h
  simp
theorem path_len {p q : ByteArray} (h : Lib.hasPrefix p.data.toList q.data.toList = true) (hne : p.data.toList ≠ q.data.toList) : q.size < p.size := by
  have h1 := hasPrefix_drop h
  have h2 := congrArg List.length h1
  rw [List.length_append, size_len, size_len] at h2
  rcases Nat.lt_or_ge q.size p.size with h3 | h3
  · exact h3
  · exfalso
    apply hne
    rw [h1, List.eq_nil_of_length_eq_zero (l := p.data.toList.drop q.data.toList.length) (by rw [List.length_drop, size_len, size_len]; omega), List.append_nil]
theorem head_drop (p : ByteArray) (n : Nat) (h : n < p.size) : ((p.data.toList.drop n).head? == some 47) = ((p[n].toNat : Int) == 47) := by
  rw [drop_at p n h]
  simp only [List.head?_cons]
  rw [Bool.eq_iff_iff, beq_iff_eq, beq_iff_eq, Option.some_inj]
  exact ⟨fun e => by rw [e]; rfl, fun e => UInt8.toNat_inj.1 (by have : (47 : UInt8).toNat = 47 := rfl; omega)⟩
/-! DefaultPath -/
theorem bef_of (l : List UInt8) (i : Nat) (h : l[i]? = some 47) (hl : ∀ j, i < j → l[j]? ≠ some 47) : befL l = l.take i := by
  have hi : i < l.length := (List.getElem?_eq_some_iff.1 h).1
  have e : l = l.take i ++ 47 :: l.drop (i + 1) := by
    have := (List.getElem?_eq_some_iff.1 h).2
    rw [← this, ← List.drop_eq_getElem_cons hi, List.take_append_drop]
  have hn : ∀ b ∈ l.drop (i + 1), (b != 47) = true := fun b hb => by
    obtain ⟨j, hj, rfl⟩ := List.getElem_of_mem hb
    rw [List.getElem_drop, bne_iff_ne]
    intro e
    refine hl (i + 1 + j) (by omega) ?_
    rw [List.getElem?_eq_getElem (by rw [List.length_drop] at hj; omega), e]
  unfold befL
  conv => lhs; rw [e]
  rw [List.reverse_append, List.reverse_cons, List.append_assoc, List.dropWhile_append_of_pos (fun b hb => hn b (List.mem_reverse.1 hb))]
  simp
theorem bef_none (l : List UInt8) (hl : ∀ j : Nat, l[j]? ≠ some 47) : befL l = [] := by
  unfold befL
  have : l.reverse.dropWhile (· != 47) = [] := by
    rw [dropW_nil, List.all_reverse, List.all_eq_true]
    intro b hb
    obtain ⟨j, hj, rfl⟩ := List.getElem_of_mem hb
    rw [bne_iff_ne]
    intro e
    exact hl j (by rw [List.getElem?_eq_getElem hj, e])
  rw [this]; rfl
theorem at47 (s : ByteArray) (i : Nat) : s.data.toList[i]? = some 47 ↔ i < s.size ∧ ((s.data[i]!).toNat : Int) = 47 := by
  constructor
  · intro h
    have h1 := List.getElem?_eq_some_iff.1 h
    obtain ⟨h2, h3⟩ := h1
    have h4 : i < s.size := by rwa [size_len] at h2
    refine ⟨h4, ?_⟩
    rw [getElem!_pos s.data i h4]
    rw [Array.getElem_toList] at h3
    rw [h3]; rfl
  · rintro ⟨h1, h2⟩
    rw [List.getElem?_eq_getElem (by rw [size_len]; exact h1)]
    rw [getElem!_pos s.data i h1] at h2
    rw [Array.getElem_toList]
    congr 1
    exact UInt8.toNat_inj.1 (by have : (47 : UInt8).toNat = 47 := rfl; omega)
theorem head47 (s : ByteArray) (h : 0 < s.size) : s.data.toList.head? = some s[0] := by
  rw [← List.drop_zero (l := s.data.toList), drop_at s 0 h]; rfl
end Go.Proofs.YtkobhknggamejaaDoor

/- The walk of Clean: what it needs of rows of strings; plain functions. -/
namespace Go.Proofs.YtkobhknggamejaaDoor
set_option linter.unusedVariables false
set_option linter.unusedSimpArgs false
open Go.RowKit

def kstep (acc : List (List UInt8)) (p : List UInt8) : List (List UInt8) := if p = [46, 46] then acc.dropLast else if p = [46] then acc else acc ++ [p]
def isDot (p : List UInt8) : Bool := p == [46] || p == [46, 46]
/-- what is kept of the first k segments; behind the last one, an empty one where that was a dot -/
def kpt (l : List (List UInt8)) (k : Nat) : List (List UInt8) := (l.take k).foldl kstep [] ++ (if k = l.length ∧ (l.getLast?.map isDot).getD false = true then [[]] else [])
def keptL (l : List (List UInt8)) : List (List UInt8) := kpt l l.length
theorem kpt_zero (l : List (List UInt8)) : kpt l 0 = [] := by
  unfold kpt
  cases l with
  | nil => rfl
  | cons a b => simp
theorem kpt_fold (l : List (List UInt8)) (k : Nat) (h : k < l.length) : kpt l k = (l.take k).foldl kstep [] := by
  unfold kpt
  rw [if_neg (by omega), List.append_nil]
theorem kpt_succ (l : List (List UInt8)) (k : Nat) (h : k < l.length) : kpt l (k + 1) = kstep (kpt l k) l[k] ++ (if k + 1 = l.length ∧ isDot l[k] = true then [[]] else []) := by
  rw [kpt_fold l k h, kpt, List.take_succ_eq_append_getElem h, List.foldl_append]
  congr 1
  by_cases hk : k + 1 = l.length
  · have : l.getLast? = some l[k] := by rw [List.getLast?_eq_getElem?, show l.length - 1 = k by omega, List.getElem?_eq_getElem h]
    rw [this]; rfl
  · simp [hk]
theorem kstep_mem (acc : List (List UInt8)) (p x : List UInt8) (h : x ∈ kstep acc p) : x ∈ acc ∨ x = p := by
  unfold kstep at h
  split at h
  · exact .inl (List.dropLast_subset _ h)
  · split at h
    · exact .inl h
    · simpa using h
theorem fold_mem (l : List (List UInt8)) : ∀ (acc : List (List UInt8)) (x : List UInt8), x ∈ l.foldl kstep acc → x ∈ acc ∨ x ∈ l := by
  induction l with
  | nil => intro acc x h; exact .inl h
  | cons p r ih =>
    intro acc x h
    rcases ih _ x h with h | h
    · rcases kstep_mem _ _ _ h with h | h
      · exact .inl h
      · exact .inr (by simp [h])
    · exact .inr (List.mem_cons_of_mem _ h)
theorem kpt_mem (l : List (List UInt8)) (k : Nat) (x : List UInt8) (h : x ∈ kpt l k) : x = [] ∨ x ∈ l := by
  unfold kpt at h
  rcases List.mem_append.1 h with h | h
  · rcases fold_mem _ _ _ h with h | h
    · cases h
    · exact .inr (List.mem_of_mem_take h)
  · split at h
    · exact .inl (by simpa using h)
    · cases h
theorem segs_len (c : UInt8) (l : List UInt8) : ∀ p ∈ segs c l, p.length ≤ l.length := by
  induction l with
  | nil => intro p h; simp [segs] at h; simp [h]
  | cons b l ih =>
    intro p h
    unfold segs at h
    split at h
    · rcases List.mem_cons.1 h with rfl | h
      · simp
      · have := ih p h; simp; omega
    · split at h
      · next e => exact absurd e (segs_ne c l)
      · next q r e =>
        rcases List.mem_cons.1 h with rfl | h
        · have := ih q (by simp [e]); simp; omega
        · have := ih p (by simp [e, h]); simp; omega
def outL (k : List (List UInt8)) : List UInt8 := (k.map (47 :: ·)).flatten
/-- without an empty first one -/
def tailE (l : List (List UInt8)) : List (List UInt8) := if l.head? = some [] then l.tail else l
def cleanL (l : List UInt8) : List UInt8 := if keptL (tailE (segs 47 l)) = [] then [47] else outL (keptL (tailE (segs 47 l)))
theorem own_shape {w : World} {b e n : Nat} {v : Value} {xs : List Value} (h : w.ownsRow b e 1 v n xs) : (v = .slice none 0 0 ∧ n = 0 ∧ xs = []) ∨ ∃ g cap, v = .slice (some ⟨g, 0, none⟩) n cap ∧ n ≤ cap ∧ cap ≤ maxLen := by
  rcases h.2 with ⟨rfl, rfl⟩ | ⟨g, cap, cur, rfl, hbg, hg, hnc, hcm, hcs, htake⟩
  · exact .inl ⟨rfl, rfl, List.eq_nil_of_length_eq_zero (by simpa using h.1)⟩
  · exact .inr ⟨g, cap, rfl, hnc, hcm⟩
theorem own_shrink {w : World} {b e n g cap : Nat} {xs : List Value} (h : w.ownsRow b e 1 (.slice (some ⟨g, 0, none⟩) n cap) n xs) (m : Nat) (hm : m ≤ n) : w.ownsRow b e 1 (.slice (some ⟨g, 0, none⟩) m cap) m (xs.take m) := by
  have h1 := h.1
  rcases h.2 with ⟨h0, _⟩ | ⟨g', cap', cur, hv, hbg, hg, hnc, hcm, hcs, htake⟩
  · cases h0
  · cases hv
    refine ⟨by rw [List.length_take]; omega, .inr ⟨g, cap, cur, rfl, hbg, hg, by omega, hcm, hcs, ?_⟩⟩
    rw [← htake]
    simp [List.take_take, Nat.min_eq_left hm]
end Go.Proofs.YtkobhknggamejaaDoor

/- The walk of Clean. -/
namespace Go.Proofs.YtkobhknggamejaaDoor
set_option linter.unusedVariables false
set_option linter.unusedSimpArgs false
open Go.RowKit

/-- internal/bytealg.MaxLen holds a number -/
def MaxAt (w : World) : Prop := ∃ m, w.cell? ⟨0, 0, none⟩ = some (.int .i64 m)
theorem cell_lt {w : World} {b o : Nat} {v : Value} (h : w.cell? ⟨b, o, none⟩ = some v) : b < w.heap.size := by
  unfold World.cell? at h
  rcases Nat.lt_or_ge b w.heap.size with h1 | h1
  · exact h1
  · simp [Array.getElem?_eq_none h1] at h
theorem MaxAt.below {w w' : World} {B : Nat} (h : MaxAt w) (hb : Below B w w') (hB : w.heap.size ≤ B) : MaxAt w' := by
  obtain ⟨m, hm⟩ := h
  exact ⟨m, (hb.cell (p := ⟨0, 0, none⟩) (Nat.lt_of_lt_of_le (cell_lt hm) hB)).trans hm⟩
theorem toList_ne {p : ByteArray} {a : Array UInt8} (h : ¬ p = ⟨a⟩) : p.data.toList ≠ a.toList := fun e => h (by cases p; congr 1; exact Array.toList_inj.1 e)
theorem kstep_other (acc : List (List UInt8)) (p : ByteArray) (h1 : ¬ p = ⟨#[46, 46]⟩) (h2 : ¬ p = ⟨#[46]⟩) : kstep acc p.data.toList = acc ++ [p.data.toList] := by
  rw [kstep, if_neg (toList_ne h1), if_neg (toList_ne h2)]
theorem notDot (p : ByteArray) (h1 : ¬ p = ⟨#[46, 46]⟩) (h2 : ¬ p = ⟨#[46]⟩) : isDot p.data.toList = false := by
  have a := toList_ne h1
  have b := toList_ne h2
  unfold isDot
  rw [Bool.or_eq_false_iff]
  exact ⟨by rw [beq_eq_false_iff_ne]; exact b, by rw [beq_eq_false_iff_ne]; exact a⟩
theorem segs_count (c : UInt8) (l : List UInt8) : (segs c l).length ≤ l.length + 1 := by
  induction l with
  | nil => simp [segs]
  | cons b l ih =>
    unfold segs
    split
    · simp; omega
    · split
      · simp
      · next q r e => rw [e] at ih; simp at ih ⊢; omega
end Go.Proofs.YtkobhknggamejaaDoor

/- Cookies: the small functions: times, trimming, pairs, ages, control characters. -/
namespace Go.Proofs.YtkobhknggamejaaDoor
set_option linter.unusedVariables false
set_option linter.unusedSimpArgs false
open Go.RowKit

def clockI (now : Int) : Int := min (max now 0) 9007199254740992
theorem clock_bd (now : Int) : 0 ≤ clockI now ∧ clockI now ≤ 9007199254740992 := by unfold clockI; omega
/-! trimming -/
def wsC (b : UInt8) : Bool := [32, 9].contains b
def ldrop (l : List UInt8) : List UInt8 := l.dropWhile wsC
def rdrop (l : List UInt8) : List UInt8 := (l.reverse.dropWhile wsC).reverse
def trimC (l : List UInt8) : List UInt8 := rdrop (ldrop l)
theorem rdrop_cons (b : UInt8) (l : List UInt8) : rdrop (b :: l) = if rdrop l = [] then (if wsC b then [] else [b]) else b :: rdrop l := by
  unfold rdrop
  rw [List.reverse_cons, List.dropWhile_append]
  by_cases h : l.reverse.dropWhile wsC = []
  · rw [h]
    simp only [List.isEmpty_nil, if_true, List.reverse_nil]
    rw [List.dropWhile_cons]
    cases wsC b <;> simp
  · have h2 : (l.reverse.dropWhile wsC).isEmpty = false := by simpa using h
    rw [h2, if_neg (by simp), if_neg (by simpa using h)]
    simp
theorem trim_comm : ∀ l : List UInt8, ldrop (rdrop l) = rdrop (ldrop l) := by
  intro l
  induction l with
  | nil => rfl
  | cons b l ih =>
    have e : ldrop (b :: l) = if wsC b then ldrop l else b :: l := by unfold ldrop; rw [List.dropWhile_cons]
    rw [rdrop_cons, e]
    cases hb : wsC b with
    | true =>
      rw [if_pos rfl, if_pos rfl]
      by_cases h : rdrop l = []
      · rw [if_pos h, ← ih, h]
      · rw [if_neg h]
        have e2 : ldrop (b :: rdrop l) = ldrop (rdrop l) := by unfold ldrop; rw [List.dropWhile_cons, if_pos hb]
        rw [e2, ih]
    | false =>
      rw [if_neg Bool.false_ne_true, if_neg Bool.false_ne_true, rdrop_cons, hb, if_neg Bool.false_ne_true]
      by_cases h : rdrop l = []
      · rw [if_pos h]
        unfold ldrop; rw [List.dropWhile_cons, if_neg (by simp [hb])]
      · rw [if_neg h]
        unfold ldrop; rw [List.dropWhile_cons, if_neg (by simp [hb])]
theorem trimC_is (l : List UInt8) : Lib.trimS l [32, 9] = trimC l := by
  show ldrop (rdrop l) = _
  rw [trim_comm]; rfl
theorem trimC_len (l : List UInt8) : (trimC l).length ≤ l.length := by
  unfold trimC rdrop ldrop
  rw [List.length_reverse]
  have h1 := (List.dropWhile_sublist (p := wsC) (l := (l.dropWhile wsC).reverse)).length_le
  have h2 := (List.dropWhile_sublist (p := wsC) (l := l)).length_le
  rw [List.length_reverse] at h1
  omega
theorem rdrop_snoc (l : List UInt8) (b : UInt8) : rdrop (l ++ [b]) = if wsC b then rdrop l else l ++ [b] := by
  unfold rdrop
  rw [List.reverse_append]
  simp only [List.reverse_singleton, List.singleton_append, List.dropWhile_cons]
  split <;> simp
theorem ws_cases (b : UInt8) : (wsC b = true ∧ ((b.toNat : Int) == 32) = true) ∨ (wsC b = true ∧ ((b.toNat : Int) == 32) = false ∧ ((b.toNat : Int) == 9) = true) ∨ (wsC b = false ∧ ((b.toNat : Int) == 32) = false ∧ ((b.toNat : Int) == 9) = false) := by
  by_cases h1 : b = 32
  · subst h1; exact .inl ⟨rfl, rfl⟩
  · have h1' : ((b.toNat : Int) == 32) = false := by
      rw [beq_eq_false_iff_ne]; intro e; exact h1 (UInt8.toNat_inj.1 (by have : (32 : UInt8).toNat = 32 := rfl; omega))
    by_cases h2 : b = 9
    · subst h2; exact .inr (.inl ⟨rfl, h1', rfl⟩)
    · refine .inr (.inr ⟨?_, h1', ?_⟩)
      · unfold wsC; simp [h1, h2]
      · rw [beq_eq_false_iff_ne]; intro e; exact h2 (UInt8.toNat_inj.1 (by have : (9 : UInt8).toNat = 9 := rfl; omega))
theorem ctrim_is (s T : ByteArray) (w : World) (hs : s.size ≤ 1000000) (hT : T.data.toList = trimC s.data.toList) :
    Calls Tryd.prog 37 #[.string s, .string ⟨#[32, 9]⟩] w fun e w' => e = .returned (.string T) ∧ Below w.heap.size w w' := by
  refine (trimcs_any s ⟨#[32, 9]⟩ w hs (by decide) (by decide)).mono ?_
  rintro e w' ⟨rfl, h⟩
  refine ⟨?_, h⟩
  congr 2
  exact ba_ext' (by rw [hT, ← trimC_is])

/-! pairs -/
/-! ages -/
def ageF (n : Int) (b : UInt8) : Int := min (n * 10 + ((b.toNat : Int) - 48)) 1000000000
/-- the seconds of a value, limited; none: it is none -/
def ageL (l : List UInt8) : Option Int :=
  if Lib.hasPrefix l [45] = true then (if l.drop 1 ≠ [] ∧ (l.drop 1).all digitB = true then some 0 else none)
  else (if l ≠ [] ∧ l.all digitB = true then some (l.foldl ageF 0) else none)
theorem ageF_bd (n : Int) (b : UInt8) (h0 : 0 ≤ n) (h : digitB b = true) : 0 ≤ ageF n b ∧ ageF n b ≤ 1000000000 := by
  simp only [digitB, digitI, decide_eq_true_eq] at h
  unfold ageF; omega
theorem foldl_age_bd : ∀ (l : List UInt8) (n : Int), 0 ≤ n → n ≤ 1000000000 → l.all digitB = true → 0 ≤ l.foldl ageF n ∧ l.foldl ageF n ≤ 1000000000 := by
  intro l
  induction l with
  | nil => intro n h0 h1 _; exact ⟨h0, h1⟩
  | cons b l ih =>
    intro n h0 h1 h
    simp only [List.all_cons, Bool.and_eq_true] at h
    have := ageF_bd n b h0 h.1
    exact ih _ this.1 this.2 h.2
theorem ageL_bd (l : List UInt8) (n : Int) (h : ageL l = some n) : 0 ≤ n ∧ n ≤ 1000000000 := by
  unfold ageL at h
  split at h
  · split at h
    · injection h with h; omega
    · cases h
  · split at h
    · next h2 =>
      injection h with h
      have := foldl_age_bd l 0 (by omega) (by omega) h2.2
      omega
    · cases h
theorem pre45 (s : ByteArray) : Lib.hasPrefix s.data.toList [45] = true → 0 < s.size := fun h => by
  have := hasPrefix_drop h
  rw [← size_len, this]; simp
abbrev digCut : ByteArray := ⟨#[48, 49, 50, 51, 52, 53, 54, 55, 56, 57]⟩
theorem digB_in : ∀ b : UInt8, digCut.data.toList.contains b = digitB b := by
  have : ∀ n : Fin 256, digCut.data.toList.contains (UInt8.ofNat n.1) = digitB (UInt8.ofNat n.1) := by decide +kernel
  intro b
  have h := this ⟨b.toNat, b.toNat_lt⟩
  simpa using h
theorem trimS_dig (l : List UInt8) : (Lib.trimS l digCut.data.toList).isEmpty = l.all digitB := by
  rw [Bool.eq_iff_iff, List.isEmpty_iff, trimS_nil]
  rw [show (fun b => digCut.data.toList.contains b) = digitB from funext digB_in]
theorem take_snoc' (s : ByteArray) (k : Nat) (h : k < s.size) : s.data.toList.take (k + 1) = s.data.toList.take k ++ [s[k]] := by
  rw [List.take_succ_eq_append_getElem (by simpa using h)]; rfl
theorem dig_at {s : ByteArray} (h : s.data.toList.all digitB = true) (k : Nat) (hk : k < s.size) : (48 : Int) ≤ s[k].toNat ∧ (s[k].toNat : Int) ≤ 57 := by
  have hm : s[k] ∈ s.data.toList := List.drop_subset k _ (by rw [drop_at s k hk]; exact List.mem_cons_self)
  have := List.all_eq_true.1 h _ hm
  simp only [digitB, digitI, decide_eq_true_eq] at this
  exact this
theorem age_step (s : ByteArray) (k : Nat) (hk : k < s.size) (n : Int) (hn : (s.data.toList.take k).foldl ageF 0 = n) : (s.data.toList.take (k + 1)).foldl ageF 0 = min (n * 10 + ((s[k].toNat : Int) - 48)) 1000000000 := by
  rw [take_snoc' s k hk, List.foldl_append, hn]; rfl
theorem all_take_snoc {s : ByteArray} {k : Nat} (hk : k < s.size) : (s.data.toList.take (k + 1)).all digitB = ((s.data.toList.take k).all digitB && digitB s[k]) := by
  rw [take_snoc' s k hk, List.all_append]; simp
theorem all_bad {s : ByteArray} {k : Nat} (hk : k < s.size) (h : digitB s[k] = false) : s.data.toList.all digitB = false := by
  cases e : s.data.toList.all digitB with
  | false => rfl
  | true =>
    have hm : s[k] ∈ s.data.toList := List.drop_subset k _ (by rw [drop_at s k hk]; exact List.mem_cons_self)
    rw [List.all_eq_true.1 e _ hm] at h; cases h
end Go.Proofs.YtkobhknggamejaaDoor

/- Memory: a struct that lies in a block of its own and may be written. -/
namespace Go.Proofs.YtkobhknggamejaaDoor
set_option linter.unusedVariables false
set_option linter.unusedSimpArgs false
open Go.RowKit

/-- block k begins with these cells, and they may be written -/
def AtL (W : World) (k : Nat) (vs : List Value) : Prop := k < W.heap.size ∧ ∀ j v, vs[j]? = some v → W.cell? ⟨k, j, none⟩ = some v ∧ W.frozen? ⟨k, j, none⟩ = false
theorem AtL.lt {W : World} {k : Nat} {vs : List Value} (h : AtL W k vs) : k < W.heap.size := h.1
theorem AtL.c {W : World} {k : Nat} {vs : List Value} (h : AtL W k vs) (j : Nat) {v : Value} (hv : vs[j]? = some v) : W.cell? ⟨k, j, none⟩ = some v := (h.2 j v hv).1
theorem AtL.f {W : World} {k : Nat} {vs : List Value} (h : AtL W k vs) (j : Nat) {v : Value} (hv : vs[j]? = some v) : W.frozen? ⟨k, j, none⟩ = false := (h.2 j v hv).2
theorem AtL.below {W W' : World} {k n : Nat} {vs : List Value} (h : AtL W k vs) (hb : Below n W W') (hk : k < n) : AtL W' k vs :=
  ⟨Nat.lt_of_lt_of_le h.1 hb.size, fun j v hv => ⟨(hb.cell (p := ⟨k, j, none⟩) hk).trans (h.c j hv), (hb.frozen (p := ⟨k, j, none⟩) hk).trans (h.f j hv)⟩⟩
theorem AtL.next {W W' : World} {k : Nat} {vs : List Value} (h : AtL W k vs) (hb : Below W.heap.size W W') : AtL W' k vs := h.below hb h.1
theorem AtL.alloc {W : World} {k : Nat} {vs : List Value} (h : AtL W k vs) (o : Obj) : AtL (W.alloc o) k vs := h.below ((Below.refl _ W).alloc (Nat.le_refl _) o) h.1
theorem AtL.drew {W : World} {k : Nat} {vs : List Value} (h : AtL W k vs) : AtL W.drew k vs := h
theorem AtL.drewN {W : World} {k : Nat} {vs : List Value} (h : AtL W k vs) (n : Nat) : AtL (W.drewN n) k vs := h
theorem AtL.set {W : World} {k : Nat} {vs : List Value} (h : AtL W k vs) (i : Nat) (v : Value) : AtL (W.setCell ⟨k, i, none⟩ v) k (vs.set i v) := by
  refine ⟨by rw [World.size_setCell]; exact h.1, fun j u hu => ?_⟩
  have hj : j < vs.length := by
    rcases Nat.lt_or_ge j vs.length with h1 | h1
    · exact h1
    · rw [List.getElem?_eq_none (by simpa using h1)] at hu; cases hu
  have h0 := h.c j (List.getElem?_eq_getElem hj)
  have hf := h.f j (List.getElem?_eq_getElem hj)
  refine ⟨?_, by rw [World.frozen?_setCell]; exact hf⟩
  by_cases e : i = j
  · subst e
    rw [List.getElem?_set_self hj] at hu
    injection hu with hu
    subst hu
    exact World.cell?_setCell_same' W _ v (by rw [h0]; rfl)
  · rw [List.getElem?_set_ne e] at hu
    rw [World.cell?_setCell_other W _ _ v (fun q => e (by cases q; rfl))]
    exact h.c j hu
theorem AtL.far {W : World} {k : Nat} {vs : List Value} (h : AtL W k vs) (p : Addr) (v : Value) (hp : p.block ≠ k) : AtL (W.setCell p v) k vs := by
  refine ⟨by rw [World.size_setCell]; exact h.1, fun j u hu => ⟨?_, by rw [World.frozen?_setCell]; exact h.f j hu⟩⟩
  rw [World.cell?_setCell_other W _ _ v (fun q => hp (by rw [q]))]
  exact h.c j hu
theorem AtL.new (w : World) (vs : List Value) (T : TypeId) : AtL (w.alloc (.cells vs.toArray T)) w.heap.size vs := by
  have hh : (w.alloc (.cells vs.toArray T)).heap[w.heap.size]? = some (.cells vs.toArray T) := by unfold World.alloc; simp
  refine ⟨by simp, fun j v hv => ⟨?_, ?_⟩⟩
  · have := cells_new w vs T j v hv
    have hadd : (⟨w.heap.size, 0, none⟩ : Addr).add j = ⟨w.heap.size, j, none⟩ := by unfold Addr.add; split <;> simp_all
    rwa [hadd] at this
  · unfold World.frozen?
    rw [hh]; simp
/-- nine fields written, one behind the other -/
abbrev set9 (W : World) (k : Nat) (a b c d e f g h i : Value) : World := ((((((((W.setCell ⟨k, 0, none⟩ a).setCell ⟨k, 1, none⟩ b).setCell ⟨k, 2, none⟩ c).setCell ⟨k, 3, none⟩ d).setCell ⟨k, 4, none⟩ e).setCell ⟨k, 5, none⟩ f).setCell ⟨k, 6, none⟩ g).setCell ⟨k, 7, none⟩ h).setCell ⟨k, 8, none⟩ i
theorem AtL.set9 {W : World} {k : Nat} {vs : List Value} (hv : AtL W k vs) (hl : vs.length = 9) (a b c d e f g h i : Value) : AtL (set9 W k a b c d e f g h i) k [a, b, c, d, e, f, g, h, i] := by
  match vs, hl with
  | [_, _, _, _, _, _, _, _, _], _ => exact ((((((((hv.set 0 a).set 1 b).set 2 c).set 3 d).set 4 e).set 5 f).set 6 g).set 7 h).set 8 i
theorem below_set9 {B k : Nat} {w W : World} (h : Below B w W) (hk : B ≤ k) (a b c d e f g x i : Value) : Below B w (set9 W k a b c d e f g x i) :=
  ((((((((h.setCell (p := ⟨k, 0, none⟩) hk a).setCell (p := ⟨k, 1, none⟩) hk b).setCell (p := ⟨k, 2, none⟩) hk c).setCell (p := ⟨k, 3, none⟩) hk d).setCell (p := ⟨k, 4, none⟩) hk e).setCell (p := ⟨k, 5, none⟩) hk f).setCell (p := ⟨k, 6, none⟩) hk g).setCell (p := ⟨k, 7, none⟩) hk x).setCell (p := ⟨k, 8, none⟩) hk i
/-- the results of a function that gives a struct of nine cells and one thing more -/
theorem ret9_run {P : Program} {fn : Func} {q T r : Nat} (hr : fn.results = #[.cell q T, .tmp r]) (hz : ∀ w, (Go.sizeOf T).run P w = .ok 9 w) (ha : ∀ w, (isAgg T).run P w = .ok true w) (tmps : Array Value) (W : World) (k : Nat) (a b c d e f g h i x : Value) (h2 : tmps.getD q undef = .pointer (some ⟨k, 0, none⟩)) (h3 : tmps.getD r undef = x) (hA : AtL W k [a, b, c, d, e, f, g, h, i]) :
    (results fn tmps).run P W = .ok (.tuple #[.agg #[a, b, c, d, e, f, g, h, i], x]) W := by
  have c0 := hA.c 0 rfl
  have c1 := hA.c 1 rfl
  have c2 := hA.c 2 rfl
  have c3 := hA.c 3 rfl
  have c4 := hA.c 4 rfl
  have c5 := hA.c 5 rfl
  have c6 := hA.c 6 rfl
  have c7 := hA.c 7 rfl
  have c8 := hA.c 8 rfl
  rw [Array.getD_eq_getD_getElem?] at h2 h3
  simp [results, hr, h2, h3, go_sem, hz, ha, c0, c1, c2, c3, c4, c5, c6, c7, c8]
end Go.Proofs.YtkobhknggamejaaDoor
