/- Cache: the words of a value, in both packages. -/
import Derived.Test.YtkobhknggamejaaGreatDoorHA
import Derived.Test.YtkobhknggamejaaGreatDoorB2
import Derived.Deep.CutRange
import Derived.Deep.CutBlock
namespace Go.Proofs.YtkobhknggamejaaGreatDoor
set_option linter.unusedVariables false
set_option linter.unusedSimpArgs false
open Go.RowKit

def wordsL (s : List UInt8) : List (List UInt8) := ((segs 44 s).map trimC).filter (fun x => !x.isEmpty)
theorem words_step (L : List (List UInt8)) (k : Nat) (h : k < L.length) (x : List UInt8) (hx : L[k] = x) : ((L.take (k + 1)).map trimC).filter (fun x => !x.isEmpty) = ((L.take k).map trimC).filter (fun x => !x.isEmpty) ++ (if trimC x = [] then [] else [trimC x]) := by
  subst hx
  rw [List.take_succ_eq_append_getElem h, List.map_append, List.filter_append]
  congr 1
  simp only [List.map_cons, List.map_nil, List.filter_cons, List.filter_nil]
  cases ht : trimC L[k] <;> simp
/-- what a list of words is in memory -/
def WordsQ (w : World) (L : List (List UInt8)) (x : Ending) (w' : World) : Prop := ∃ v ps, x = .returned v ∧ w'.ownsRow w.heap.size 9 1 v ps.length (strsV ps) ∧ lists ps = L ∧ Below w.heap.size w w'
theorem wordsq_open {w : World} {L : List (List UInt8)} {x : Ending} {w' : World} (h : WordsQ w L x w') : ∃ (ps : List ByteArray) (a : Option Addr) (c : Nat), x = .returned (.slice a ps.length c) ∧ w'.ownsRow w.heap.size 9 1 (.slice a ps.length c) ps.length (strsV ps) ∧ lists ps = L ∧ Below w.heap.size w w' := by
  obtain ⟨v, ps, rfl, h1, h2, h3⟩ := h
  obtain ⟨a, c, rfl, _⟩ := own_reads h1
  exact ⟨ps, a, c, rfl, h1, h2, h3⟩
theorem isEmpty_bs (l : List UInt8) (R : Bool) (h : l.isEmpty = R) : (bs l).toList.isEmpty = R := by rw [ByteArray.toList_eq, bs_list]; exact h
set_option maxRecDepth 20000 in
set_option maxHeartbeats 2000000 in
theorem words_is (s : ByteArray) (w : World) (hs : s.size ≤ 100000) (hM : MaxAt w) (L : List (List UInt8)) (hL : wordsL s.data.toList = L) :
    Calls Tryz.prog 41 #[.string s] w (WordsQ w L) := by
  obtain ⟨l, hl, cS⟩ := split_is 44 s (by omega)
  have hsz := segs_sizes hl
  have hlen := hsz.1
  have HSZ := Lib.hid hsz.2
  have HL := Lib.hid hL
  have HLL := Lib.hid hl
  have CS := Lib.hid (cS w hM)
  have hal := (Below.refl _ w).alloc (Nat.le_refl _) (.cells (l.map Value.string).toArray 9)
  have A0 := AtL.new w (l.map Value.string) 9
  clear hL hl cS hsz
  go_enter Tryz.func41, Tryz.ntmps41
  go_wp2_with (go_at_call 67; with_reducible refine CS.out.mono ?_; rintro e w1 ⟨rfl, rfl⟩)
  obtain ⟨w1, hw1⟩ : ∃ w1 : World, w.alloc (.cells (l.map Value.string).toArray 9) = w1 := ⟨_, rfl⟩
  obtain ⟨K, hK⟩ : ∃ K, w.heap.size = K := ⟨_, rfl⟩
  rw [hw1] at hal A0
  rw [hK] at A0
  rw [hw1, hK]
  have HK := Lib.hid hK
  have hKl := A0.lt
  have hKw : w.heap.size ≤ w1.heap.size := hal.size
  clear hw1 hK
  go_loopw [3, 9] (fun pv iv wr => ∃ (k : Nat) (ps : List ByteArray), k ≤ l.length ∧ iv = .int .i64 k ∧ wr.ownsRow w1.heap.size 9 1 pv ps.length (strsV ps) ∧ Hid (lists ps = (((lists l).take k).map trimC).filter (fun x => !x.isEmpty)) ∧ ps.length ≤ k ∧ Below w1.heap.size w1 wr) (fun _ iv _ => l.length - (intOf iv).toNat)
  case atStart => exact ⟨0, [], Nat.zero_le _, rfl, World.ownsRow_nil _ _ _ _, Lib.hid rfl, Nat.le_refl _, Below.refl _ _⟩
  case round =>
    obtain ⟨k, ps, hk, rfl, hown, HP, hpl, hbw⟩ := hrel
    have hwz := hbw.size
    by_cases hlt : k < l.length
    · have hki : (k : Int) < (l.length : Int) := by omega
      have c0 := (A0.below hbw hKl).c k (v := .string l[k]) (by rw [List.getElem?_map, List.getElem?_eq_getElem hlt]; rfl)
      have hx := HSZ.out _ (List.getElem_mem hlt)
      have hst := words_step (lists l) k (by simpa [lists] using hlt) l[k].data.toList (by simp [lists])
      obtain ⟨x, hxe⟩ : ∃ x, l[k] = x := ⟨_, rfl⟩
      rw [hxe] at c0 hx hst
      obtain ⟨t, ht⟩ : ∃ t, bs (trimC x.data.toList) = t := ⟨_, rfl⟩
      have htl : t.data.toList = trimC x.data.toList := by rw [← ht]; rfl
      have CT := Lib.hid (fun w => ctrim_is x t w (by omega) htl)
      have hKr : K < wr.heap.size := Nat.lt_of_lt_of_le hKl hwz
      cases he : (trimC x.data.toList).isEmpty with
      | true =>
        have hE : t.toList.isEmpty = true := by rw [← ht]; exact isEmpty_bs _ _ he
        have HST := Lib.hid (hst.trans (by rw [if_pos (List.isEmpty_iff.1 he), List.append_nil]))
        clear hst he htl ht hxe
        go_wp2_with (go_at_call 68; with_reducible refine (CT.out _).mono ?_; rintro e w2 ⟨rfl, hb2⟩)
        go_roundw
        case rel => exact ⟨k + 1, ps, by omega, by go_num, own_below hown hb2 (Nat.le_refl _), Lib.hid (HP.out.trans HST.out.symm), by omega, hbw.trans (hb2.mono hwz)⟩
        case measure => simp [intOf]; omega
      | false =>
        have hE : t.toList.isEmpty = false := by rw [← ht]; exact isEmpty_bs _ _ he
        have HST := Lib.hid (hst.trans (by rw [if_neg (by rw [← List.isEmpty_iff, he]; simp), ← htl]))
        clear hst he htl ht hxe
        go_wp2_with (first
          | (go_at_call 68; with_reducible refine (CT.out _).mono ?_; rintro e w2 ⟨rfl, hb2⟩; have o2 := own_below hown hb2 (Nat.le_refl _); have hB2 := hbw.trans (hb2.mono hwz); have hz2 := hB2.size)
          | (refine app2 slS _ (by rfl) (.tmp 17) (.tmp 19) (by rfl) w1.heap.size _ _ _ (by rfl) o2 [_] 1 _ (by rfl) rfl (by rfl) (by intro u hu; simp at hu; subst hu; rfl) (by decide) (by omega) (by omega) hz2 ?_; intro v2 w3 hA gA fA; have hB3 := below_own hB2 o2 gA hz2 (Nat.le_refl _)))
        go_roundw
        case rel => exact ⟨k + 1, ps ++ [t], by omega, by go_num, by simpa [strsV] using hA, Lib.hid (by rw [HST.out, ← HP.out]; simp [lists]), by simp; omega, hB3⟩
        case measure => simp [intOf]; omega
    · obtain rfl : k = l.length := by omega
      go_wp2_with fail
      go_ret
      refine ⟨_, ps, rfl, own_mono hown hKw, ?_, hal.trans (hbw.mono hKw)⟩
      rw [HP.out, List.take_of_length_le (by simp [lists]), HLL.out]
      exact HL.out
theorem ldrop_take {x : ByteArray} {t : ByteArray} (k : Nat) (hk : k < t.size) (hw : wsC t[k] = true) (h0 : k = 0) (h : ldrop t.data.toList = ldrop x.data.toList) : ldrop (t.extract 1 t.size).data.toList = ldrop x.data.toList := by
  subst h0
  have hd := drop_at t 0 hk
  rw [List.drop_zero] at hd
  rw [ext_to, ← h, hd]
  unfold ldrop
  rw [List.dropWhile_cons, if_pos hw]
  simp
theorem ldrop_stop {t : ByteArray} (hk : 0 < t.size) (hw : wsC t[0] = false) : ldrop t.data.toList = t.data.toList := by
  have hd := drop_at t 0 hk
  rw [List.drop_zero] at hd
  rw [hd]
  unfold ldrop
  rw [List.dropWhile_cons, if_neg (by simp [hw])]
theorem segs_is (s : ByteArray) (w : World) (hs : s.size ≤ 100000) : Calls Tryz.prog 71 #[.string s, .int .u8 44] w (WordsQ w (segs 44 s.data.toList)) := segments_any s 44 w (by omega)
set_option maxRecDepth 20000 in
set_option maxHeartbeats 4000000 in
/-- the reference's Words -/
theorem rwords_is (s : ByteArray) (w : World) (hs : s.size ≤ 100000) (L : List (List UInt8)) (hL : wordsL s.data.toList = L) :
    Calls Tryz.prog 44 #[.string s] w (WordsQ w L) := by
  have CS := Lib.hid (fun w => segs_is s w hs)
  have HL := Lib.hid hL
  clear hL
  go_enter Tryz.func44, Tryz.ntmps44
  go_wp2_with (go_at_call 71; with_reducible refine (CS.out _).mono ?_; rintro e w1 hq; obtain ⟨l, la, lc, rfl, hown1, hl, hb1⟩ := wordsq_open hq; clear hq)
  have hsz := segs_sizes hl
  have hlen := hsz.1
  have HSZ := Lib.hid hsz.2
  have HLL := Lib.hid hl
  have hKw := hb1.size
  obtain ⟨_, _, hve, hlc, hlm, hra⟩ := own_reads hown1
  have HRA := Lib.hid hra
  injection hve with e1 _ e3
  subst e1 e3
  clear hsz hl hra
  go_loopw [3, 5] (fun pv iv wr => ∃ (k : Nat) (ps : List ByteArray), k ≤ l.length ∧ iv = .int .i64 k ∧ wr.ownsRow w1.heap.size 9 1 pv ps.length (strsV ps) ∧ Hid (lists ps = (((lists l).take k).map trimC).filter (fun x => !x.isEmpty)) ∧ ps.length ≤ k ∧ Below w1.heap.size w1 wr) (fun _ iv _ => l.length - (intOf iv).toNat)
  case atStart => exact ⟨0, [], Nat.zero_le _, rfl, World.ownsRow_nil _ _ _ _, Lib.hid rfl, Nat.le_refl _, Below.refl _ _⟩
  case round =>
    obtain ⟨k, ps, hk, rfl, hown, HP, hpl, hbw⟩ := hrel
    have hwz := hbw.size
    by_cases hlt : k < l.length
    · have hki : (k : Int) < (l.length : Int) := by omega
      have hk0 : (0 : Int) ≤ (k : Int) := by omega
      rcases HRA.out with ⟨_, h0⟩ | ⟨g, rfl, hgB, hgw, hcg⟩
      · omega
      have c0 := (brl hbw _ _ hgw).trans (hcg k (.string l[k]) (by simp [strsV, hlt]))
      have hx := HSZ.out _ (List.getElem_mem hlt)
      have hst := words_step (lists l) k (by simpa [lists] using hlt) l[k].data.toList (by simp [lists])
      obtain ⟨x, hxe⟩ : ∃ x, l[k] = x := ⟨_, rfl⟩
      rw [hxe] at c0 hx hst
      have hx : x.size ≤ 100000 := by omega
      have hgl : g < wr.heap.size := Nat.lt_of_lt_of_le hgw hwz
      have HST := Lib.hid hst
      obtain ⟨wr0, hwr0⟩ : ∃ wr0 : World, wr0 = wr := ⟨_, rfl⟩
      subst hwr0
      clear hst hxe hcg
      go_upto_block 2 with fail
      go_cut [6] from 19 to 33 (fun c6 w2 => ∃ t : ByteArray, .string t = c6 ∧ t.size ≤ 100000 ∧ Hid (rdrop t.data.toList = trimC x.data.toList) ∧ wr0 = w2)
      case first =>
        go_wp2_with fail
        go_loopw [6] (fun v w2 => ∃ t : ByteArray, t.size ≤ 100000 ∧ v = .string t ∧ Hid (ldrop t.data.toList = ldrop x.data.toList) ∧ w2 = wr0) (fun v _ => strLen v)
        case atStart => exact ⟨x, hx, rfl, Lib.hid rfl, rfl⟩
        case round =>
          obtain ⟨t, ht, rfl, HT, rfl⟩ := hrel
          by_cases h0 : t.size = 0
          · have hE := empty_of t h0
            have hz : (t.size : Int) = 0 := by omega
            have hl0 : t.data.toList = [] := List.eq_nil_of_length_eq_zero (by rw [size_len]; exact h0)
            have hr2 : rdrop t.data.toList = trimC x.data.toList := by unfold trimC; rw [← HT.out, hl0]; rfl
            have HR2 := Lib.hid hr2
            clear hl0 hr2
            go_wp2_with fail
            go_meet
            case rel => exact ⟨t, rfl, ht, HR2, rfl⟩
          · have hE := nonempty_of t (by omega)
            have hp : 0 < t.size := by omega
            have hpi : (0 : Int) < (t.size : Int) := by omega
            rcases ws_cases t[0] with ⟨hw, h32⟩ | ⟨hw, h32, h9⟩ | ⟨hw, h32, h9⟩
            · have HR2 := Lib.hid (ldrop_take 0 hp hw rfl HT.out)
              clear hw
              go_wp2_with fail
              go_roundw
              case rel => exact ⟨t.extract 1 t.size, by simp; omega, rfl, HR2, trivial⟩
              case measure => simp [strLen]; omega
            · have HR2 := Lib.hid (ldrop_take 0 hp hw rfl HT.out)
              clear hw
              go_wp2_with fail
              go_roundw
              case rel => exact ⟨t.extract 1 t.size, by simp; omega, rfl, HR2, trivial⟩
              case measure => simp [strLen]; omega
            · have hr2 : rdrop t.data.toList = trimC x.data.toList := by unfold trimC; rw [← HT.out, ldrop_stop hp hw]
              have HR2 := Lib.hid hr2
              clear hw hr2
              go_wp2_with fail
              go_meet
              case rel => exact ⟨t, rfl, ht, HR2, rfl⟩
      case rest =>
        obtain ⟨t, rfl, ht, HT, rfl⟩ := hcut
        go_upto_block 4 with fail
        go_cut [6] from 34 to 57 (fun c6 w2 => ∃ t : ByteArray, .string t = c6 ∧ t.size ≤ 100000 ∧ Hid (t.data.toList = trimC x.data.toList) ∧ wr0 = w2)
        case first =>
          go_wp2_with fail
          go_loopw [6] (fun v w2 => ∃ t : ByteArray, t.size ≤ 100000 ∧ v = .string t ∧ Hid (rdrop t.data.toList = trimC x.data.toList) ∧ w2 = wr0) (fun v _ => strLen v)
          case atStart => exact ⟨t, ht, rfl, HT, rfl⟩
          case round =>
            obtain ⟨y, hy, rfl, HY, rfl⟩ := hrel
            by_cases hy0 : y.size = 0
            · have hE := empty_of y hy0
              have hyz : (y.size : Int) = 0 := by omega
              have hyl : y.data.toList = [] := List.eq_nil_of_length_eq_zero (by rw [size_len]; exact hy0)
              have hr4 : y.data.toList = trimC x.data.toList := by rw [← HY.out, hyl]; rfl
              have HR4 := Lib.hid hr4
              clear hr4 hyl
              go_wp2_with fail
              go_meet
              case rel => exact ⟨y, rfl, hy, HR4, rfl⟩
            · have hE := nonempty_of y (by omega)
              obtain ⟨m, hm⟩ : ∃ m, y.size = m + 1 := ⟨y.size - 1, by omega⟩
              have hs3 := snoc_at y m hm
              have hmx : (y.size : Int) - 1 = m := by omega
              have hmp : (0 : Int) < (y.size : Int) := by omega
              have e := rdrop_snoc (y.data.toList.take m) y[m]
              rw [← hs3] at e
              rcases ws_cases y[m] with ⟨hw, h32⟩ | ⟨hw, h32, h9⟩ | ⟨hw, h32, h9⟩
              · have hr4 : rdrop (y.extract 0 m).data.toList = trimC x.data.toList := by
                  rw [if_pos hw] at e
                  rw [ext_from, ← e]; exact HY.out
                have HR4 := Lib.hid hr4
                clear hs3 hr4 e hw
                go_wp2_with fail
                go_roundw
                case rel => exact ⟨y.extract 0 m, by simp; omega, rfl, HR4, trivial⟩
                case measure => simp [strLen]; omega
              · have hr4 : rdrop (y.extract 0 m).data.toList = trimC x.data.toList := by
                  rw [if_pos hw] at e
                  rw [ext_from, ← e]; exact HY.out
                have HR4 := Lib.hid hr4
                clear hs3 hr4 e hw
                go_wp2_with fail
                go_roundw
                case rel => exact ⟨y.extract 0 m, by simp; omega, rfl, HR4, trivial⟩
                case measure => simp [strLen]; omega
              · have hr4 : y.data.toList = trimC x.data.toList := by
                  rw [if_neg (by simp [hw])] at e
                  rw [← e]; exact HY.out
                have HR4 := Lib.hid hr4
                clear hs3 hr4 e hw
                go_wp2_with fail
                go_meet
                case rel => exact ⟨y, rfl, hy, HR4, rfl⟩
        case rest =>
          obtain ⟨t2, rfl, ht2, HT2, rfl⟩ := hcut
          cases he : (trimC x.data.toList).isEmpty with
          | true =>
            have hE : t2.toList.isEmpty = true := by rw [ByteArray.toList_eq, HT2.out]; exact he
            have hst := HST.out.trans (by rw [if_pos (List.isEmpty_iff.1 he), List.append_nil])
            have HS2 := Lib.hid hst
            clear hst he
            go_wp2_with fail
            go_roundw
            case rel => exact ⟨k + 1, ps, by omega, by go_num, hown, Lib.hid (HP.out.trans HS2.out.symm), by omega, hbw⟩
            case measure => simp [intOf]; omega
          | false =>
            have hE : t2.toList.isEmpty = false := by rw [ByteArray.toList_eq, HT2.out]; exact he
            have hst := HST.out.trans (by rw [if_neg (by rw [← List.isEmpty_iff, he]; simp), ← HT2.out])
            have HS2 := Lib.hid hst
            clear hst he
            go_wp2_with (refine app2 slS _ (by rfl) (.tmp 60) (.tmp 62) (by rfl) w1.heap.size _ _ _ (by rfl) hown [_] 1 _ (by rfl) rfl (by rfl) (by intro u hu; simp at hu; subst hu; rfl) (by decide) (by omega) (by omega) hwz ?_; intro v2 w3 hA gA fA; have hB3 := below_own hbw hown gA hwz (Nat.le_refl _))
            go_roundw
            case rel => exact ⟨k + 1, ps ++ [t2], by omega, by go_num, by simpa [strsV] using hA, Lib.hid (by rw [HS2.out, ← HP.out]; simp [lists]), by simp; omega, hB3⟩
            case measure => simp [intOf]; omega
    · obtain rfl : k = l.length := by omega
      go_wp2_with fail
      go_ret
      refine ⟨_, ps, rfl, own_mono hown hKw, ?_, hb1.trans (hbw.mono hKw)⟩
      rw [HP.out, List.take_of_length_le (by simp [lists]), HLL.out]
      exact HL.out
end Go.Proofs.YtkobhknggamejaaGreatDoor
