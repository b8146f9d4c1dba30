/- Texts: small letters in place; a byte changed. -/
import Derived.Test.YtgjooigolgdocaaGreatDoorUC
import Derived.Lib.ConvBytes
import Derived.Laws.IdiomStrings
namespace Go.Proofs.YtgjooigolgdocaaGreatDoor
set_option linter.unusedVariables false
set_option linter.unusedSimpArgs false
open Go.RowKit

/-- a block of the call's own whose first cells are bytes that may be written -/
structure BytesAt (w : World) (b : Nat) (l : List UInt8) : Prop where
  cell : ∀ j (h : j < l.length), w.cell? ⟨b, j, none⟩ = some (.int .u8 (l[j].toNat : Int))
  free : ∀ j, j < l.length → w.frozen? ⟨b, j, none⟩ = false
  lt : b < w.heap.size
theorem conv_bytes (w : World) (s : ByteArray) : ∃ cap w', (convert 9 85 (.string s)).run Tryz.prog w = .ok (.slice (some ⟨w.heap.size, 0, none⟩) s.size cap) w' ∧ BytesAt w' w.heap.size s.data.toList ∧ Below w.heap.size w w' := by
  refine ⟨_, _, Lib.run_convert_string_bytes w 9 85 5 s Tryz.underlying9 Tryz.underlying85 Tryz.underlying5, ⟨fun j h => ?_, fun j h => ?_, ?_⟩, ?_⟩
  · rw [Lib.bytesWorld_cell w 5 s j (by simpa using h), List.getD_eq_getElem?_getD, List.getElem?_eq_getElem h]; rfl
  · unfold World.frozen?
    rw [Lib.bytesWorld_at_new]
    have : s.size ≤ (Lib.bytesCells w 5 s).size := by simp [Lib.bytesCells]
    simp at h ⊢
    omega
  · rw [Lib.bytesWorld_size]; omega
  · exact ⟨rfl, rfl, rfl, by rw [Lib.bytesWorld_size]; omega, fun k hk => Lib.bytesWorld_at_old w 5 s k hk⟩
theorem BytesAt.set {w : World} {b : Nat} {l : List UInt8} (h : BytesAt w b l) (k : Nat) (hk : k < l.length) (x : UInt8) : BytesAt (w.setCell ⟨b, k, none⟩ (.int .u8 (x.toNat : Int))) b (l.set k x) := by
  refine ⟨fun j hj => ?_, fun j hj => ?_, by simpa using h.lt⟩
  · have hj' : j < l.length := by simpa using hj
    by_cases e : j = k
    · subst e
      rw [World.cell?_setCell_same _ _ _ (h.cell j hj')]
      simp
    · have := h.cell j hj'
      have hne : k ≠ j := fun q => e q.symm
      rw [World.cell?_setCell_other _ _ _ _ (by simp [hne]), this]
      simp [hne]
  · have hj' : j < l.length := by simpa using hj
    have := h.free j hj'
    simpa using this
set_option maxRecDepth 20000 in
theorem lower_any (s : ByteArray) (w : World) (hs : s.size ≤ 1000000) :
    Calls Tryz.prog 122 #[.string s] w fun e w' => ∃ t : ByteArray, e = .returned (.string t) ∧ t.data.toList = lowL s.data.toList ∧ Below w.heap.size w w' := by
  obtain ⟨cap, w1, hcv, hby, hb1⟩ := conv_bytes w s
  go_enter Tryz.func122, Tryz.ntmps122
  go_wp2
  go_loopw [10] (fun iv wr => ∃ (k : Nat), k ≤ s.size ∧ iv = .int .i64 k ∧ BytesAt wr w.heap.size (lowL (s.data.toList.take k) ++ s.data.toList.drop k) ∧ Below w.heap.size w wr) (fun iv _ => s.size - (intOf iv).toNat)
  case atStart => exact ⟨0, Nat.zero_le _, rfl, hby, hb1⟩
  case round =>
    obtain ⟨k, hk, rfl, hbl, hbw⟩ := hrel
    clear hby hb1 hcv
    by_cases hlt : k < s.size
    · have hd := drop_at s k hlt
      have hll : (lowL (s.data.toList.take k)).length = k := by simp [lowL]; omega
      obtain ⟨P, hP⟩ : ∃ P, lowL (s.data.toList.take k) = P := ⟨_, rfl⟩
      rw [hd, hP] at hbl
      rw [hP] at hll
      have c0 := hbl.cell k (by simp; omega)
      have f0 := hbl.free k (by simp; omega)
      rw [List.getElem_append_right (by omega)] at c0
      simp only [hll, Nat.sub_self, List.getElem_cons_zero] at c0
      have hlt2 := hbl.lt
      have hts : s.data.toList.take (k + 1) = s.data.toList.take k ++ [s[k]] := by rw [List.take_succ_eq_append_getElem (by simpa using hlt)]; rfl
      have hn : lowL (s.data.toList.take (k + 1)) = P ++ [lowB s[k]] := by rw [hts, ← hP]; simp [lowL]
      have hset := hbl.set k (by simp; omega) (lowB s[k])
      rw [List.set_append_right _ _ (by omega), hll, Nat.sub_self, List.set_cons_zero] at hset
      have hb := lowB_int s[k]
      have HB := Lib.hid hb
      have HN := Lib.hid hn
      have HS := Lib.hid hset
      have HBL := Lib.hid hbl
      clear hb hn hset hbl hd hP hts
      have hkk : (k : Int) < (s.size : Int) := by omega
      go_wp2
      · go_roundw
        case rel =>
          refine ⟨k + 1, by omega, by go_num, ?_, hbw.setCell (Nat.le_refl _) _⟩
          rw [HN.out, List.append_assoc, List.singleton_append]
          have e := HB.out.1 (by omega) (by omega)
          have e2 : ((lowB s[k]).toNat : Int) = (s[k].toNat : Int) + 97 - 65 := by
            rw [← e, show ((s[k].toNat : Int) + 32).toNat = s[k].toNat + 32 by omega, UInt8.toNat_ofNat']
            omega
          have := HS.out
          rwa [e2] at this
        case measure => simp [intOf]; omega
      all_goals
        go_roundw
        case rel =>
          refine ⟨k + 1, by omega, by go_num, ?_, hbw⟩
          have e := HB.out.2 (by omega)
          rw [byte_ofNat] at e
          rw [HN.out, List.append_assoc, List.singleton_append, ← e]
          exact HBL.out
        case measure => simp [intOf]; omega
    · rw [drop_end s k (by omega), List.append_nil, List.take_of_length_le (by simp; omega)] at hbl
      have hcv2 := run_convert_bytes_back (P := Tryz.prog) wr 85 9 5 ⟨w.heap.size, 0, none⟩ cap (lowL s.data.toList) Tryz.underlying85 Tryz.underlying5 Tryz.underlying9 (fun j hj => by rw [show (⟨w.heap.size, 0, none⟩ : Addr).add j = ⟨w.heap.size, j, none⟩ by cases j <;> simp [Addr.add]]; exact hbl.cell j hj)
      have hll : (lowL s.data.toList).length = s.size := by simp [lowL]
      obtain ⟨t, ht⟩ : ∃ t : ByteArray, (⟨(lowL s.data.toList).toArray⟩ : ByteArray) = t := ⟨_, rfl⟩
      rw [hll, ht] at hcv2
      have ht2 : t.data.toList = lowL s.data.toList := by rw [← ht]
      have HT2 := Lib.hid ht2
      clear hbl hll ht ht2
      go_wp2
      go_ret
      exact ⟨t, rfl, HT2.out, hbw⟩
end Go.Proofs.YtgjooigolgdocaaGreatDoor
