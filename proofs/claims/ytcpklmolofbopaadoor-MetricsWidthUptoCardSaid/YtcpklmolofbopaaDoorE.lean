/- The walk of part. -/
import Derived.Test.YtcpklmolofbopaaDoorD
import Derived.Test.YtcpklmolofbopaaDoorShelf
namespace Go.Proofs.YtcpklmolofbopaaDoor
open Go.RowKit

/-- a stretch of a string -/
def sub (l : List UInt8) (a b : Nat) : List UInt8 := (l.drop a).take (b - a)
theorem extract_sub (s : ByteArray) (a b : Nat) : (s.extract a b).data.toList = sub s.data.toList a b := by
  simp [sub, ByteArray.data_extract, Array.toList_extract, List.extract]
theorem sub_len (l : List UInt8) (a b : Nat) (h : b ≤ l.length) : (sub l a b).length = b - a := by simp [sub]; omega
theorem trimTo_white (l : List UInt8) (a b : Nat) : ∀ j, trimTo l a b ≤ j → j < b → white ((l.getD j 0).toNat : Int) = true := by
  induction b with
  | zero => intro j _ h; omega
  | succ b ih =>
    intro j h1 h2
    unfold trimTo at h1
    split at h1
    · rename_i h; by_cases e : j = b
      · subst e; exact h.2
      · exact ih j h1 (by omega)
    · omega
theorem trimTo_last (l : List UInt8) (a b : Nat) (hab : a ≤ b) (h : a < trimTo l a b) : white ((l.getD (trimTo l a b - 1) 0).toNat : Int) = false := by
  induction b with
  | zero => simp [trimTo] at h
  | succ b ih =>
    unfold trimTo at h ⊢
    split
    · rename_i h'; rw [if_pos h'] at h; exact ih (by omega) h
    · rename_i h'
      rw [if_neg h'] at h
      simp only [Nat.add_sub_cancel]
      simpa [h] using h'
theorem ws_white (x : UInt8) : [9, 10, 13, 32].contains x = white (x.toNat : Int) := by
  have : ∀ y : Fin 256, [9, 10, 13, 32].contains (UInt8.ofNat y.val) = white (y.val : Int) := by decide +kernel
  have h := this ⟨x.toNat, x.toNat_lt⟩
  simpa using h
theorem trimRight_sub (l : List UInt8) (a b : Nat) (hab : a ≤ b) (hb : b ≤ l.length) : Lib.trimRightS (sub l a b) [9, 10, 13, 32] = sub l a (trimTo l a b) := by
  have h1 := trimTo_le l a b
  have h2 := trimTo_ge l a b hab
  have e : sub l a (trimTo l a b) = (sub l a b).take (trimTo l a b - a) := by
    unfold sub; rw [List.take_take]; congr 1; omega
  have at' : ∀ j x, (sub l a b)[j]? = some x → l.getD (a + j) 0 = x ∧ j < b - a := by
    intro j x hx
    have hj : j < b - a := by have := (List.getElem?_eq_some_iff.1 hx).1; rw [sub_len l a b hb] at this; exact this
    unfold sub at hx
    rw [List.getElem?_take, if_pos hj, List.getElem?_drop] at hx
    exact ⟨by rw [List.getD_eq_getElem?_getD, hx]; rfl, hj⟩
  rw [e]
  refine Lib.trimRightS_take _ _ _ (by rw [sub_len l a b hb]; omega) (fun j x hj hx => ?_) (fun x h0 hx => ?_)
  · obtain ⟨g, hl⟩ := at' j x hx
    rw [ws_white, ← g]
    exact trimTo_white l a b (a + j) (by omega) (by omega)
  · obtain ⟨g, hl⟩ := at' _ x hx
    rw [ws_white, ← g]
    have := trimTo_last l a b hab (by omega)
    rwa [show a + (trimTo l a b - a - 1) = trimTo l a b - 1 from by omega]

theorem bcell {W w1 : World} (hb : Below W.heap.size W w1) : (∀ b o, b < W.heap.size → w1.cell? ⟨b, o, none⟩ = W.cell? ⟨b, o, none⟩) ∧ (∀ b o, b < W.heap.size → w1.frozen? ⟨b, o, none⟩ = W.frozen? ⟨b, o, none⟩) :=
  ⟨fun b o h => hb.cell (p := ⟨b, o, none⟩) h, fun b o h => hb.frozen (p := ⟨b, o, none⟩) h⟩

/-- a line as the cells of a struct -/
def lineV (f t x : Nat) (wd : Int) : Array Value := #[.int .i64 (f : Int), .int .i64 (t : Int), .int .i64 (x : Int), .int .i64 wd]
set_option maxHeartbeats 400000 in
theorem part_any (s : ByteArray) (a b : Nat) (n : Int) (w : World) (hs : s.size ≤ 2097152) (hab : a ≤ b) (hb : b ≤ s.size) :
    Calls Tryd.prog 38 #[.string s, .int .i64 (a : Int), .int .i64 (b : Int), .int .i64 n] w fun e w' =>
      e = .returned (.agg (lineV a (trimTo s.data.toList a b) b (width (sub s.data.toList a (trimTo s.data.toList a b)) n))) ∧ Below w.heap.size w w' := by
  obtain ⟨t, ht⟩ : ∃ t : ByteArray, t = ⟨(Lib.trimRightS (s.extract a b).data.toList [9, 10, 13, 32]).toArray⟩ := ⟨_, rfl⟩
  have hl := size_len s
  have h1 := trimTo_le s.data.toList a b
  have h2 := trimTo_ge s.data.toList a b hab
  have htl : t.data.toList = sub s.data.toList a (trimTo s.data.toList a b) := by rw [ht, extract_sub, trimRight_sub _ _ _ hab (by omega)]
  have htz : t.size = trimTo s.data.toList a b - a := by rw [← size_len, htl, sub_len _ _ _ (by omega)]
  have cT : ∀ wx, Calls Tryd.prog 42 #[.string (s.extract a b), .string ⟨#[9, 10, 13, 32]⟩] wx fun e w' => e = .returned (.string t) ∧ Below wx.heap.size wx w' := fun wx => by
    rw [ht]
    exact Tryd.strings_TrimRight_set (s.extract a b) ⟨#[9, 10, 13, 32]⟩ wx (by simp only [ByteArray.size_extract]; omega) (by decide) (ascii_of_all (by decide))
  have HT := Lib.hid htl
  have htz' : a + t.size ≤ trimTo s.data.toList a b ∧ trimTo s.data.toList a b ≤ a + t.size := by omega
  rw [← htl]
  obtain ⟨T, hT⟩ : ∃ T, trimTo s.data.toList a b = T := ⟨_, rfl⟩
  rw [hT] at h1 h2 htz' ⊢
  clear ht htl htz hT HT
  go_enter Tryd.func38, Tryd.ntmps38
  go_wp2_with (first
    | (go_at_call 42; refine (cT _).mono ?_; rintro e w1 ⟨rfl, hb1⟩; obtain ⟨kc1, kf1⟩ := bcell hb1; have hz1 : w.heap.size < w1.heap.size := (by have := hb1.size; simp at this; omega))
    | (go_at_call 22; refine (width_any _ _ _ (by omega)).mono ?_; rintro e w2 ⟨rfl, hb2⟩; obtain ⟨kc2, kf2⟩ := bcell hb2))
  have eT : (a : Int) + t.size = (T : Nat) := by omega
  refine bodyPost_ret (v := .agg #[.int .i64 (a : Int), .int .i64 ((a : Int) + t.size), .int .i64 (b : Int), .int .i64 (width t.data.toList n)]) (by simp [results, Tryd.results38, go_sem, kc1, kc2, hz1]) rfl ⟨?_, ?_⟩
  · rw [eT]; rfl
  · exact ((((((((Below.refl _ w).alloc (Nat.le_refl _) _).trans (hb1.mono (by simp))).trans (hb2.mono (by omega))).setCell (Nat.le_refl _) _).setCell (Nat.le_refl _) _).setCell (Nat.le_refl _) _).setCell (Nat.le_refl _) _)
end Go.Proofs.YtcpklmolofbopaaDoor
