/- Cookies: the walk of cookie.Parse: a field that sets nothing. -/
import Derived.Test.YtgjooigolgdocaaGreatDoorCG
namespace Go.Proofs.YtgjooigolgdocaaGreatDoor
set_option linter.unusedVariables false
set_option linter.unusedSimpArgs false
open Go.RowKit

theorem split_at (c : UInt8) (s : ByteArray) (hs : s.size ≤ 1000000) : ∃ (q0 : ByteArray) (qs : List ByteArray), lists (q0 :: qs) = segs c s.data.toList ∧ ∀ w, MaxAt w → Calls Tryz.prog 35 #[.string s, .string ⟨#[c]⟩] w fun e w' => e = .returned (.slice (some ⟨w.heap.size, 0, none⟩) (q0 :: qs).length (q0 :: qs).length) ∧ Below w.heap.size w w' ∧ w.heap.size < w'.heap.size ∧ w'.cell? ⟨w.heap.size, 0, none⟩ = some (.string q0) ∧ ∀ j (h : j < qs.length), w'.cell? ⟨w.heap.size, 1 + j, none⟩ = some (.string qs[j]) := by
  obtain ⟨l, hl, hc⟩ := split_is c s hs
  cases l with
  | nil => exact absurd hl.symm (segs_ne c _)
  | cons q0 qs =>
    refine ⟨q0, qs, hl, fun w hM => (hc w hM).mono ?_⟩
    rintro e w' ⟨rfl, rfl⟩
    have hA := AtL.new w ((q0 :: qs).map Value.string) 9
    refine ⟨rfl, (Below.refl _ w).alloc (Nat.le_refl _) _, by simp, hA.c 0 rfl, fun j hj => ?_⟩
    have := hA.c (1 + j) (v := .string qs[j]) (by rw [Nat.add_comm, List.map_cons, List.getElem?_cons_succ, List.getElem?_map, List.getElem?_eq_getElem hj]; rfl)
    exact this
theorem segs_sizes {c : UInt8} {s : ByteArray} {l : List ByteArray} (h : lists l = segs c s.data.toList) : l.length ≤ s.size + 1 ∧ ∀ p ∈ l, p.size ≤ s.size := by
  constructor
  · have h1 := segs_count c s.data.toList
    rw [← h, size_len] at h1
    simpa [lists] using h1
  · intro p hp
    have := segs_len c s.data.toList p.data.toList (by rw [← h]; exact List.mem_map_of_mem hp)
    rwa [size_len, size_len] at this
set_option maxRecDepth 20000 in
set_option maxHeartbeats 2000000 in
theorem cparse_syn (s a b c d e f : ByteArray) (now : Int) (w : World) (hs : s.size ≤ 100000) (hz : USize 40000 a b c d e f) (hM : MaxAt w) (hT : takesB (u6 a b c d e f) = true)
    (q0 : ByteArray) (qs : List ByteArray) (hq : lists (q0 :: qs) = segs 59 s.data.toList)
    (CSp : Hid (∀ w, MaxAt w → Calls Tryz.prog 35 #[.string s, .string ⟨#[59]⟩] w fun e w' => e = .returned (.slice (some ⟨w.heap.size, 0, none⟩) (q0 :: qs).length (q0 :: qs).length) ∧ Below w.heap.size w w' ∧ w.heap.size < w'.heap.size ∧ w'.cell? ⟨w.heap.size, 0, none⟩ = some (.string q0) ∧ ∀ j (h : j < qs.length), w'.cell? ⟨w.heap.size, 1 + j, none⟩ = some (.string qs[j])))
    (hbad : q0.data.toList.contains 61 = false ∨ trimC (pre 61 q0.data.toList) = [] ∨ ctlL s.data.toList = true) :
    Calls Tryz.prog 12 #[.string s, urlA a b c d e f, .int .i64 now] w fun x w' => x = .returned (resC (ck0, 4)) ∧ Below w.heap.size w w' := by
  have CT := Lib.hid (fun w hM => takes_is a b c d e f true hT w hz hM)
  have hq0 := (segs_sizes hq).2 q0 (by simp)
  obtain ⟨N, hN⟩ : ∃ N : ByteArray, N.data.toList = trimC (pre 61 q0.data.toList) := ⟨bs _, rfl⟩
  obtain ⟨V, hV⟩ : ∃ V : ByteArray, V.data.toList = trimC (post 61 q0.data.toList) := ⟨bs _, rfl⟩
  obtain ⟨F, hF⟩ : ∃ F, q0.data.toList.contains 61 = F := ⟨_, rfl⟩
  obtain ⟨K, hK⟩ : ∃ K, ctlL s.data.toList = K := ⟨_, rfl⟩
  have CP := Lib.hid (fun w hM => pair_is q0 N V F w (by omega) hM hN hV hF)
  have CK := Lib.hid (fun w => control_is s K hK w)
  have hNE : N.toList.isEmpty = decide (trimC (pre 61 q0.data.toList) = []) := by
    rw [ByteArray.toList_eq, hN]
    cases trimC (pre 61 q0.data.toList) with
    | nil => rfl
    | cons b r => simp
  obtain ⟨X, hX⟩ : ∃ X, decide (trimC (pre 61 q0.data.toList) = []) = X := ⟨_, rfl⟩
  rw [hX] at hNE
  have hbad2 : F = false ∨ X = true ∨ K = true := by
    rcases hbad with h | h | h
    · exact .inl (hF.symm.trans h)
    · exact .inr (.inl (by rw [← hX]; exact decide_eq_true h))
    · exact .inr (.inr (hK.symm.trans h))
  have A0 := AtL.new w (urlL a b c d e f) 23
  have A1 := A0.alloc (.cells #[.string ⟨#[]⟩, .string ⟨#[]⟩, .string ⟨#[]⟩, .string ⟨#[]⟩, .bool false, .bool false, .bool false, .int .i64 0, .int .i64 0] 29)
  have R1 := AtL.new (w.alloc (.cells #[.string a, .string b, .string c, .string d, .string e, .string f] 23)) ck0V 29
  have hB1 : Below w.heap.size w ((w.alloc (.cells #[.string a, .string b, .string c, .string d, .string e, .string f] 23)).alloc (.cells #[.string ⟨#[]⟩, .string ⟨#[]⟩, .string ⟨#[]⟩, .string ⟨#[]⟩, .bool false, .bool false, .bool false, .int .i64 0, .int .i64 0] 29)) := ((Below.refl _ w).alloc (Nat.le_refl _) _).alloc (by simp) _
  have hM1 := hM.below hB1 (Nat.le_refl _)
  have hk1 : w.heap.size < ((w.alloc (.cells #[.string a, .string b, .string c, .string d, .string e, .string f] 23)).alloc (.cells #[.string ⟨#[]⟩, .string ⟨#[]⟩, .string ⟨#[]⟩, .string ⟨#[]⟩, .bool false, .bool false, .bool false, .int .i64 0, .int .i64 0] 29)).heap.size := (by simp; omega)
  rw [show (w.alloc (.cells #[.string a, .string b, .string c, .string d, .string e, .string f] 23)).heap.size = w.heap.size + 1 by simp] at R1
  clear hT hz hM hbad hN hV hF hK hX hq hq0
  cases F
  · clear hbad2
    go_enter Tryz.func12, Tryz.ntmps12
    go_wp2_with (first
      | (go_at_call 34; with_reducible refine (CT.out _ hM1).mono ?_; rintro x w1 ⟨rfl, hb1⟩; have hB2 := hB1.trans (hb1.mono hB1.size); have R2 := R1.next hb1; have hM2 := hM1.below hb1 (Nat.le_refl _))
      | (go_at_call 35; with_reducible refine (CSp.out _ hM2).mono ?_; rintro x w2 ⟨rfl, hb2, hg2, hp0, -⟩; have hB3 := hB2.trans (hb2.mono hB2.size); have R3 := R2.next hb2; have hM3 := hM2.below hb2 (Nat.le_refl _))
      | (go_at_call 36; with_reducible refine (CP.out _ hM3).mono ?_; rintro x w3 ⟨rfl, hb3⟩; have hB4 := hB3.trans (hb3.mono hB3.size); have R4 := R3.next hb3; have z0 := R4.c 0 rfl; have z1 := R4.c 1 rfl; have z2 := R4.c 2 rfl; have z3 := R4.c 3 rfl; have z4 := R4.c 4 rfl; have z5 := R4.c 5 rfl; have z6 := R4.c 6 rfl; have z7 := R4.c 7 rfl; have z8 := R4.c 8 rfl; have f0 := R4.f 0 rfl; have f1 := R4.f 1 rfl; have f2 := R4.f 2 rfl; have f3 := R4.f 3 rfl; have f4 := R4.f 4 rfl; have f5 := R4.f 5 rfl; have f6 := R4.f 6 rfl; have f7 := R4.f 7 rfl; have f8 := R4.f 8 rfl; have hk4 := R4.lt))
    exact bodyPost_ret (ret9_run Tryz.results12 Tryz.sizeOf29 Tryz.isAgg29 _ _ _ _ _ _ _ _ _ _ _ _ _ rfl rfl (R4.set9 rfl _ _ _ _ _ _ _ _ _)) rfl ⟨rfl, below_set9 hB4 (Nat.le_succ _) _ _ _ _ _ _ _ _ _⟩
  · cases X
    · obtain rfl : K = true := by simpa using hbad2
      clear hbad2
      go_enter Tryz.func12, Tryz.ntmps12
      go_wp2_with (first
        | (go_at_call 34; with_reducible refine (CT.out _ hM1).mono ?_; rintro x w1 ⟨rfl, hb1⟩; have hB2 := hB1.trans (hb1.mono hB1.size); have R2 := R1.next hb1; have hM2 := hM1.below hb1 (Nat.le_refl _))
        | (go_at_call 35; with_reducible refine (CSp.out _ hM2).mono ?_; rintro x w2 ⟨rfl, hb2, hg2, hp0, -⟩; have hB3 := hB2.trans (hb2.mono hB2.size); have R3 := R2.next hb2; have hM3 := hM2.below hb2 (Nat.le_refl _))
        | (go_at_call 36; with_reducible refine (CP.out _ hM3).mono ?_; rintro x w3 ⟨rfl, hb3⟩; have hB4 := hB3.trans (hb3.mono hB3.size); have R4 := R3.next hb3)
        | (go_at_call 37; with_reducible refine (CK.out _).mono ?_; rintro x w4 ⟨rfl, hb4⟩; have hB5 := hB4.trans (hb4.mono hB4.size); have R5 := R4.next hb4; have z0 := R5.c 0 rfl; have z1 := R5.c 1 rfl; have z2 := R5.c 2 rfl; have z3 := R5.c 3 rfl; have z4 := R5.c 4 rfl; have z5 := R5.c 5 rfl; have z6 := R5.c 6 rfl; have z7 := R5.c 7 rfl; have z8 := R5.c 8 rfl; have f0 := R5.f 0 rfl; have f1 := R5.f 1 rfl; have f2 := R5.f 2 rfl; have f3 := R5.f 3 rfl; have f4 := R5.f 4 rfl; have f5 := R5.f 5 rfl; have f6 := R5.f 6 rfl; have f7 := R5.f 7 rfl; have f8 := R5.f 8 rfl; have hk5 := R5.lt))
      exact bodyPost_ret (ret9_run Tryz.results12 Tryz.sizeOf29 Tryz.isAgg29 _ _ _ _ _ _ _ _ _ _ _ _ _ rfl rfl (R5.set9 rfl _ _ _ _ _ _ _ _ _)) rfl ⟨rfl, below_set9 hB5 (Nat.le_succ _) _ _ _ _ _ _ _ _ _⟩
    · clear hbad2
      go_enter Tryz.func12, Tryz.ntmps12
      go_wp2_with (first
        | (go_at_call 34; with_reducible refine (CT.out _ hM1).mono ?_; rintro x w1 ⟨rfl, hb1⟩; have hB2 := hB1.trans (hb1.mono hB1.size); have R2 := R1.next hb1; have hM2 := hM1.below hb1 (Nat.le_refl _))
        | (go_at_call 35; with_reducible refine (CSp.out _ hM2).mono ?_; rintro x w2 ⟨rfl, hb2, hg2, hp0, -⟩; have hB3 := hB2.trans (hb2.mono hB2.size); have R3 := R2.next hb2; have hM3 := hM2.below hb2 (Nat.le_refl _))
        | (go_at_call 36; with_reducible refine (CP.out _ hM3).mono ?_; rintro x w3 ⟨rfl, hb3⟩; have hB4 := hB3.trans (hb3.mono hB3.size); have R4 := R3.next hb3; have z0 := R4.c 0 rfl; have z1 := R4.c 1 rfl; have z2 := R4.c 2 rfl; have z3 := R4.c 3 rfl; have z4 := R4.c 4 rfl; have z5 := R4.c 5 rfl; have z6 := R4.c 6 rfl; have z7 := R4.c 7 rfl; have z8 := R4.c 8 rfl; have f0 := R4.f 0 rfl; have f1 := R4.f 1 rfl; have f2 := R4.f 2 rfl; have f3 := R4.f 3 rfl; have f4 := R4.f 4 rfl; have f5 := R4.f 5 rfl; have f6 := R4.f 6 rfl; have f7 := R4.f 7 rfl; have f8 := R4.f 8 rfl; have hk4 := R4.lt))
      exact bodyPost_ret (ret9_run Tryz.results12 Tryz.sizeOf29 Tryz.isAgg29 _ _ _ _ _ _ _ _ _ _ _ _ _ rfl rfl (R4.set9 rfl _ _ _ _ _ _ _ _ _)) rfl ⟨rfl, below_set9 hB4 (Nat.le_succ _) _ _ _ _ _ _ _ _ _⟩
end Go.Proofs.YtgjooigolgdocaaGreatDoor
