/- CookieHosts: the law. -/
import Derived.Test.YtgjooigolgdocaaGreatDoorG2
import Derived.Test.YtgjooigolgdocaaGreatDoorDD
import Derived.Test.YtgjooigolgdocaaGreatDoorDC
namespace Go.Proofs.YtgjooigolgdocaaGreatDoor
set_option linter.unusedVariables false
set_option linter.unusedSimpArgs false
open Go.RowKit

/-- Set on an empty jar, where the cookie has expired -/
theorem set_gone (s a b cc d e f : ByteArray) (now : Int) (hT : takesB (u6 a b cc d e f) = true) (c : Ck) (hR : parseC s.data.toList true a b d now = (c, 0)) (hex : exB c now = true) (w : World) (hs : s.size ≤ 100000) (hz : USize 40000 a b cc d e f) (hM : MaxAt w) (jb : Nat)
    (hJ : AtL w jb [.slice none 0 0, .int .i64 0]) :
    Calls Tryz.prog 20 #[.pointer (some ⟨jb, 0, none⟩), .string s, urlA a b cc d e f, .int .i64 now] w fun x w' => x = .returned (.int .i64 0) ∧ JarIn w' jb w.heap.size (.slice none 0 0) [] 0 ∧ BelowBut w.heap.size jb w w' := by
  refine set_ok s a b cc d e f now true hT c hR w hs hz hM jb 0 (fun w' => JarIn w' jb w.heap.size (.slice none 0 0) [] 0 ∧ BelowBut w.heap.size jb w w') fun w1 hb1 => ?_
  have hJ1 : JarIn w1 jb w.heap.size (.slice none 0 0) [] 0 := ⟨hJ.below hb1 hJ.1, World.ownsRow_nil _ _ _ _, by simp [Value.ownBlock], hb1.size⟩
  refine (store_gone c a b cc d e f now w1 jb w.heap.size _ [] 0 hJ1 rfl hex (by decide)).mono ?_
  rintro x w2 ⟨rfl, h1, h2⟩
  exact ⟨rfl, h1, but_trans ((BelowBut.refl _ jb w).below hb1 (Nat.le_refl _)) h2⟩
theorem set_err' (s a b cc d e f : ByteArray) (now : Int) (T : Bool) (hT : takesB (u6 a b cc d e f) = T) (c : Ck) (er : Int) (hR : parseC s.data.toList T a b d now = (c, er)) (hne : er ≠ 0) (w : World) (hs : s.size ≤ 100000) (hz : USize 40000 a b cc d e f) (hM : MaxAt w) (jb : Nat)
    (hJ : AtL w jb [.slice none 0 0, .int .i64 0]) :
    Calls Tryz.prog 20 #[.pointer (some ⟨jb, 0, none⟩), .string s, urlA a b cc d e f, .int .i64 now] w fun x w' => x = .returned (.int .i64 er) ∧ JarIn w' jb w.heap.size (.slice none 0 0) [] 0 ∧ BelowBut w.heap.size jb w w' := by
  refine (set_err s a b cc d e f now T hT c er hR hne w hs hz hM jb).mono ?_
  rintro x w2 ⟨rfl, h2⟩
  exact ⟨rfl, ⟨hJ.below h2 hJ.1, World.ownsRow_nil _ _ _ _, by simp [Value.ownBlock], h2.size⟩, (BelowBut.refl _ jb w).below h2 (Nat.le_refl _)⟩
theorem set_first9 (s a b cc d e f : ByteArray) (now : Int) (hT : takesB (u6 a b cc d e f) = true) (n v dd p : ByteArray) (ho se hi : Bool) (ex cr : Int) (hR : parseC s.data.toList true a b d now = (⟨n, v, dd, p, ho, se, hi, ex, cr⟩, 0)) (hex : exB ⟨n, v, dd, p, ho, se, hi, ex, cr⟩ now = false) (w : World) (hs : s.size ≤ 100000) (hz : USize 40000 a b cc d e f) (hM : MaxAt w) (jb : Nat)
    (hJ : AtL w jb [.slice none 0 0, .int .i64 0]) :
    Calls Tryz.prog 20 #[.pointer (some ⟨jb, 0, none⟩), .string s, urlA a b cc d e f, .int .i64 now] w fun x w' => x = .returned (.int .i64 0) ∧ (∃ v', JarIn w' jb w.heap.size v' [⟨n, v, dd, p, ho, se, hi, ex, 0⟩] 1) ∧ BelowBut w.heap.size jb w w' := set_first s a b cc d e f now hT _ hR hex w hs hz hM jb hJ
/-- Header of a jar with one cookie -/
theorem header_one (a b cc d e f : ByteArray) (now : Int) (hz : USize 40000 a b cc d e f) (c : Ck) (hsz : (c.d.size ≤ 100000 ∧ c.p.size ≤ 100000) ∧ c.n.size ≤ 100000 ∧ c.v.size ≤ 100000) :
    ∃ R : ByteArray, (R.size ≠ 0 → hitB a b d now c = true) ∧ ∀ (w : World) (jb B : Nat) (v : Value) (nx : Int), MaxAt w → JarIn w jb B v [c] nx →
      Calls Tryz.prog 21 #[.pointer (some ⟨jb, 0, none⟩), urlA a b cc d e f, .int .i64 now] w fun x w' => x = .returned (.string R) ∧ Below w.heap.size w w' := by
  cases hT : takesB (u6 a b cc d e f) with
  | false => exact ⟨⟨#[]⟩, fun h => absurd rfl h, fun w jb B v nx hM hJ => header_no a b cc d e f now hT jb w hz hM⟩
  | true =>
    obtain ⟨R, hR⟩ : ∃ R : ByteArray, R.data.toList = joinL ([c].filter (hitB a b d now)) := ⟨bs _, rfl⟩
    refine ⟨R, fun h => ?_, fun w jb B v nx hM hJ => header_few a b cc d e f now hT [c] v _ jb w hz hM hJ.reads hJ.at_ (Nat.le_refl _) (fun x hx => by rw [List.mem_singleton.1 hx]; exact hsz) R hR⟩
    cases hh : hitB a b d now c with
    | true => rfl
    | false =>
      refine absurd ?_ h
      rw [← size_len, hR]
      simp [hh, joinL, Lib.join]
set_option maxRecDepth 20000 in
set_option maxHeartbeats 1000000 in
theorem cookiehosts_law (s a b cc d e f : ByteArray) (now : Int) (a' b' cc' d' e' f' : ByteArray) (now' : Int) (w : World) (hM : MaxAt w) :
    Calls Tryz.prog 5 #[.string s, askA a b cc d e f now, askA a' b' cc' d' e' f' now'] w fun x w' => x = .returned (.bool true) ∧ Below w.heap.size w w' := by
  have A0 := (AtL.new w (askL a b cc d e f now) 25).alloc (.cells (askL a' b' cc' d' e' f' now').toArray 25)
  have B0 := AtL.new (w.alloc (.cells (askL a b cc d e f now).toArray 25)) (askL a' b' cc' d' e' f' now') 25
  have hB0 : Below w.heap.size w ((w.alloc (.cells (askL a b cc d e f now).toArray 25)).alloc (.cells (askL a' b' cc' d' e' f' now').toArray 25)) := ((Below.refl _ w).alloc (Nat.le_refl _) _).alloc (by simp) _
  rw [show (w.alloc (.cells (askL a b cc d e f now).toArray 25)).heap.size = w.heap.size + 1 by simp] at B0
  have hM0 := hM.below hB0 (Nat.le_refl _)
  have hGM := hM.lt
  have CF := Lib.hid (fit_any _ hM0)
  have cSa := fun w => asmall_any a b cc d e f now w
  have cSb := fun w => asmall_any a' b' cc' d' e' f' now' w
  clear hM
  by_cases hs : s.size ≤ 400
  · have hsi : ¬ (s.size : Int) > 400 := by omega
    cases hSa : shortB a b cc d e f with
    | false =>
      rw [hSa] at cSa
      have CSa := Lib.hid cSa
      clear cSa cSb hSa
      go_enter Tryz.func5, Tryz.ntmps5
      go_wp2_with (first
        |
        (go_at_call 10; with_reducible refine CF.out.mono ?_; rintro x w1 ⟨rfl, hb1⟩; have A1 := A0.next hb1; have B1 := B0.next hb1; have hB1 := hB0.trans (hb1.mono hB0.size); have hM1 := hM0.below hb1 (Nat.le_refl _); have z0 := A1.c 0 rfl; have z1 := A1.c 1 rfl; have z2 := A1.c 2 rfl; have z3 := A1.c 3 rfl; have z4 := A1.c 4 rfl; have z5 := A1.c 5 rfl; have z6 := A1.c 6 rfl; have y0 := B1.c 0 rfl; have y1 := B1.c 1 rfl; have y2 := B1.c 2 rfl; have y3 := B1.c 3 rfl; have y4 := B1.c 4 rfl; have y5 := B1.c 5 rfl; have y6 := B1.c 6 rfl; have hl1 := A1.lt; have hk1 := B1.lt)
        | (go_at_call 11; with_reducible refine (CSa.out _).mono ?_; rintro x w2 ⟨rfl, hb2⟩; have A2 := A1.next hb2; have B2 := B1.next hb2; have hB2 := hB1.trans (hb2.mono hB1.size); have hM2 := hM1.below hb2 (Nat.le_refl _); have z0 := A2.c 0 rfl; have z1 := A2.c 1 rfl; have z2 := A2.c 2 rfl; have z3 := A2.c 3 rfl; have z4 := A2.c 4 rfl; have z5 := A2.c 5 rfl; have z6 := A2.c 6 rfl; have y0 := B2.c 0 rfl; have y1 := B2.c 1 rfl; have y2 := B2.c 2 rfl; have y3 := B2.c 3 rfl; have y4 := B2.c 4 rfl; have y5 := B2.c 5 rfl; have y6 := B2.c 6 rfl; have hl2 := A2.lt; have hk2 := B2.lt)
        )
      go_ret
      exact ⟨rfl, hB2⟩
    | true =>
      rw [hSa] at cSa
      have CSa := Lib.hid cSa
      clear cSa
      cases hSb : shortB a' b' cc' d' e' f' with
      | false =>
        rw [hSb] at cSb
        have CSb := Lib.hid cSb
        clear cSb hSb
        go_enter Tryz.func5, Tryz.ntmps5
        go_wp2_with (first
          |
          (go_at_call 10; with_reducible refine CF.out.mono ?_; rintro x w1 ⟨rfl, hb1⟩; have A1 := A0.next hb1; have B1 := B0.next hb1; have hB1 := hB0.trans (hb1.mono hB0.size); have hM1 := hM0.below hb1 (Nat.le_refl _); have z0 := A1.c 0 rfl; have z1 := A1.c 1 rfl; have z2 := A1.c 2 rfl; have z3 := A1.c 3 rfl; have z4 := A1.c 4 rfl; have z5 := A1.c 5 rfl; have z6 := A1.c 6 rfl; have y0 := B1.c 0 rfl; have y1 := B1.c 1 rfl; have y2 := B1.c 2 rfl; have y3 := B1.c 3 rfl; have y4 := B1.c 4 rfl; have y5 := B1.c 5 rfl; have y6 := B1.c 6 rfl; have hl1 := A1.lt; have hk1 := B1.lt)
          | (go_at_call 11; with_reducible refine (CSa.out _).mono ?_; rintro x w2 ⟨rfl, hb2⟩; have A2 := A1.next hb2; have B2 := B1.next hb2; have hB2 := hB1.trans (hb2.mono hB1.size); have hM2 := hM1.below hb2 (Nat.le_refl _); have z0 := A2.c 0 rfl; have z1 := A2.c 1 rfl; have z2 := A2.c 2 rfl; have z3 := A2.c 3 rfl; have z4 := A2.c 4 rfl; have z5 := A2.c 5 rfl; have z6 := A2.c 6 rfl; have y0 := B2.c 0 rfl; have y1 := B2.c 1 rfl; have y2 := B2.c 2 rfl; have y3 := B2.c 3 rfl; have y4 := B2.c 4 rfl; have y5 := B2.c 5 rfl; have y6 := B2.c 6 rfl; have hl2 := A2.lt; have hk2 := B2.lt)
          | (go_at_call 11; with_reducible refine (CSb.out _).mono ?_; rintro x w3 ⟨rfl, hb3⟩)
          )
        go_ret
        exact ⟨rfl, hB2.trans (hb3.mono hB2.size)⟩
      | true =>
        rw [hSb] at cSb
        have CSb := Lib.hid cSb
        have hz := short_size hSa
        have hz' := short_size hSb
        obtain ⟨_, q2, _, q4, _, _⟩ := shortB_iff hSa
        obtain ⟨_, r2, _, r4, _, _⟩ := shortB_iff hSb
        clear cSb hSa hSb
        obtain ⟨T, hT⟩ : ∃ T, takesB (u6 a b cc d e f) = T := ⟨_, rfl⟩
        obtain ⟨⟨c, er⟩, hR⟩ : ∃ R, parseC s.data.toList T a b d now = R := ⟨_, rfl⟩
        by_cases he : er = 0
        · subst he
          obtain ⟨rfl, hdm, hgd⟩ := parse_good _ _ _ _ _ _ _ hR
          cases hex : exB c now with
          | true =>
            have CSet := Lib.hid (fun w hM jb hJ => set_gone s a b cc d e f now hT c hR hex w (by omega) hz hM jb hJ)
            clear hT hR hex hdm hgd hz hz'
            go_enter Tryz.func5, Tryz.ntmps5
            go_wp2_with (first
              |
              (go_at_call 10; with_reducible refine CF.out.mono ?_; rintro x w1 ⟨rfl, hb1⟩; have A1 := A0.next hb1; have B1 := B0.next hb1; have hB1 := hB0.trans (hb1.mono hB0.size); have hM1 := hM0.below hb1 (Nat.le_refl _); have z0 := A1.c 0 rfl; have z1 := A1.c 1 rfl; have z2 := A1.c 2 rfl; have z3 := A1.c 3 rfl; have z4 := A1.c 4 rfl; have z5 := A1.c 5 rfl; have z6 := A1.c 6 rfl; have y0 := B1.c 0 rfl; have y1 := B1.c 1 rfl; have y2 := B1.c 2 rfl; have y3 := B1.c 3 rfl; have y4 := B1.c 4 rfl; have y5 := B1.c 5 rfl; have y6 := B1.c 6 rfl; have hl1 := A1.lt; have hk1 := B1.lt)
              | (go_at_call 11; with_reducible refine (CSa.out _).mono ?_; rintro x w2 ⟨rfl, hb2⟩; have A2 := A1.next hb2; have B2 := B1.next hb2; have hB2 := hB1.trans (hb2.mono hB1.size); have hM2 := hM1.below hb2 (Nat.le_refl _); have z0 := A2.c 0 rfl; have z1 := A2.c 1 rfl; have z2 := A2.c 2 rfl; have z3 := A2.c 3 rfl; have z4 := A2.c 4 rfl; have z5 := A2.c 5 rfl; have z6 := A2.c 6 rfl; have y0 := B2.c 0 rfl; have y1 := B2.c 1 rfl; have y2 := B2.c 2 rfl; have y3 := B2.c 3 rfl; have y4 := B2.c 4 rfl; have y5 := B2.c 5 rfl; have y6 := B2.c 6 rfl; have hl2 := A2.lt; have hk2 := B2.lt)
              | (go_at_call 11; with_reducible refine (CSb.out _).mono ?_; rintro x w3 ⟨rfl, hb3⟩; have A2' := A2.next hb3; have B2' := B2.next hb3; have A3 := A2'.alloc (.cells [.slice none 0 0, .int .i64 0].toArray 38); have B3 := B2'.alloc (.cells [.slice none 0 0, .int .i64 0].toArray 38); have J3 := AtL.new w3 [.slice none 0 0, .int .i64 0] 38; have hB3 := hB2.trans (hb3.mono hB2.size); have hC3 := hB3.alloc hB3.size (.cells [.slice none 0 0, .int .i64 0].toArray 38); have hM2' := hM2.below hb3 (Nat.le_refl _); have hM3 := hM2'.below ((Below.refl _ w3).alloc (Nat.le_refl _) (.cells [.slice none 0 0, .int .i64 0].toArray 38)) (Nat.le_refl _); have z0 := A3.c 0 rfl; have z1 := A3.c 1 rfl; have z2 := A3.c 2 rfl; have z3 := A3.c 3 rfl; have z4 := A3.c 4 rfl; have z5 := A3.c 5 rfl; have z6 := A3.c 6 rfl; have y0 := B3.c 0 rfl; have y1 := B3.c 1 rfl; have y2 := B3.c 2 rfl; have y3 := B3.c 3 rfl; have y4 := B3.c 4 rfl; have y5 := B3.c 5 rfl; have y6 := B3.c 6 rfl; have hl3 := A3.lt; have hk3 := B3.lt; have j3 := J3.c 0 rfl)
              | (go_at_call 20; with_reducible refine (CSet.out _ hM3 _ J3).mono ?_; rintro x w5 ⟨rfl, hJ5, hbb⟩; have j5 := hJ5.at_.c 0 rfl; have hk5 := hJ5.at_.lt)
              )
            go_ret
            exact ⟨rfl, hbb.to_below hC3 hC3.size hB3.size⟩
          | false =>
            obtain ⟨n, v, dd, p, ho, se, hi, ex, cr⟩ := c
            have hho : ho = true → dd = b := hgd.hho
            have s1 : dd.size ≤ 1000 := by have h : dd.size ≤ _ := hgd.hd; rw [size_len] at h; omega
            have s2 : p.size ≤ 1000 := by
              have h : p.size ≤ _ := hgd.hp
              rw [size_len, bs_size] at h
              have h' := defpL_len' d.data.toList
              rw [size_len] at h'
              omega
            have s3 : n.size ≤ 1000 := by have h : n.size ≤ _ := hgd.hn; rw [size_len] at h; omega
            have s4 : v.size ≤ 1000 := by have h : v.size ≤ _ := hgd.hv; rw [size_len] at h; omega
            have hdm : domL b.data.toList dd.data.toList = true := hdm
            have CSet := Lib.hid (fun w hM jb hJ => set_first9 s a b cc d e f now hT n v dd p ho se hi ex cr hR hex w (by omega) hz hM jb hJ)
            obtain ⟨R, hRh, hRc⟩ := header_one a' b' cc' d' e' f' now' hz' ⟨n, v, dd, p, ho, se, hi, ex, 0⟩ ⟨⟨by show dd.size ≤ _; omega, by show p.size ≤ _; omega⟩, by show n.size ≤ _; omega, by show v.size ≤ _; omega⟩
            have CH := Lib.hid hRc
            have cD := fun w => dom_any b dd w (by omega) (by omega)
            rw [hdm] at cD
            have CD := Lib.hid cD
            clear hT hR hex hdm hgd hz hz' hRc cD
            by_cases hR0 : R.size = 0
            · have hE := empty_of R hR0
              clear hRh hho
              go_enter Tryz.func5, Tryz.ntmps5
              go_wp2_with (first
                |
                (go_at_call 10; with_reducible refine CF.out.mono ?_; rintro x w1 ⟨rfl, hb1⟩; have A1 := A0.next hb1; have B1 := B0.next hb1; have hB1 := hB0.trans (hb1.mono hB0.size); have hM1 := hM0.below hb1 (Nat.le_refl _); have z0 := A1.c 0 rfl; have z1 := A1.c 1 rfl; have z2 := A1.c 2 rfl; have z3 := A1.c 3 rfl; have z4 := A1.c 4 rfl; have z5 := A1.c 5 rfl; have z6 := A1.c 6 rfl; have y0 := B1.c 0 rfl; have y1 := B1.c 1 rfl; have y2 := B1.c 2 rfl; have y3 := B1.c 3 rfl; have y4 := B1.c 4 rfl; have y5 := B1.c 5 rfl; have y6 := B1.c 6 rfl; have hl1 := A1.lt; have hk1 := B1.lt)
                | (go_at_call 11; with_reducible refine (CSa.out _).mono ?_; rintro x w2 ⟨rfl, hb2⟩; have A2 := A1.next hb2; have B2 := B1.next hb2; have hB2 := hB1.trans (hb2.mono hB1.size); have hM2 := hM1.below hb2 (Nat.le_refl _); have z0 := A2.c 0 rfl; have z1 := A2.c 1 rfl; have z2 := A2.c 2 rfl; have z3 := A2.c 3 rfl; have z4 := A2.c 4 rfl; have z5 := A2.c 5 rfl; have z6 := A2.c 6 rfl; have y0 := B2.c 0 rfl; have y1 := B2.c 1 rfl; have y2 := B2.c 2 rfl; have y3 := B2.c 3 rfl; have y4 := B2.c 4 rfl; have y5 := B2.c 5 rfl; have y6 := B2.c 6 rfl; have hl2 := A2.lt; have hk2 := B2.lt)
                | (go_at_call 11; with_reducible refine (CSb.out _).mono ?_; rintro x w3 ⟨rfl, hb3⟩; have A2' := A2.next hb3; have B2' := B2.next hb3; have A3 := A2'.alloc (.cells [.slice none 0 0, .int .i64 0].toArray 38); have B3 := B2'.alloc (.cells [.slice none 0 0, .int .i64 0].toArray 38); have J3 := AtL.new w3 [.slice none 0 0, .int .i64 0] 38; have hB3 := hB2.trans (hb3.mono hB2.size); have hC3 := hB3.alloc hB3.size (.cells [.slice none 0 0, .int .i64 0].toArray 38); have hM2' := hM2.below hb3 (Nat.le_refl _); have hM3 := hM2'.below ((Below.refl _ w3).alloc (Nat.le_refl _) (.cells [.slice none 0 0, .int .i64 0].toArray 38)) (Nat.le_refl _); have z0 := A3.c 0 rfl; have z1 := A3.c 1 rfl; have z2 := A3.c 2 rfl; have z3 := A3.c 3 rfl; have z4 := A3.c 4 rfl; have z5 := A3.c 5 rfl; have z6 := A3.c 6 rfl; have y0 := B3.c 0 rfl; have y1 := B3.c 1 rfl; have y2 := B3.c 2 rfl; have y3 := B3.c 3 rfl; have y4 := B3.c 4 rfl; have y5 := B3.c 5 rfl; have y6 := B3.c 6 rfl; have hl3 := A3.lt; have hk3 := B3.lt; have j3 := J3.c 0 rfl)
                | (go_at_call 20; with_reducible refine (CSet.out _ hM3 _ J3).mono ?_; rintro x w5 ⟨rfl, ⟨v5, hJ5⟩, hbb⟩; obtain ⟨g, cap, rfl, hgw, hg5⟩ := hJ5.one; have g0 := hg5 0 _ rfl; have g1 := hg5 1 _ rfl; have g2 := hg5 2 _ rfl; have g3 := hg5 3 _ rfl; have g4 := hg5 4 _ rfl; have g5 := hg5 5 _ rfl; have g6 := hg5 6 _ rfl; have g7 := hg5 7 _ rfl; have g8 := hg5 8 _ rfl; have j5 := hJ5.at_.c 0 rfl; have hk5 := hJ5.at_.lt; have hM5 := hM3.but hbb hM3.lt (Nat.ne_of_lt hM2'.lt); have hD5 := hbb.to_below hC3 hC3.size hB3.size; have A6 := (A3.but hbb A3.lt (Nat.ne_of_lt A2'.lt)).alloc (.cells (ckL ⟨n, v, dd, p, ho, se, hi, ex, 0⟩).toArray 29); have B6 := (B3.but hbb B3.lt (Nat.ne_of_lt B2'.lt)).alloc (.cells (ckL ⟨n, v, dd, p, ho, se, hi, ex, 0⟩).toArray 29); have K6 := AtL.new w5 (ckL ⟨n, v, dd, p, ho, se, hi, ex, 0⟩) 29; have hJ6 := hJ5.below ((Below.refl _ w5).alloc (Nat.le_refl _) (.cells (ckL ⟨n, v, dd, p, ho, se, hi, ex, 0⟩).toArray 29)) (Nat.le_refl _); have hM6 := hM5.below ((Below.refl _ w5).alloc (Nat.le_refl _) (.cells (ckL ⟨n, v, dd, p, ho, se, hi, ex, 0⟩).toArray 29)) (Nat.le_refl _); have hD6 := hD5.alloc hD5.size (.cells (ckL ⟨n, v, dd, p, ho, se, hi, ex, 0⟩).toArray 29); have x0 := K6.c 0 rfl; have x1 := K6.c 1 rfl; have x2 := K6.c 2 rfl; have x3 := K6.c 3 rfl; have x4 := K6.c 4 rfl; have x5 := K6.c 5 rfl; have x6 := K6.c 6 rfl; have x7 := K6.c 7 rfl; have x8 := K6.c 8 rfl; have z0 := A6.c 0 rfl; have z1 := A6.c 1 rfl; have z2 := A6.c 2 rfl; have z3 := A6.c 3 rfl; have z4 := A6.c 4 rfl; have z5 := A6.c 5 rfl; have z6 := A6.c 6 rfl; have y0 := B6.c 0 rfl; have y1 := B6.c 1 rfl; have y2 := B6.c 2 rfl; have y3 := B6.c 3 rfl; have y4 := B6.c 4 rfl; have y5 := B6.c 5 rfl; have y6 := B6.c 6 rfl; have j6 := hJ6.at_.c 0 rfl; have hk6 := A6.lt; have hl6 := B6.lt)
                | (go_at_call 14; with_reducible refine (CD.out _).mono ?_; rintro x w7 ⟨rfl, hb7⟩; have A7 := A6.next hb7; have B7 := B6.next hb7; have K7 := K6.next hb7; have hJ7 := hJ6.below hb7 (Nat.le_refl _); have hM7 := hM6.below hb7 (Nat.le_refl _); have hD7 := hD6.trans (hb7.mono hD6.size); have x0 := K7.c 0 rfl; have x1 := K7.c 1 rfl; have x2 := K7.c 2 rfl; have x3 := K7.c 3 rfl; have x4 := K7.c 4 rfl; have x5 := K7.c 5 rfl; have x6 := K7.c 6 rfl; have x7 := K7.c 7 rfl; have x8 := K7.c 8 rfl; have z0 := A7.c 0 rfl; have z1 := A7.c 1 rfl; have z2 := A7.c 2 rfl; have z3 := A7.c 3 rfl; have z4 := A7.c 4 rfl; have z5 := A7.c 5 rfl; have z6 := A7.c 6 rfl; have y0 := B7.c 0 rfl; have y1 := B7.c 1 rfl; have y2 := B7.c 2 rfl; have y3 := B7.c 3 rfl; have y4 := B7.c 4 rfl; have y5 := B7.c 5 rfl; have y6 := B7.c 6 rfl; have j7 := hJ7.at_.c 0 rfl; have hk7 := A7.lt; have hl7 := B7.lt; have hm7 := K7.lt)
                | (go_at_call 21; with_reducible refine (CH.out _ _ _ _ _ hM7 hJ7).mono ?_; rintro x w8 ⟨rfl, hb8⟩; have A8 := A7.next hb8; have B8 := B7.next hb8; have K8 := K7.next hb8; have hD8 := hD7.trans (hb8.mono hD7.size); have x0 := K8.c 0 rfl; have x1 := K8.c 1 rfl; have x2 := K8.c 2 rfl; have x3 := K8.c 3 rfl; have x4 := K8.c 4 rfl; have x5 := K8.c 5 rfl; have x6 := K8.c 6 rfl; have x7 := K8.c 7 rfl; have x8 := K8.c 8 rfl; have z0 := A8.c 0 rfl; have z1 := A8.c 1 rfl; have z2 := A8.c 2 rfl; have z3 := A8.c 3 rfl; have z4 := A8.c 4 rfl; have z5 := A8.c 5 rfl; have z6 := A8.c 6 rfl; have y0 := B8.c 0 rfl; have y1 := B8.c 1 rfl; have y2 := B8.c 2 rfl; have y3 := B8.c 3 rfl; have y4 := B8.c 4 rfl; have y5 := B8.c 5 rfl; have y6 := B8.c 6 rfl; have hk8 := A8.lt; have hl8 := B8.lt; have hm8 := K8.lt)
                )
              go_ret
              exact ⟨rfl, hD8⟩
            · have hE := nonempty_of R (by omega)
              have hhit := hRh hR0
              clear hRh hR0
              by_cases hq : b'.data.toList = b.data.toList
              · obtain rfl : b' = b := ba_ext' hq
                clear hhit hho hq
                go_enter Tryz.func5, Tryz.ntmps5
                go_wp2_with (first
                  |
                  (go_at_call 10; with_reducible refine CF.out.mono ?_; rintro x w1 ⟨rfl, hb1⟩; have A1 := A0.next hb1; have B1 := B0.next hb1; have hB1 := hB0.trans (hb1.mono hB0.size); have hM1 := hM0.below hb1 (Nat.le_refl _); have z0 := A1.c 0 rfl; have z1 := A1.c 1 rfl; have z2 := A1.c 2 rfl; have z3 := A1.c 3 rfl; have z4 := A1.c 4 rfl; have z5 := A1.c 5 rfl; have z6 := A1.c 6 rfl; have y0 := B1.c 0 rfl; have y1 := B1.c 1 rfl; have y2 := B1.c 2 rfl; have y3 := B1.c 3 rfl; have y4 := B1.c 4 rfl; have y5 := B1.c 5 rfl; have y6 := B1.c 6 rfl; have hl1 := A1.lt; have hk1 := B1.lt)
                  | (go_at_call 11; with_reducible refine (CSa.out _).mono ?_; rintro x w2 ⟨rfl, hb2⟩; have A2 := A1.next hb2; have B2 := B1.next hb2; have hB2 := hB1.trans (hb2.mono hB1.size); have hM2 := hM1.below hb2 (Nat.le_refl _); have z0 := A2.c 0 rfl; have z1 := A2.c 1 rfl; have z2 := A2.c 2 rfl; have z3 := A2.c 3 rfl; have z4 := A2.c 4 rfl; have z5 := A2.c 5 rfl; have z6 := A2.c 6 rfl; have y0 := B2.c 0 rfl; have y1 := B2.c 1 rfl; have y2 := B2.c 2 rfl; have y3 := B2.c 3 rfl; have y4 := B2.c 4 rfl; have y5 := B2.c 5 rfl; have y6 := B2.c 6 rfl; have hl2 := A2.lt; have hk2 := B2.lt)
                  | (go_at_call 11; with_reducible refine (CSb.out _).mono ?_; rintro x w3 ⟨rfl, hb3⟩; have A2' := A2.next hb3; have B2' := B2.next hb3; have A3 := A2'.alloc (.cells [.slice none 0 0, .int .i64 0].toArray 38); have B3 := B2'.alloc (.cells [.slice none 0 0, .int .i64 0].toArray 38); have J3 := AtL.new w3 [.slice none 0 0, .int .i64 0] 38; have hB3 := hB2.trans (hb3.mono hB2.size); have hC3 := hB3.alloc hB3.size (.cells [.slice none 0 0, .int .i64 0].toArray 38); have hM2' := hM2.below hb3 (Nat.le_refl _); have hM3 := hM2'.below ((Below.refl _ w3).alloc (Nat.le_refl _) (.cells [.slice none 0 0, .int .i64 0].toArray 38)) (Nat.le_refl _); have z0 := A3.c 0 rfl; have z1 := A3.c 1 rfl; have z2 := A3.c 2 rfl; have z3 := A3.c 3 rfl; have z4 := A3.c 4 rfl; have z5 := A3.c 5 rfl; have z6 := A3.c 6 rfl; have y0 := B3.c 0 rfl; have y1 := B3.c 1 rfl; have y2 := B3.c 2 rfl; have y3 := B3.c 3 rfl; have y4 := B3.c 4 rfl; have y5 := B3.c 5 rfl; have y6 := B3.c 6 rfl; have hl3 := A3.lt; have hk3 := B3.lt; have j3 := J3.c 0 rfl)
                  | (go_at_call 20; with_reducible refine (CSet.out _ hM3 _ J3).mono ?_; rintro x w5 ⟨rfl, ⟨v5, hJ5⟩, hbb⟩; obtain ⟨g, cap, rfl, hgw, hg5⟩ := hJ5.one; have g0 := hg5 0 _ rfl; have g1 := hg5 1 _ rfl; have g2 := hg5 2 _ rfl; have g3 := hg5 3 _ rfl; have g4 := hg5 4 _ rfl; have g5 := hg5 5 _ rfl; have g6 := hg5 6 _ rfl; have g7 := hg5 7 _ rfl; have g8 := hg5 8 _ rfl; have j5 := hJ5.at_.c 0 rfl; have hk5 := hJ5.at_.lt; have hM5 := hM3.but hbb hM3.lt (Nat.ne_of_lt hM2'.lt); have hD5 := hbb.to_below hC3 hC3.size hB3.size; have A6 := (A3.but hbb A3.lt (Nat.ne_of_lt A2'.lt)).alloc (.cells (ckL ⟨n, v, dd, p, ho, se, hi, ex, 0⟩).toArray 29); have B6 := (B3.but hbb B3.lt (Nat.ne_of_lt B2'.lt)).alloc (.cells (ckL ⟨n, v, dd, p, ho, se, hi, ex, 0⟩).toArray 29); have K6 := AtL.new w5 (ckL ⟨n, v, dd, p, ho, se, hi, ex, 0⟩) 29; have hJ6 := hJ5.below ((Below.refl _ w5).alloc (Nat.le_refl _) (.cells (ckL ⟨n, v, dd, p, ho, se, hi, ex, 0⟩).toArray 29)) (Nat.le_refl _); have hM6 := hM5.below ((Below.refl _ w5).alloc (Nat.le_refl _) (.cells (ckL ⟨n, v, dd, p, ho, se, hi, ex, 0⟩).toArray 29)) (Nat.le_refl _); have hD6 := hD5.alloc hD5.size (.cells (ckL ⟨n, v, dd, p, ho, se, hi, ex, 0⟩).toArray 29); have x0 := K6.c 0 rfl; have x1 := K6.c 1 rfl; have x2 := K6.c 2 rfl; have x3 := K6.c 3 rfl; have x4 := K6.c 4 rfl; have x5 := K6.c 5 rfl; have x6 := K6.c 6 rfl; have x7 := K6.c 7 rfl; have x8 := K6.c 8 rfl; have z0 := A6.c 0 rfl; have z1 := A6.c 1 rfl; have z2 := A6.c 2 rfl; have z3 := A6.c 3 rfl; have z4 := A6.c 4 rfl; have z5 := A6.c 5 rfl; have z6 := A6.c 6 rfl; have y0 := B6.c 0 rfl; have y1 := B6.c 1 rfl; have y2 := B6.c 2 rfl; have y3 := B6.c 3 rfl; have y4 := B6.c 4 rfl; have y5 := B6.c 5 rfl; have y6 := B6.c 6 rfl; have j6 := hJ6.at_.c 0 rfl; have hk6 := A6.lt; have hl6 := B6.lt)
                  | (go_at_call 14; with_reducible refine (CD.out _).mono ?_; rintro x w7 ⟨rfl, hb7⟩; have A7 := A6.next hb7; have B7 := B6.next hb7; have K7 := K6.next hb7; have hJ7 := hJ6.below hb7 (Nat.le_refl _); have hM7 := hM6.below hb7 (Nat.le_refl _); have hD7 := hD6.trans (hb7.mono hD6.size); have x0 := K7.c 0 rfl; have x1 := K7.c 1 rfl; have x2 := K7.c 2 rfl; have x3 := K7.c 3 rfl; have x4 := K7.c 4 rfl; have x5 := K7.c 5 rfl; have x6 := K7.c 6 rfl; have x7 := K7.c 7 rfl; have x8 := K7.c 8 rfl; have z0 := A7.c 0 rfl; have z1 := A7.c 1 rfl; have z2 := A7.c 2 rfl; have z3 := A7.c 3 rfl; have z4 := A7.c 4 rfl; have z5 := A7.c 5 rfl; have z6 := A7.c 6 rfl; have y0 := B7.c 0 rfl; have y1 := B7.c 1 rfl; have y2 := B7.c 2 rfl; have y3 := B7.c 3 rfl; have y4 := B7.c 4 rfl; have y5 := B7.c 5 rfl; have y6 := B7.c 6 rfl; have j7 := hJ7.at_.c 0 rfl; have hk7 := A7.lt; have hl7 := B7.lt; have hm7 := K7.lt)
                  | (go_at_call 21; with_reducible refine (CH.out _ _ _ _ _ hM7 hJ7).mono ?_; rintro x w8 ⟨rfl, hb8⟩; have A8 := A7.next hb8; have B8 := B7.next hb8; have K8 := K7.next hb8; have hD8 := hD7.trans (hb8.mono hD7.size); have x0 := K8.c 0 rfl; have x1 := K8.c 1 rfl; have x2 := K8.c 2 rfl; have x3 := K8.c 3 rfl; have x4 := K8.c 4 rfl; have x5 := K8.c 5 rfl; have x6 := K8.c 6 rfl; have x7 := K8.c 7 rfl; have x8 := K8.c 8 rfl; have z0 := A8.c 0 rfl; have z1 := A8.c 1 rfl; have z2 := A8.c 2 rfl; have z3 := A8.c 3 rfl; have z4 := A8.c 4 rfl; have z5 := A8.c 5 rfl; have z6 := A8.c 6 rfl; have y0 := B8.c 0 rfl; have y1 := B8.c 1 rfl; have y2 := B8.c 2 rfl; have y3 := B8.c 3 rfl; have y4 := B8.c 4 rfl; have y5 := B8.c 5 rfl; have y6 := B8.c 6 rfl; have hk8 := A8.lt; have hl8 := B8.lt; have hm8 := K8.lt)
                  )
                go_ret
                exact ⟨rfl, hD8⟩
              · have hq2 : ¬ b'.toList = b.toList := by rw [ByteArray.toList_eq, ByteArray.toList_eq]; exact hq
                have hq3 : (b'.toList == b.toList) = false := beq_eq_false_iff_ne.2 hq2
                have hdb : ho = false ∧ domL b'.data.toList dd.data.toList = true := by
                  unfold hitB at hhit
                  simp only [Bool.and_eq_true] at hhit
                  have h1 := hhit.1.1.1
                  cases ho with
                  | false => exact ⟨rfl, by simpa using h1⟩
                  | true =>
                    rw [if_pos rfl, beq_iff_eq, ByteArray.toList_eq, ByteArray.toList_eq, hho rfl] at h1
                    exact absurd h1.symm hq
                obtain ⟨rfl, hdb2⟩ := hdb
                have cD2 := fun w => dom_any b' dd w (by omega) (by omega)
                rw [hdb2] at cD2
                have CD2 := Lib.hid cD2
                clear hhit hho hq cD2 hdb2
                go_enter Tryz.func5, Tryz.ntmps5
                go_wp2_with (first
                  |
                  (go_at_call 10; with_reducible refine CF.out.mono ?_; rintro x w1 ⟨rfl, hb1⟩; have A1 := A0.next hb1; have B1 := B0.next hb1; have hB1 := hB0.trans (hb1.mono hB0.size); have hM1 := hM0.below hb1 (Nat.le_refl _); have z0 := A1.c 0 rfl; have z1 := A1.c 1 rfl; have z2 := A1.c 2 rfl; have z3 := A1.c 3 rfl; have z4 := A1.c 4 rfl; have z5 := A1.c 5 rfl; have z6 := A1.c 6 rfl; have y0 := B1.c 0 rfl; have y1 := B1.c 1 rfl; have y2 := B1.c 2 rfl; have y3 := B1.c 3 rfl; have y4 := B1.c 4 rfl; have y5 := B1.c 5 rfl; have y6 := B1.c 6 rfl; have hl1 := A1.lt; have hk1 := B1.lt)
                  | (go_at_call 11; with_reducible refine (CSa.out _).mono ?_; rintro x w2 ⟨rfl, hb2⟩; have A2 := A1.next hb2; have B2 := B1.next hb2; have hB2 := hB1.trans (hb2.mono hB1.size); have hM2 := hM1.below hb2 (Nat.le_refl _); have z0 := A2.c 0 rfl; have z1 := A2.c 1 rfl; have z2 := A2.c 2 rfl; have z3 := A2.c 3 rfl; have z4 := A2.c 4 rfl; have z5 := A2.c 5 rfl; have z6 := A2.c 6 rfl; have y0 := B2.c 0 rfl; have y1 := B2.c 1 rfl; have y2 := B2.c 2 rfl; have y3 := B2.c 3 rfl; have y4 := B2.c 4 rfl; have y5 := B2.c 5 rfl; have y6 := B2.c 6 rfl; have hl2 := A2.lt; have hk2 := B2.lt)
                  | (go_at_call 11; with_reducible refine (CSb.out _).mono ?_; rintro x w3 ⟨rfl, hb3⟩; have A2' := A2.next hb3; have B2' := B2.next hb3; have A3 := A2'.alloc (.cells [.slice none 0 0, .int .i64 0].toArray 38); have B3 := B2'.alloc (.cells [.slice none 0 0, .int .i64 0].toArray 38); have J3 := AtL.new w3 [.slice none 0 0, .int .i64 0] 38; have hB3 := hB2.trans (hb3.mono hB2.size); have hC3 := hB3.alloc hB3.size (.cells [.slice none 0 0, .int .i64 0].toArray 38); have hM2' := hM2.below hb3 (Nat.le_refl _); have hM3 := hM2'.below ((Below.refl _ w3).alloc (Nat.le_refl _) (.cells [.slice none 0 0, .int .i64 0].toArray 38)) (Nat.le_refl _); have z0 := A3.c 0 rfl; have z1 := A3.c 1 rfl; have z2 := A3.c 2 rfl; have z3 := A3.c 3 rfl; have z4 := A3.c 4 rfl; have z5 := A3.c 5 rfl; have z6 := A3.c 6 rfl; have y0 := B3.c 0 rfl; have y1 := B3.c 1 rfl; have y2 := B3.c 2 rfl; have y3 := B3.c 3 rfl; have y4 := B3.c 4 rfl; have y5 := B3.c 5 rfl; have y6 := B3.c 6 rfl; have hl3 := A3.lt; have hk3 := B3.lt; have j3 := J3.c 0 rfl)
                  | (go_at_call 20; with_reducible refine (CSet.out _ hM3 _ J3).mono ?_; rintro x w5 ⟨rfl, ⟨v5, hJ5⟩, hbb⟩; obtain ⟨g, cap, rfl, hgw, hg5⟩ := hJ5.one; have g0 := hg5 0 _ rfl; have g1 := hg5 1 _ rfl; have g2 := hg5 2 _ rfl; have g3 := hg5 3 _ rfl; have g4 := hg5 4 _ rfl; have g5 := hg5 5 _ rfl; have g6 := hg5 6 _ rfl; have g7 := hg5 7 _ rfl; have g8 := hg5 8 _ rfl; have j5 := hJ5.at_.c 0 rfl; have hk5 := hJ5.at_.lt; have hM5 := hM3.but hbb hM3.lt (Nat.ne_of_lt hM2'.lt); have hD5 := hbb.to_below hC3 hC3.size hB3.size; have A6 := (A3.but hbb A3.lt (Nat.ne_of_lt A2'.lt)).alloc (.cells (ckL ⟨n, v, dd, p, false, se, hi, ex, 0⟩).toArray 29); have B6 := (B3.but hbb B3.lt (Nat.ne_of_lt B2'.lt)).alloc (.cells (ckL ⟨n, v, dd, p, false, se, hi, ex, 0⟩).toArray 29); have K6 := AtL.new w5 (ckL ⟨n, v, dd, p, false, se, hi, ex, 0⟩) 29; have hJ6 := hJ5.below ((Below.refl _ w5).alloc (Nat.le_refl _) (.cells (ckL ⟨n, v, dd, p, false, se, hi, ex, 0⟩).toArray 29)) (Nat.le_refl _); have hM6 := hM5.below ((Below.refl _ w5).alloc (Nat.le_refl _) (.cells (ckL ⟨n, v, dd, p, false, se, hi, ex, 0⟩).toArray 29)) (Nat.le_refl _); have hD6 := hD5.alloc hD5.size (.cells (ckL ⟨n, v, dd, p, false, se, hi, ex, 0⟩).toArray 29); have x0 := K6.c 0 rfl; have x1 := K6.c 1 rfl; have x2 := K6.c 2 rfl; have x3 := K6.c 3 rfl; have x4 := K6.c 4 rfl; have x5 := K6.c 5 rfl; have x6 := K6.c 6 rfl; have x7 := K6.c 7 rfl; have x8 := K6.c 8 rfl; have z0 := A6.c 0 rfl; have z1 := A6.c 1 rfl; have z2 := A6.c 2 rfl; have z3 := A6.c 3 rfl; have z4 := A6.c 4 rfl; have z5 := A6.c 5 rfl; have z6 := A6.c 6 rfl; have y0 := B6.c 0 rfl; have y1 := B6.c 1 rfl; have y2 := B6.c 2 rfl; have y3 := B6.c 3 rfl; have y4 := B6.c 4 rfl; have y5 := B6.c 5 rfl; have y6 := B6.c 6 rfl; have j6 := hJ6.at_.c 0 rfl; have hk6 := A6.lt; have hl6 := B6.lt)
                  | (go_at_call 14; with_reducible refine (CD.out _).mono ?_; rintro x w7 ⟨rfl, hb7⟩; have A7 := A6.next hb7; have B7 := B6.next hb7; have K7 := K6.next hb7; have hJ7 := hJ6.below hb7 (Nat.le_refl _); have hM7 := hM6.below hb7 (Nat.le_refl _); have hD7 := hD6.trans (hb7.mono hD6.size); have x0 := K7.c 0 rfl; have x1 := K7.c 1 rfl; have x2 := K7.c 2 rfl; have x3 := K7.c 3 rfl; have x4 := K7.c 4 rfl; have x5 := K7.c 5 rfl; have x6 := K7.c 6 rfl; have x7 := K7.c 7 rfl; have x8 := K7.c 8 rfl; have z0 := A7.c 0 rfl; have z1 := A7.c 1 rfl; have z2 := A7.c 2 rfl; have z3 := A7.c 3 rfl; have z4 := A7.c 4 rfl; have z5 := A7.c 5 rfl; have z6 := A7.c 6 rfl; have y0 := B7.c 0 rfl; have y1 := B7.c 1 rfl; have y2 := B7.c 2 rfl; have y3 := B7.c 3 rfl; have y4 := B7.c 4 rfl; have y5 := B7.c 5 rfl; have y6 := B7.c 6 rfl; have j7 := hJ7.at_.c 0 rfl; have hk7 := A7.lt; have hl7 := B7.lt; have hm7 := K7.lt)
                  | (go_at_call 21; with_reducible refine (CH.out _ _ _ _ _ hM7 hJ7).mono ?_; rintro x w8 ⟨rfl, hb8⟩; have A8 := A7.next hb8; have B8 := B7.next hb8; have K8 := K7.next hb8; have hD8 := hD7.trans (hb8.mono hD7.size); have x0 := K8.c 0 rfl; have x1 := K8.c 1 rfl; have x2 := K8.c 2 rfl; have x3 := K8.c 3 rfl; have x4 := K8.c 4 rfl; have x5 := K8.c 5 rfl; have x6 := K8.c 6 rfl; have x7 := K8.c 7 rfl; have x8 := K8.c 8 rfl; have z0 := A8.c 0 rfl; have z1 := A8.c 1 rfl; have z2 := A8.c 2 rfl; have z3 := A8.c 3 rfl; have z4 := A8.c 4 rfl; have z5 := A8.c 5 rfl; have z6 := A8.c 6 rfl; have y0 := B8.c 0 rfl; have y1 := B8.c 1 rfl; have y2 := B8.c 2 rfl; have y3 := B8.c 3 rfl; have y4 := B8.c 4 rfl; have y5 := B8.c 5 rfl; have y6 := B8.c 6 rfl; have hk8 := A8.lt; have hl8 := B8.lt; have hm8 := K8.lt)
                  | (go_at_call 14; with_reducible refine (CD2.out _).mono ?_; rintro x w9 ⟨rfl, hb9⟩)
                  )
                go_ret
                exact ⟨rfl, hD8.trans (hb9.mono hD8.size)⟩
        · have CSet := Lib.hid (fun w hM jb hJ => set_err' s a b cc d e f now T hT c er hR he w (by omega) hz hM jb hJ)
          clear hT hR hz hz'
          go_enter Tryz.func5, Tryz.ntmps5
          go_wp2_with (first
            |
            (go_at_call 10; with_reducible refine CF.out.mono ?_; rintro x w1 ⟨rfl, hb1⟩; have A1 := A0.next hb1; have B1 := B0.next hb1; have hB1 := hB0.trans (hb1.mono hB0.size); have hM1 := hM0.below hb1 (Nat.le_refl _); have z0 := A1.c 0 rfl; have z1 := A1.c 1 rfl; have z2 := A1.c 2 rfl; have z3 := A1.c 3 rfl; have z4 := A1.c 4 rfl; have z5 := A1.c 5 rfl; have z6 := A1.c 6 rfl; have y0 := B1.c 0 rfl; have y1 := B1.c 1 rfl; have y2 := B1.c 2 rfl; have y3 := B1.c 3 rfl; have y4 := B1.c 4 rfl; have y5 := B1.c 5 rfl; have y6 := B1.c 6 rfl; have hl1 := A1.lt; have hk1 := B1.lt)
            | (go_at_call 11; with_reducible refine (CSa.out _).mono ?_; rintro x w2 ⟨rfl, hb2⟩; have A2 := A1.next hb2; have B2 := B1.next hb2; have hB2 := hB1.trans (hb2.mono hB1.size); have hM2 := hM1.below hb2 (Nat.le_refl _); have z0 := A2.c 0 rfl; have z1 := A2.c 1 rfl; have z2 := A2.c 2 rfl; have z3 := A2.c 3 rfl; have z4 := A2.c 4 rfl; have z5 := A2.c 5 rfl; have z6 := A2.c 6 rfl; have y0 := B2.c 0 rfl; have y1 := B2.c 1 rfl; have y2 := B2.c 2 rfl; have y3 := B2.c 3 rfl; have y4 := B2.c 4 rfl; have y5 := B2.c 5 rfl; have y6 := B2.c 6 rfl; have hl2 := A2.lt; have hk2 := B2.lt)
            | (go_at_call 11; with_reducible refine (CSb.out _).mono ?_; rintro x w3 ⟨rfl, hb3⟩; have A2' := A2.next hb3; have B2' := B2.next hb3; have A3 := A2'.alloc (.cells [.slice none 0 0, .int .i64 0].toArray 38); have B3 := B2'.alloc (.cells [.slice none 0 0, .int .i64 0].toArray 38); have J3 := AtL.new w3 [.slice none 0 0, .int .i64 0] 38; have hB3 := hB2.trans (hb3.mono hB2.size); have hC3 := hB3.alloc hB3.size (.cells [.slice none 0 0, .int .i64 0].toArray 38); have hM2' := hM2.below hb3 (Nat.le_refl _); have hM3 := hM2'.below ((Below.refl _ w3).alloc (Nat.le_refl _) (.cells [.slice none 0 0, .int .i64 0].toArray 38)) (Nat.le_refl _); have z0 := A3.c 0 rfl; have z1 := A3.c 1 rfl; have z2 := A3.c 2 rfl; have z3 := A3.c 3 rfl; have z4 := A3.c 4 rfl; have z5 := A3.c 5 rfl; have z6 := A3.c 6 rfl; have y0 := B3.c 0 rfl; have y1 := B3.c 1 rfl; have y2 := B3.c 2 rfl; have y3 := B3.c 3 rfl; have y4 := B3.c 4 rfl; have y5 := B3.c 5 rfl; have y6 := B3.c 6 rfl; have hl3 := A3.lt; have hk3 := B3.lt; have j3 := J3.c 0 rfl)
            | (go_at_call 20; with_reducible refine (CSet.out _ hM3 _ J3).mono ?_; rintro x w5 ⟨rfl, hJ5, hbb⟩; have j5 := hJ5.at_.c 0 rfl; have hk5 := hJ5.at_.lt)
            )
          go_ret
          exact ⟨rfl, hbb.to_below hC3 hC3.size hB3.size⟩
  · have hsi : (s.size : Int) > 400 := by omega
    clear cSa cSb
    go_enter Tryz.func5, Tryz.ntmps5
    go_wp2_with
      (go_at_call 10; with_reducible refine CF.out.mono ?_; rintro x w1 ⟨rfl, hb1⟩; have A1 := A0.next hb1; have B1 := B0.next hb1; have hB1 := hB0.trans (hb1.mono hB0.size); have hM1 := hM0.below hb1 (Nat.le_refl _); have z0 := A1.c 0 rfl; have z1 := A1.c 1 rfl; have z2 := A1.c 2 rfl; have z3 := A1.c 3 rfl; have z4 := A1.c 4 rfl; have z5 := A1.c 5 rfl; have z6 := A1.c 6 rfl; have y0 := B1.c 0 rfl; have y1 := B1.c 1 rfl; have y2 := B1.c 2 rfl; have y3 := B1.c 3 rfl; have y4 := B1.c 4 rfl; have y5 := B1.c 5 rfl; have y6 := B1.c 6 rfl; have hl1 := A1.lt; have hk1 := B1.lt)
    go_ret
    exact ⟨rfl, hB1⟩
end Go.Proofs.YtgjooigolgdocaaGreatDoor
