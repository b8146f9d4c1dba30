/- CookieSet: what Set and the reference's Set make of a jar. -/
import Derived.Test.YtgjooigolgdocaaGreatDoorDU
import Derived.Test.YtgjooigolgdocaaGreatDoorDV
import Derived.Test.YtgjooigolgdocaaGreatDoorDW
namespace Go.Proofs.YtgjooigolgdocaaGreatDoor
set_option linter.unusedVariables false
set_option linter.unusedSimpArgs false
open Go.RowKit

theorem idx_none_filter (p : Ck → Bool) (l : List Ck) (h : idxI p l = -1) : l.filter (fun z => !p z) = l := by
  rw [List.filter_eq_self]
  intro x hx
  unfold idxI at h
  by_cases ha : l.any p
  · rw [if_pos ha] at h; omega
  · cases hp : p x with
    | false => rfl
    | true => exact absurd (List.any_eq_true.2 ⟨x, hx, hp⟩) ha
theorem ret2x_get {P : Program} {fn : Func} {q T r : Nat} (hr : fn.results = #[.cell q T, .tmp r]) (hz : ∀ w, (Go.sizeOf T).run P w = .ok 2 w) (ha : ∀ w, (isAgg T).run P w = .ok true w) (tmps : Array Value) (W : World) (k : Nat) (a b x : Value) (h2 : tmps.getD q undef = .pointer (some ⟨k, 0, none⟩)) (h3 : tmps.getD r undef = x) (hA : AtL W k [a, b]) :
    (results fn tmps).run P W = .ok (.tuple #[.agg #[a, b], x]) W := ret2x_run hr hz ha tmps W k a b x h2 h3 hA
set_option maxRecDepth 20000 in
set_option maxHeartbeats 4000000 in
theorem rset_perr (s a b cc d e f : ByteArray) (now : Int) (T : Bool) (hT : takesB (u6 a b cc d e f) = T) (c : Ck) (er : Int) (hR : parseC s.data.toList T a b d now = (c, er)) (hne : er ≠ 0) (w : World) (hs : s.size ≤ 100000) (hz : USize 40000 a b cc d e f) (hM : MaxAt w) (v : Value) (l : List Ck) (nx : Int)
    (hv : SlK ckL 9 w v l) (sc : Bool) :
    Calls Tryz.prog 32 #[.agg #[v, .int .i64 nx], .string s, urlA a b cc d e f, .int .i64 now, .bool sc] w (RsQ w l nx er) := by
  have CP := Lib.hid (fun w hM => rparse_ex s a b cc d e f now T hT c er hR w hs hz hM)
  have hne1 : ((er : Int) != 0) = true := bne_iff_ne.2 hne
  have hb0 : Below w.heap.size w (((w.alloc (.cells [v, .int .i64 nx].toArray 46)).alloc (.cells (urlL a b cc d e f).toArray 23)).alloc (.cells [.slice none 0 0, .int .i64 0].toArray 46)) := (((Below.refl _ w).alloc (Nat.le_refl _) _).alloc (by simp) _).alloc (by simp; omega) _
  have J0 := ((AtL.new w [v, .int .i64 nx] 46).alloc (.cells (urlL a b cc d e f).toArray 23)).alloc (.cells [.slice none 0 0, .int .i64 0].toArray 46)
  have I0 := (AtL.new (w.alloc (.cells [v, .int .i64 nx].toArray 46)) (urlL a b cc d e f) 23).alloc (.cells [.slice none 0 0, .int .i64 0].toArray 46)
  have O0 := AtL.new ((w.alloc (.cells [v, .int .i64 nx].toArray 46)).alloc (.cells (urlL a b cc d e f).toArray 23)) [.slice none 0 0, .int .i64 0] 46
  rw [show (w.alloc (.cells [v, .int .i64 nx].toArray 46)).heap.size = w.heap.size + 1 by simp] at I0
  rw [show ((w.alloc (.cells [v, .int .i64 nx].toArray 46)).alloc (.cells (urlL a b cc d e f).toArray 23)).heap.size = w.heap.size + 1 + 1 by simp] at O0
  have hM0 := hM.below hb0 (Nat.le_refl _)
  obtain ⟨sa, sl, rfl, _⟩ := hv.shape
  have HV := Lib.hid hv
  clear hR hT hs hz hM hv hne
  go_enter Tryz.func32, Tryz.ntmps32
  go_wp2_with fail
  obtain ⟨w0, hw0⟩ : ∃ w0 : World, ((w.alloc (.cells [.slice sa l.length sl, .int .i64 nx].toArray 46)).alloc (.cells (urlL a b cc d e f).toArray 23)).alloc (.cells [.slice none 0 0, .int .i64 0].toArray 46) = w0 := ⟨_, rfl⟩
  obtain ⟨O, hO⟩ : ∃ O, w.heap.size + 1 + 1 = O := ⟨_, rfl⟩
  obtain ⟨I, hI⟩ : ∃ I, w.heap.size + 1 = I := ⟨_, rfl⟩
  obtain ⟨J, hJ⟩ : ∃ J, w.heap.size = J := ⟨_, rfl⟩
  have hgO : w.heap.size ≤ O := by omega
  rw [hw0] at J0 I0 O0 hb0 hM0
  rw [hO] at O0
  rw [hI] at I0
  rw [hJ] at J0
  rw [hw0, hO, hI, hJ]
  have HJ := Lib.hid hJ
  clear hw0 hO hI hJ
  have j0 := J0.c 0 rfl; have j1 := J0.c 1 rfl
  have u0 := I0.c 0 rfl; have u1 := I0.c 1 rfl; have u2 := I0.c 2 rfl; have u3 := I0.c 3 rfl; have u4 := I0.c 4 rfl; have u5 := I0.c 5 rfl
  have jl0 := J0.lt
  have il0 := I0.lt
  have ol0 := O0.lt
  go_wp2_with (go_at_call 13; with_reducible refine (CP.out _ hM0).mono ?_; rintro x w1 ⟨rfl, hb1⟩; have hal : Below w1.heap.size w1 (w1.alloc (.cells (ckL c).toArray 29)) := (Below.refl _ w1).alloc (Nat.le_refl _) _; have JA := (J0.next hb1).next hal; have OA := (O0.next hb1).next hal; have hB1 := hb0.trans (hb1.mono hb0.size); have hBA := hB1.trans (hal.mono hB1.size); clear j0 j1 u0 u1 u2 u3 u4 u5; have j0 := JA.c 0 rfl; have j1 := JA.c 1 rfl; have o0 := OA.c 0 rfl; have o1 := OA.c 1 rfl; have n0 := OA.f 0 rfl; have n1 := OA.f 1 rfl; have jlA := JA.lt; have olA := OA.lt)
  have hBF := (hBA.setCell (p := ⟨O, 0, none⟩) hgO (.slice sa l.length sl)).setCell (p := ⟨O, 1, none⟩) hgO (.int .i64 nx)
  have hvF := HV.out.below hBF (Nat.le_refl _)
  refine bodyPost_ret (ret2x_run (q := 10) (r := 11) (T := 46) (by rfl) (fun w => by kernel_rfl) (fun w => by kernel_rfl) _ _ O (.slice sa l.length sl) (.int .i64 nx) (.int .i64 er) (by rfl) (by rfl) ((OA.set 0 _).set 1 _)) rfl (RsQ.mk hvF hBF)
theorem setscript_err (s a b cc d e f : ByteArray) (now : Int) (T : Bool) (hT : takesB (u6 a b cc d e f) = T) (c : Ck) (er : Int) (hR : parseC s.data.toList T a b d now = (c, er)) (hne : er ≠ 0) (w : World) (hs : s.size ≤ 100000) (hz : USize 40000 a b cc d e f) (hM : MaxAt w) (jb : Nat) :
    Calls Tryz.prog 31 #[.pointer (some ⟨jb, 0, none⟩), .string s, urlA a b cc d e f, .int .i64 now] w fun x w' => x = .returned (.int .i64 er) ∧ Below w.heap.size w w' := by
  have CP := Lib.hid (fun w hM => cparse_ex s a b cc d e f now T hT c er hR w hs hz hM)
  have HM := Lib.hid hM
  obtain ⟨n, v, dd, p, ho, se, hi, ex, cr⟩ := c
  clear hR hT hs hz hM
  go_enter Tryz.func31, Tryz.ntmps31
  go_wp2_with (go_at_call 12; with_reducible refine (CP.out _ (HM.out.below ((Below.refl _ w).alloc (Nat.le_refl _) _) (Nat.le_refl _))).mono ?_; rintro x w1 ⟨rfl, hb1⟩)
  go_ret
  exact ⟨rfl, ((((Below.refl _ w).alloc (Nat.le_refl _) _).trans (hb1.mono (by simp))).alloc (by have := hb1.size; simp at this; omega) _)⟩
/-- what Set makes of a jar in memory -/
def SetQ (w : World) (jb B : Nat) (v : Value) (l' : List Ck) (nx' er : Int) (x : Ending) (w' : World) : Prop := x = .returned (.int .i64 er) ∧ (∃ v', JarIn w' jb B v' l' nx' ∧ OldNew v v' w.heap.size) ∧ RowBut w.heap.size jb v.ownBlock w w'
theorem SetQ.same {w w' : World} {jb B : Nat} {v : Value} {l : List Ck} {nx er : Int} {x : Ending} (hJ : JarIn w jb B v l nx) (hx : x = .returned (.int .i64 er)) (hb : Below w.heap.size w w') : SetQ w jb B v l nx er x w' :=
  ⟨hx, ⟨v, hJ.below hb (Nat.le_refl _), OldNew.refl _ _⟩, below_row hb⟩
theorem store_set {c : Ck} {a b cc d e f : ByteArray} {now : Int} {w w1 : World} {jb B : Nat} {v : Value} {l l' : List Ck} {nx nx' er : Int} (hJ : JarIn w jb B v l nx) (hb : Below w.heap.size w w1) (hP : Put c (exB c now) a l nx l' nx' er) (hl : l.length ≤ 202) (hn1 : -1152921504606846976 ≤ nx) (hn2 : nx ≤ 1152921504606846976) :
    Calls Tryz.prog 58 #[.pointer (some ⟨jb, 0, none⟩), ckA c, urlA a b cc d e f, .int .i64 now] w1 fun x w'' => x = .returned (.int .i64 er) ∧ ((∃ v', JarIn w'' jb B v' l' nx' ∧ OldNew v v' w.heap.size) ∧ RowBut w.heap.size jb v.ownBlock w w'') := by
  refine (store_any c a b cc d e f now w1 jb B v l l' nx nx' er (hJ.below hb (Nat.le_refl _)) hP hl hn1 hn2).mono ?_
  rintro x w' ⟨hx, ⟨v', hJ', ho⟩, hr⟩
  refine ⟨hx, ⟨v', hJ', fun g hg => (ho g hg).imp id (fun h => Nat.le_trans hb.size h)⟩, ?_⟩
  exact ((RowBut.refl w.heap.size jb v.ownBlock w).below hb (Nat.le_refl _)).trans (hr.mono hb.size)
/-- what a script's Set makes of a jar -/
inductive Scr (c : Ck) (gone : Bool) (a : ByteArray) (l : List Ck) (nx : Int) : List Ck → Int → Int → Prop
  | me (h : c.hi = true) : Scr c gone a l nx l nx 7
  | he (k : Nat) (hk : k < l.length) (hi : idxI (sameB c) l = k) (h1 : c.hi = false) (h : l[k].hi = true) : Scr c gone a l nx l nx 7
  | ok (l' : List Ck) (nx' er : Int) (h1 : c.hi = false) (h2 : ∀ k : Nat, ∀ hk : k < l.length, idxI (sameB c) l = k → l[k].hi = false) (hP : Put c gone a l nx l' nx' er) : Scr c gone a l nx l' nx' er
theorem scr_ex (c : Ck) (gone : Bool) (a : ByteArray) (l : List Ck) (nx : Int) : ∃ l' nx' er, Scr c gone a l nx l' nx' er := by
  cases hc : c.hi with
  | true => exact ⟨_, _, _, .me hc⟩
  | false =>
    obtain ⟨l', nx', er, hP⟩ := put_ex c gone a l nx
    rcases idxI_cases (sameB c) l with h | ⟨k, hk, h, _⟩
    · exact ⟨_, _, _, .ok l' nx' er hc (fun k hk h2 => by omega) hP⟩
    · cases hh : l[k].hi with
      | true => exact ⟨_, _, _, .he k hk h hc hh⟩
      | false => exact ⟨_, _, _, .ok l' nx' er hc (fun k2 hk2 h2 => by have e : k = k2 := (by omega); subst e; exact hh) hP⟩
theorem rset_put_any (s a b cc d e f : ByteArray) (now : Int) (T : Bool) (hT : takesB (u6 a b cc d e f) = T) (c : Ck) (hR : parseC s.data.toList T a b d now = (c, 0)) (w : World) (hs : s.size ≤ 100000) (hz : USize 40000 a b cc d e f) (hM : MaxAt w) (v : Value) (l l' : List Ck) (nx nx' er : Int)
    (hv : SlK ckL 9 w v l) (hll : l.length ≤ 202) (hn1 : -1152921504606846976 ≤ nx) (hn2 : nx ≤ 1152921504606846976) (sc : Bool) (hsc : sc = false ∨ (c.hi = false ∧ ∀ k : Nat, ∀ hk : k < l.length, idxI (sameB c) l = k → l[k].hi = false)) (hP : Put c (exB c now) a l nx l' nx' er) :
    Calls Tryz.prog 32 #[.agg #[v, .int .i64 nx], .string s, urlA a b cc d e f, .int .i64 now, .bool sc] w (RsQ w l' nx' er) := by
  have hc : sc = false ∨ c.hi = false := hsc.imp id (fun h => h.1)
  have hk' : ∀ k : Nat, ∀ hk : k < l.length, idxI (sameB c) l = k → sc = false ∨ l[k].hi = false := fun k hk hi => hsc.imp id (fun h => h.2 k hk hi)
  generalize hex : exB c now = E at hP
  cases hP with
  | sec k hk hi hs' hn =>
    refine (rset_err s a b cc d e f now T hT c hR w hs hz hM v l nx hv (by omega) sc k hi (.inr ⟨k, hk, rfl, .inr ⟨hs', hn⟩⟩)).mono ?_
    rintro x w' ⟨rfl, hb⟩
    exact RsQ.mk (hv.below hb (Nat.le_refl _)) hb
  | none hi hg =>
    have := rset_gone s a b cc d e f now T hT c hR w hs hz hM v l nx hv (by omega) sc (-1) hi (hex.trans hg) ⟨hc, .inl rfl⟩
    rwa [idx_none_filter _ l hi] at this
  | del k hk hi hs' hg => exact rset_gone s a b cc d e f now T hT c hR w hs hz hM v l nx hv (by omega) sc k hi (hex.trans hg) ⟨hc, .inr ⟨k, hk, rfl, hk' k hk hi, hs'⟩⟩
  | put k hk hi hs' hg => exact rset_put s a b cc d e f now T hT c hR w hs hz hM v l nx hv (by omega) sc k hk hi (hex.trans hg) ⟨hc, hk' k hk hi, hs'⟩
  | new hi hg hl => exact rset_new s a b cc d e f now T hT c hR w hs hz hM v l nx hv (by omega) sc hi (hex.trans hg) hc hn1 hn2 0 (.inl ⟨hl, rfl⟩)
  | evict q hi hg h0 hq => exact rset_new s a b cc d e f now T hT c hR w hs hz hM v l nx hv (by omega) sc hi (hex.trans hg) hc hn1 hn2 q (.inr hq)
/-- Set and the reference's Set do the same -/
theorem jar_f (s a b cc d e f : ByteArray) (now : Int) (hs : s.size ≤ 100000) (hz : USize 40000 a b cc d e f) (l : List Ck) (nx : Int) (hl : l.length ≤ 202) (hn1 : -1152921504606846976 ≤ nx) (hn2 : nx ≤ 1152921504606846976) :
    ∃ l' nx' er, l'.length ≤ 202 ∧ (∀ w v, MaxAt w → SlK ckL 9 w v l → Calls Tryz.prog 32 #[.agg #[v, .int .i64 nx], .string s, urlA a b cc d e f, .int .i64 now, .bool false] w (RsQ w l' nx' er)) ∧
      ∀ w jb B v, MaxAt w → JarIn w jb B v l nx → Calls Tryz.prog 20 #[.pointer (some ⟨jb, 0, none⟩), .string s, urlA a b cc d e f, .int .i64 now] w (SetQ w jb B v l' nx' er) := by
  obtain ⟨T, hT⟩ : ∃ T, takesB (u6 a b cc d e f) = T := ⟨_, rfl⟩
  obtain ⟨⟨c, er⟩, hR⟩ : ∃ R, parseC s.data.toList T a b d now = R := ⟨_, rfl⟩
  by_cases he : er = 0
  · subst he
    obtain ⟨l', nx', er, hP⟩ := put_ex c (exB c now) a l nx
    refine ⟨l', nx', er, put_len hP hl, fun w v hM hv => rset_put_any s a b cc d e f now T hT c hR w hs hz hM v l l' nx nx' er hv hl hn1 hn2 false (.inl rfl) hP, fun w jb B v hM hJ => ?_⟩
    exact set_ok s a b cc d e f now T hT c hR w hs hz hM jb er (fun w'' => (∃ v', JarIn w'' jb B v' l' nx' ∧ OldNew v v' w.heap.size) ∧ RowBut w.heap.size jb v.ownBlock w w'') fun w1 hb => store_set hJ hb hP hl hn1 hn2
  · refine ⟨l, nx, er, hl, fun w v hM hv => rset_perr s a b cc d e f now T hT c er hR he w hs hz hM v l nx hv false, fun w jb B v hM hJ => ?_⟩
    exact (set_err s a b cc d e f now T hT c er hR he w hs hz hM jb).mono fun x w' h => SetQ.same hJ h.1 h.2
theorem jar_t (s a b cc d e f : ByteArray) (now : Int) (hs : s.size ≤ 100000) (hz : USize 40000 a b cc d e f) (l : List Ck) (nx : Int) (hl : l.length ≤ 202) (hn1 : -1152921504606846976 ≤ nx) (hn2 : nx ≤ 1152921504606846976) :
    ∃ l' nx' er, l'.length ≤ 202 ∧ (∀ w v, MaxAt w → SlK ckL 9 w v l → Calls Tryz.prog 32 #[.agg #[v, .int .i64 nx], .string s, urlA a b cc d e f, .int .i64 now, .bool true] w (RsQ w l' nx' er)) ∧
      ∀ w jb B v, MaxAt w → JarIn w jb B v l nx → Calls Tryz.prog 31 #[.pointer (some ⟨jb, 0, none⟩), .string s, urlA a b cc d e f, .int .i64 now] w (SetQ w jb B v l' nx' er) := by
  obtain ⟨T, hT⟩ : ∃ T, takesB (u6 a b cc d e f) = T := ⟨_, rfl⟩
  obtain ⟨⟨c, er⟩, hR⟩ : ∃ R, parseC s.data.toList T a b d now = R := ⟨_, rfl⟩
  by_cases he : er = 0
  · subst he
    obtain ⟨l', nx', er, hS⟩ := scr_ex c (exB c now) a l nx
    refine ⟨l', nx', er, ?_, fun w v hM hv => ?_, fun w jb B v hM hJ => ?_⟩
    · cases hS with
      | ok l' nx' er h1 h2 hP => exact put_len hP hl
      | _ => exact hl
    · cases hS with
      | me h =>
        obtain ⟨kI, hkI⟩ : ∃ kI, idxI (sameB c) l = kI := ⟨_, rfl⟩
        refine (rset_err s a b cc d e f now T hT c hR w hs hz hM v l nx hv (by omega) true kI hkI (.inl ⟨rfl, h⟩)).mono ?_
        rintro x w' ⟨rfl, hb⟩
        exact RsQ.mk (hv.below hb (Nat.le_refl _)) hb
      | he k hk hi h1 h =>
        refine (rset_err s a b cc d e f now T hT c hR w hs hz hM v l nx hv (by omega) true k hi (.inr ⟨k, hk, rfl, .inl ⟨rfl, h⟩⟩)).mono ?_
        rintro x w' ⟨rfl, hb⟩
        exact RsQ.mk (hv.below hb (Nat.le_refl _)) hb
      | ok l' nx' er h1 h2 hP => exact rset_put_any s a b cc d e f now T hT c hR w hs hz hM v l l' nx nx' er hv hl hn1 hn2 true (.inr ⟨h1, h2⟩) hP
    · cases hS with
      | me h =>
        obtain ⟨kI, hkI⟩ : ∃ kI, idxI (sameB c) l = kI := ⟨_, rfl⟩
        exact (setscript_a s a b cc d e f now T hT c hR w hs hz hM jb B v l nx hJ (by omega) h kI hkI).mono fun x w' h => SetQ.same hJ h.1 h.2
      | he k hk hi h1 h => exact (setscript_b s a b cc d e f now T hT c hR w hs hz hM jb B v l nx hJ (by omega) h1 k hk hi h).mono fun x w' h => SetQ.same hJ h.1 h.2
      | ok l' nx' er h1 h2 hP =>
        rcases idxI_cases (sameB c) l with h | ⟨k, hk, h, _⟩
        · exact setscript_c s a b cc d e f now T hT c hR w hs hz hM jb B v l nx hJ (by omega) h1 (-1) h rfl er (fun w'' => (∃ v', JarIn w'' jb B v' l' nx' ∧ OldNew v v' w.heap.size) ∧ RowBut w.heap.size jb v.ownBlock w w'') fun w1 hb => store_set hJ hb hP hl hn1 hn2
        · exact setscript_d s a b cc d e f now T hT c hR w hs hz hM jb B v l nx hJ (by omega) h1 k hk h (h2 k hk h) er (fun w'' => (∃ v', JarIn w'' jb B v' l' nx' ∧ OldNew v v' w.heap.size) ∧ RowBut w.heap.size jb v.ownBlock w w'') fun w1 hb => store_set hJ hb hP hl hn1 hn2
  · refine ⟨l, nx, er, hl, fun w v hM hv => rset_perr s a b cc d e f now T hT c er hR he w hs hz hM v l nx hv true, fun w jb B v hM hJ => ?_⟩
    exact (setscript_err s a b cc d e f now T hT c er hR he w hs hz hM jb).mono fun x w' h => SetQ.same hJ h.1 h.2
end Go.Proofs.YtgjooigolgdocaaGreatDoor
