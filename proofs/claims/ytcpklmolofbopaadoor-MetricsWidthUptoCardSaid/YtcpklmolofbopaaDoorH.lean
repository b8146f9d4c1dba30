/- The walk of the reference's Lines. -/
import Derived.Test.YtcpklmolofbopaaDoorG
namespace Go.Proofs.YtcpklmolofbopaaDoor
open Go.RowKit

theorem sl32 : SlTy Tryd.prog 32 36 4 32 := .mk' (z := .agg #[.int .i64 0, .int .i64 0, .int .i64 0, .int .i64 0]) Tryd.underlying32 (by kernel_rfl) rfl (by decide)

/-- the end that the reference takes -/
def scan (l : List UInt8) (n wd : Int) (fr : Nat) : Int → List Nat → Int
  | nx, [] => nx
  | nx, e :: es =>
    if e ≤ fr then scan l n wd fr nx es
    else if nx < 0 ∨ (partL l n fr e).2.2.2 ≤ wd then scan l n wd fr e es
    else scan l n wd fr nx es
theorem scan_skip (l : List UInt8) (n wd : Int) (fr : Nat) (nx : Int) (e : Nat) (es : List Nat) (h : e ≤ fr) : scan l n wd fr nx (e :: es) = scan l n wd fr nx es := by rw [scan, if_pos h]
theorem scan_take (l : List UInt8) (n wd : Int) (fr : Nat) (nx : Int) (e : Nat) (es : List Nat) (h : ¬ e ≤ fr) (h2 : nx < 0 ∨ (partL l n fr e).2.2.2 ≤ wd) : scan l n wd fr nx (e :: es) = scan l n wd fr e es := by rw [scan, if_neg h, if_pos h2]
theorem scan_drop (l : List UInt8) (n wd : Int) (fr : Nat) (nx : Int) (e : Nat) (es : List Nat) (h : ¬ e ≤ fr) (h2 : ¬ (nx < 0 ∨ (partL l n fr e).2.2.2 ≤ wd)) : scan l n wd fr nx (e :: es) = scan l n wd fr nx es := by rw [scan, if_neg h, if_neg h2]
theorem scan_mem (l : List UInt8) (n wd : Int) (fr : Nat) : ∀ (es : List Nat) (nx : Int), scan l n wd fr nx es = nx ∨ ∃ e ∈ es, fr < e ∧ scan l n wd fr nx es = e := by
  intro es
  induction es with
  | nil => intro nx; exact .inl rfl
  | cons e es ih =>
    intro nx
    by_cases h : e ≤ fr
    · rw [scan_skip _ _ _ _ _ _ _ h]; rcases ih nx with h1 | ⟨x, h1, h2, h3⟩
      · exact .inl h1
      · exact .inr ⟨x, List.mem_cons_of_mem _ h1, h2, h3⟩
    · by_cases h2 : nx < 0 ∨ (partL l n fr e).2.2.2 ≤ wd
      · rw [scan_take _ _ _ _ _ _ _ h h2]; rcases ih e with h1 | ⟨x, h1, h3, h4⟩
        · exact .inr ⟨e, List.mem_cons_self, by omega, h1⟩
        · exact .inr ⟨x, List.mem_cons_of_mem _ h1, h3, h4⟩
      · rw [scan_drop _ _ _ _ _ _ _ h h2]; rcases ih nx with h1 | ⟨x, h1, h3, h4⟩
        · exact .inl h1
        · exact .inr ⟨x, List.mem_cons_of_mem _ h1, h3, h4⟩
theorem scan_pos (l : List UInt8) (n wd : Int) (fr : Nat) : ∀ (es : List Nat) (nx : Int), (∃ e ∈ es, fr < e) → nx < 0 → ∃ e ∈ es, fr < e ∧ scan l n wd fr nx es = e := by
  intro es
  induction es with
  | nil => intro nx ⟨e, he, _⟩; cases he
  | cons e es ih =>
    intro nx ⟨x, hx, hfx⟩ hn
    by_cases h : e ≤ fr
    · rw [scan_skip _ _ _ _ _ _ _ h]
      rcases List.mem_cons.1 hx with rfl | hx
      · omega
      · obtain ⟨y, h1, h2, h3⟩ := ih nx ⟨x, hx, hfx⟩ hn
        exact ⟨y, List.mem_cons_of_mem _ h1, h2, h3⟩
    · rw [scan_take _ _ _ _ _ _ _ h (.inl hn)]
      rcases scan_mem l n wd fr es e with h1 | ⟨y, h1, h3, h4⟩
      · exact ⟨e, List.mem_cons_self, by omega, h1⟩
      · exact ⟨y, List.mem_cons_of_mem _ h1, h3, h4⟩
/-- the reference's lines from an offset on -/
def rgo (l : List UInt8) (n wd : Int) : Nat → Nat → List Ln
  | 0, _ => []
  | f + 1, fr => if fr < l.length then partL l n fr (scan l n wd fr (-1) (ends l)).toNat :: rgo l n wd f (scan l n wd fr (-1) (ends l)).toNat else []
theorem rgo_len (l : List UInt8) (n wd : Int) : ∀ (f fr : Nat), (rgo l n wd f fr).length ≤ f := by
  intro f
  induction f with
  | zero => intro fr; simp [rgo]
  | succ f ih => intro fr; unfold rgo; split <;> simp [ih]

/-- the inner scan -/
structure ScanSt (E : List Nat) (k : Nat) (nx : Int) (s : ByteArray) : Prop where
  hk : k ≤ E.length
  hn : nx = -1 ∨ (0 ≤ nx ∧ nx ≤ s.size)

set_option maxHeartbeats 1000000 in
theorem rlines_any (s : ByteArray) (n wd : Int) (w : World) (hs : s.size ≤ 2097151) :
    Calls Tryd.prog 21 #[.string s, .int .i64 n, .int .i64 wd] w fun e w' => ∃ v, e = .returned v ∧
      w'.ownsRow w.heap.size 36 4 v (rgo s.data.toList n wd s.size 0).length (lnsV (rgo s.data.toList n wd s.size 0)) ∧ Below w.heap.size w w' := by
  have hl := size_len s
  have hE1 := ends_asc s.data.toList
  have hE2 := ends_le s.data.toList
  have hE3 := ends_len s.data.toList
  obtain ⟨G, hG⟩ : ∃ G, rgo s.data.toList n wd s.size 0 = G := ⟨_, rfl⟩
  have hGl : G.length ≤ s.size := by rw [← hG]; exact rgo_len _ _ _ _ _
  rw [hG]
  have HG := Lib.hid hG
  clear hG
  have hbk : (breaks s.data.toList).length + 1 = (ends s.data.toList).length := by simp [ends]
  by_cases h0 : s.size = 0
  · have hg : G = [] := by have := HG.out; rw [h0] at this; exact this.symm
    subst hg
    have hs0 : ¬ 0 < s.size := by omega
    clear hE1 hE2 hE3 hbk h0 HG
    go_enter Tryd.func21, Tryd.ntmps21
    go_wp2_with (go_at_call 19; refine (rbreaks_any s _ (by omega)).mono ?_; rintro e w1 ⟨v1, rfl, ho1, hb1⟩)
    go_loopw [8, 9] (fun v fv wr => fv = .int .i64 0 ∧ v = .slice none 0 0 ∧ Below w.heap.size w wr) (fun _ _ _ => 0)
    case atStart => exact ⟨rfl, rfl, hb1⟩
    case round =>
      obtain ⟨rfl, rfl, hbw⟩ := hrel
      go_wp2_with fail
      go_ret
      exact ⟨_, rfl, World.ownsRow_nil _ _ _ _, hbw⟩
  · have hs0 : 0 < s.size := by omega
    clear h0
    obtain ⟨E, hEE⟩ : ∃ E, ends s.data.toList = E := ⟨_, rfl⟩
    have hEV : (breaks s.data.toList).map intV ++ [.int .i64 (s.size : Int)] = E.map intV := by rw [← hEE]; simp [ends, intV]
    have hEm : s.size ∈ E := by rw [← hEE, ends, hl]; simp
    have hlast : ∀ fr : Nat, fr < s.size → ∃ e ∈ E, fr < e := fun fr h => ⟨s.size, hEm, h⟩
    have HEE := Lib.hid hEE
    rw [hEE] at hE1 hE2 hE3 hbk
    have HEV := Lib.hid hEV
    have HE2 := Lib.hid hE2
    have HBK := Lib.hid hbk
    have HLA := Lib.hid hlast
    have hbk' : (breaks s.data.toList).length ≤ 2097153 := by omega
    have hEl : E.length ≤ 2097153 := by omega
    clear hEE hEV hE1 hE2 hbk hE3 hlast hEm
    go_enter Tryd.func21, Tryd.ntmps21
    go_wp2_with (first
      | (go_at_call 19; refine (rbreaks_any s _ (by omega)).mono ?_; rintro e w1 ⟨v1, rfl, ho1, hb1⟩)
      | (refine app2 sl27 _ rfl (.tmp 18) (.tmp 21) rfl w.heap.size _ _ _ rfl ho1 [_] 1 _ rfl rfl rfl (by intro u hu; simp at hu; subst hu; rfl) (by decide) (by omega) (by omega) hb1.size ?_; intro v2 w2 hA gA hfA; have hB2 := below_own hb1 ho1 gA hb1.size (Nat.le_refl _); obtain ⟨a2, cap2, rfl, hcap2, hmx2, hrd2⟩ := own_reads hA; clear hA gA hfA))
    go_loopw [8, 9] (fun v fv wr => ∃ (fr f : Nat) (out : List Ln), fr ≤ s.size ∧ fv = .int .i64 fr ∧ out ++ rgo s.data.toList n wd f fr = G ∧ s.size ≤ fr + f ∧ out.length ≤ fr ∧
        wr.ownsRow w2.heap.size 36 4 v out.length (lnsV out) ∧ Below w2.heap.size w2 wr) (fun _ fv _ => s.size - (intOf fv).toNat)
    case atStart => exact ⟨0, s.size, [], Nat.zero_le _, rfl, HG.out, by omega, by simp, World.ownsRow_nil _ _ _ _, Below.refl _ _⟩
    case round =>
      obtain ⟨fr, f, out, hfr, rfl, hout, hf, hol, hown, hbw⟩ := hrel
      have HO := Lib.hid hout
      clear hout
      by_cases hlt : fr < s.size
      · obtain ⟨f, rfl⟩ : ∃ g, f = g + 1 := ⟨f - 1, by omega⟩
        obtain ⟨T, hT1, hT2, hT3⟩ := scan_pos s.data.toList n wd fr E (-1) (HLA.out fr hlt) (by omega)
        have hT4 : T ≤ s.size := by have := HE2.out T hT1; omega
        have HT := Lib.hid hT3
        clear hT1 hT3
        rcases hrd2 with ⟨_, h0⟩ | ⟨b2, rfl, hb2, hbb2, hcell2⟩
        · omega
        have HC := Lib.hid hcell2
        clear hcell2
        obtain ⟨wo, rfl⟩ : ∃ wo : World, wo = wr := ⟨_, rfl⟩
        have hwo := hbw.size
        go_wp2_with fail
        go_loopw [10, 11] (fun nv iv wi => ∃ (k : Nat) (nx : Int), k ≤ E.length ∧ iv = .int .i64 k ∧ nv = .int .i64 nx ∧ (-1 ≤ nx ∧ nx ≤ s.size) ∧ scan s.data.toList n wd fr nx (E.drop k) = T ∧ Below wo.heap.size wo wi) (fun _ iv _ => E.length - (intOf iv).toNat)
        case atStart => exact ⟨0, -1, Nat.zero_le _, rfl, rfl, by omega, HT.out, Below.refl _ _⟩
        case round =>
          obtain ⟨k, nx, hk, rfl, rfl, hnx, hsc, hbi⟩ := hrel
          have HS := Lib.hid hsc
          clear hsc
          by_cases hke : k < E.length
          · have hkb : (k : Int) < (breaks s.data.toList).length + 1 := by have := HBK.out; omega
            obtain ⟨e, he⟩ : ∃ e, E[k] = e := ⟨_, rfl⟩
            have hee : e ≤ s.size := by have := HE2.out E[k] (List.getElem_mem hke); omega
            have hd : E.drop k = e :: E.drop (k + 1) := by rw [← he]; exact List.drop_eq_getElem_cons hke
            have HD := Lib.hid hd
            have hbi2 : Below w2.heap.size w2 wr := hbw.trans (hbi.mono hwo)
            have ce : wr.cell? ⟨b2, k, none⟩ = some (.int .i64 (e : Int)) := by
              rw [hbi2.cell (p := ⟨b2, k, none⟩) hbb2, ← he]
              refine HC.out k _ ?_
              rw [HEV.out]
              simp [intV, hke]
            clear hd he
            by_cases hef : e ≤ fr
            · go_wp2_with fail
              go_roundw
              case rel => exact ⟨k + 1, nx, by omega, by go_num, rfl, by omega, by rw [← HS.out, HD.out, scan_skip _ _ _ _ _ _ _ hef], hbi⟩
              case measure => simp [intOf]; omega
            · have hef' : fr < e := by omega
              have cT := fun wx => trim_any s fr e wx (by omega) (by omega) hee
              have h1 := trimTo_le s.data.toList fr e
              have h2 := trimTo_ge s.data.toList fr e (by omega)
              obtain ⟨x, hx⟩ : ∃ x, partL s.data.toList n fr e = x := ⟨_, rfl⟩
              have hx4 : width (sub s.data.toList fr (trimTo s.data.toList fr e)) n = x.2.2.2 := by rw [← hx]; rfl
              obtain ⟨t, ht⟩ : ∃ t, trimTo s.data.toList fr e = t := ⟨_, rfl⟩
              rw [ht] at cT h1 h2 hx4
              have cW : ∀ wx, Calls Tryd.prog 32 #[.string (s.extract fr t), .int .i64 n] wx fun e w' => e = .returned (.int .i64 x.2.2.2) ∧ Below wx.heap.size wx w' := fun wx => by
                have := rwidth_any (s.extract fr t) n wx (by simp only [ByteArray.size_extract]; omega)
                rwa [extract_sub, hx4] at this
              have HX := Lib.hid hx
              have HT2 := Lib.hid cT
              have HW := Lib.hid cW
              clear hx hx4 ht cT cW
              by_cases hn : nx < 0
              · go_wp2_with fail
                go_roundw
                case rel => exact ⟨k + 1, e, by omega, by go_num, rfl, by omega, by rw [← HS.out, HD.out, scan_take _ _ _ _ _ _ _ hef (.inl hn)], hbi⟩
                case measure => simp [intOf]; omega
              · by_cases hx : x.2.2.2 ≤ wd
                · go_wp2_with (first
                    | (go_at_call 24; refine (HT2.out _).mono ?_; rintro e' w3 ⟨rfl, rfl⟩)
                    | (go_at_call 32; refine (HW.out _).mono ?_; rintro e' w4 ⟨rfl, hb4⟩; obtain ⟨kc4, kf4⟩ := bcell hb4; have hzb : b2 < wr.heap.size := (by have := hbi2.size; omega)))
                  go_roundw
                  case rel => exact ⟨k + 1, e, by omega, by go_num, rfl, by omega, by rw [← HS.out, HD.out, scan_take _ _ _ _ _ _ _ hef (.inr (by rw [HX.out]; exact hx))], hbi.trans (hb4.mono hbi.size)⟩
                  case measure => simp [intOf]; omega
                · go_wp2_with (first
                    | (go_at_call 24; refine (HT2.out _).mono ?_; rintro e' w3 ⟨rfl, rfl⟩)
                    | (go_at_call 32; refine (HW.out _).mono ?_; rintro e' w4 ⟨rfl, hb4⟩))
                  go_roundw
                  case rel => exact ⟨k + 1, nx, by omega, by go_num, rfl, by omega, by rw [← HS.out, HD.out, scan_drop _ _ _ _ _ _ _ hef (by rw [HX.out]; omega)], hbi.trans (hb4.mono hbi.size)⟩
                  case measure => simp [intOf]; omega
          · have hkb : ¬ (k : Int) < (breaks s.data.toList).length + 1 := by have := HBK.out; omega
            have hs2 := HS.out
            rw [List.drop_eq_nil_of_le (by omega), scan] at hs2
            subst hs2
            have cT := fun wx => trim_any s fr T wx (by omega) (by omega) hT4
            have h1 := trimTo_le s.data.toList fr T
            have h2 := trimTo_ge s.data.toList fr T (by omega)
            have hp : partL s.data.toList n fr T = (fr, trimTo s.data.toList fr T, T, width (sub s.data.toList fr (trimTo s.data.toList fr T)) n) := rfl
            obtain ⟨t, ht⟩ : ∃ t, trimTo s.data.toList fr T = t := ⟨_, rfl⟩
            obtain ⟨u, hu⟩ : ∃ u, width (sub s.data.toList fr t) n = u := ⟨_, rfl⟩
            rw [ht] at cT h1 h2 hp
            rw [hu] at hp
            have cW : ∀ wx, Calls Tryd.prog 32 #[.string (s.extract fr t), .int .i64 n] wx fun e w' => e = .returned (.int .i64 u) ∧ Below wx.heap.size wx w' := fun wx => by
              have := rwidth_any (s.extract fr t) n wx (by simp only [ByteArray.size_extract]; omega)
              rwa [extract_sub, hu] at this
            have HP := Lib.hid hp
            have HT2 := Lib.hid cT
            have HW := Lib.hid cW
            clear hp ht hu cT cW
            have hbi2 : Below w2.heap.size w2 wr := hbw.trans (hbi.mono hwo)
            go_wp2_with (first
              | (go_at_call 24; refine (HT2.out _).mono ?_; rintro e' w3 ⟨rfl, rfl⟩)
              | (go_at_call 32; refine (HW.out _).mono ?_; rintro e' w4 ⟨rfl, hb4⟩; have hown4 := own_below (own_below hown hbi (Nat.le_refl _)) hb4 (Nat.le_refl _); have hz4 : w2.heap.size ≤ w4.heap.size := (by have := hb4.size; have := hbi2.size; omega))
              | (refine app2 sl32 _ rfl (.tmp 65) (.tmp 76) rfl w2.heap.size _ _ _ rfl hown4 [_, _, _, _] 1 _ rfl rfl rfl (by intro u hu; simp at hu; rcases hu with rfl | rfl | rfl | rfl <;> rfl) (by decide) (by omega) (by omega) hz4 ?_; intro v5 w5 hA5 gA5 hf5))
            go_roundw
            case rel =>
              refine ⟨T, f, out ++ [(fr, t, T, u)], hT4, rfl, ?_, by omega, by simp; omega, by rw [lnsV_snoc, List.length_append]; exact hA5, ?_⟩
              · rw [← HO.out, rgo, if_pos (by omega), HEE.out, HT.out, Int.toNat_natCast, HP.out]
                simp
              · exact below_own (hbi2.trans (hb4.mono (by have := hbi2.size; omega))) hown4 gA5 hz4 (Nat.le_refl _)
            case measure => simp [intOf]; omega
      · have he := HO.out
        have e2 : rgo s.data.toList n wd f fr = [] := by cases f <;> simp [rgo]; omega
        rw [e2, List.append_nil] at he
        have HE := Lib.hid he
        have hz := hB2.size
        clear he e2
        go_wp2_with fail
        go_ret
        rw [← HE.out]
        exact ⟨_, rfl, own_mono hown (by omega), hB2.trans (hbw.mono (by omega))⟩
end Go.Proofs.YtcpklmolofbopaaDoor
