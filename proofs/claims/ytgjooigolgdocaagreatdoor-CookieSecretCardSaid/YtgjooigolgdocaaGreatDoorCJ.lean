/- Cookies: what the walk of the reference's Parse needs; its two early ends. -/
import Derived.Test.YtgjooigolgdocaaGreatDoorG3
namespace Go.Proofs.YtgjooigolgdocaaGreatDoor
set_option linter.unusedVariables false
set_option linter.unusedSimpArgs false
open Go.RowKit

theorem ws61 : wsC 61 = false := by decide
theorem ldrop_mid (a b : List UInt8) : ldrop (a ++ 61 :: b) = ldrop a ++ 61 :: b := by
  unfold ldrop
  rw [List.dropWhile_append]
  split
  · next h =>
    rw [List.dropWhile_cons, if_neg (by simp [ws61])]
    simp only [List.isEmpty_iff] at h
    rw [h]; rfl
  · rfl
theorem rdrop_mid (a b : List UInt8) : rdrop (a ++ 61 :: b) = a ++ 61 :: rdrop b := by
  unfold rdrop
  rw [List.reverse_append, List.reverse_cons, List.append_assoc, List.dropWhile_append]
  split
  · next h =>
    simp only [List.isEmpty_iff] at h
    rw [h, List.singleton_append, List.dropWhile_cons, if_neg (by simp [ws61])]
    simp
  · simp
theorem rdrop_ldrop_idem (l : List UInt8) : ldrop (ldrop l) = ldrop l := by
  unfold ldrop
  have := List.head?_dropWhile_not (p := wsC) (l := l)
  cases h : l.dropWhile wsC with
  | nil => rfl
  | cons b r =>
    rw [h] at this
    simp at this
    rw [List.dropWhile_cons, if_neg (by simp [this])]
theorem rdrop_idem (l : List UInt8) : rdrop (rdrop l) = rdrop l := by
  unfold rdrop
  rw [List.reverse_reverse]
  exact congrArg List.reverse (rdrop_ldrop_idem l.reverse)
theorem trim_ldrop (l : List UInt8) : trimC (ldrop l) = trimC l := by unfold trimC; rw [rdrop_ldrop_idem]
theorem trim_rdrop (l : List UInt8) : trimC (rdrop l) = trimC l := by unfold trimC; rw [trim_comm, rdrop_idem]
theorem trim_trim (l : List UInt8) : trimC (trimC l) = trimC l := by
  show trimC (rdrop (ldrop l)) = _
  rw [trim_rdrop, trim_ldrop]
theorem mem_ws {l : List UInt8} (h : (61 : UInt8) ∉ l) : (61 : UInt8) ∉ trimC l := fun hm => h (by
  unfold trimC rdrop ldrop at hm
  rw [List.mem_reverse] at hm
  exact (List.dropWhile_sublist _).subset (List.mem_reverse.1 ((List.dropWhile_sublist _).subset hm)))
theorem trim_mid (l : List UInt8) (h : (61 : UInt8) ∈ l) : trimC l = ldrop (pre 61 l) ++ 61 :: rdrop (post 61 l) := by
  have e := pre_post 61 l h
  conv => lhs; rw [e]
  unfold trimC
  rw [ldrop_mid, rdrop_mid]
theorem ldrop_no {l : List UInt8} (h : (61 : UInt8) ∉ l) : (61 : UInt8) ∉ ldrop l := fun hm => h ((List.dropWhile_sublist _).subset hm)
theorem pre_app (a b : List UInt8) (h : (61 : UInt8) ∉ a) : pre 61 (a ++ 61 :: b) = a ∧ post 61 (a ++ 61 :: b) = b := by
  have hw : ∀ x ∈ a, (x != 61) = true := fun x hx => by rw [bne_iff_ne]; intro e; exact h (e ▸ hx)
  constructor
  · unfold pre
    rw [List.takeWhile_append_of_pos hw]
    simp
  · unfold post
    rw [List.dropWhile_append_of_pos hw]
    simp
theorem part_pre (l : List UInt8) : trimC (pre 61 (trimC l)) = trimC (pre 61 l) := by
  by_cases h : (61 : UInt8) ∈ l
  · rw [trim_mid l h, (pre_app _ _ (ldrop_no (pre_not 61 l))).1, trim_ldrop]
  · rw [pre_all 61 _ (mem_ws h), pre_all 61 l h, trim_trim]
theorem part_post (l : List UInt8) : trimC (post 61 (trimC l)) = trimC (post 61 l) := by
  by_cases h : (61 : UInt8) ∈ l
  · rw [trim_mid l h, (pre_app _ _ (ldrop_no (pre_not 61 l))).2, trim_rdrop]
  · rw [post_none 61 _ (mem_ws h), post_none 61 l h]
theorem part_mem (l : List UInt8) : ((61 : UInt8) ∈ trimC l) ↔ (61 : UInt8) ∈ l := by
  constructor
  · intro h
    exact Decidable.byContradiction fun h2 => mem_ws h2 h
  · intro h
    rw [trim_mid l h]; simp
theorem pre_lt_iff (l : List UInt8) : (pre 61 l).length < l.length ↔ (61 : UInt8) ∈ l := by
  constructor
  · intro h
    exact Decidable.byContradiction fun h2 => by rw [pre_all 61 l h2] at h; omega
  · intro h
    have e := congrArg List.length (pre_post 61 l h)
    rw [List.length_append, List.length_cons] at e
    omega

theorem rdomq_is (h d : ByteArray) (D : Bool) (hD : domL h.data.toList d.data.toList = D) (w : World) (hh : h.size ≤ 1000000) (hd : d.size ≤ 1000000) :
    Calls Tryz.prog 15 #[.string h, .string d] w fun e w' => e = .returned (.bool D) ∧ w = w' := by
  have := rdomq_any h d w hh hd
  rwa [hD] at this
theorem findc61 (s : ByteArray) (n : Nat) (hn : (pre 61 s.data.toList).length = n) (w : World) (hs : s.size ≤ 1000000) :
    Calls Tryz.prog 47 #[.string s, .int .u8 61] w fun e w' => e = .returned (.int .i64 n) ∧ w = w' := by subst hn; exact find_any 61 s w hs
theorem findc46 (s : ByteArray) (n : Nat) (hn : (pre 46 s.data.toList).length = n) (w : World) (hs : s.size ≤ 1000000) :
    Calls Tryz.prog 47 #[.string s, .int .u8 46] w fun e w' => e = .returned (.int .i64 n) ∧ w = w' := by subst hn; exact find_any 46 s w hs
theorem seg59 (s : ByteArray) (w : World) (hs : s.size ≤ 1000000) :
    Calls Tryz.prog 45 #[.string s, .int .u8 59] w fun e w' => ∃ (g cap : Nat) (ps : List ByteArray), e = .returned (.slice (some ⟨g, 0, none⟩) ps.length cap) ∧ ps.length ≤ cap ∧ cap ≤ maxLen ∧ w.heap.size ≤ g ∧ g < w'.heap.size ∧ (∀ j (h : j < ps.length), w'.cell? ⟨g, j, none⟩ = some (.string ps[j])) ∧ lists ps = segs 59 s.data.toList ∧ Below w.heap.size w w' := by
  refine (segments_any s 59 w hs).mono ?_
  rintro e w' ⟨v, ps, rfl, hown, hps, hb⟩
  obtain ⟨ad, cp, hvs, hcp, hcm, had⟩ := own_reads hown
  subst hvs
  have hpe : ps ≠ [] := fun e => segs_ne 59 s.data.toList (by rw [← hps, e]; rfl)
  rcases had with ⟨rfl, h0⟩ | ⟨g, rfl, hg, hgw, hcell⟩
  · exact absurd (List.eq_nil_of_length_eq_zero h0) hpe
  · exact ⟨g, cp, ps, rfl, hcp, hcm, hg, hgw, fun j h => hcell j _ (by simp [strsV, h]), hps, hb⟩
theorem AtL.but {W W' : World} {k B b : Nat} {vs : List Value} (h : AtL W k vs) (hb : BelowBut B b W W') (hk : k < B) (hkb : k ≠ b) : AtL W' k vs := by
  have hh := hb.block k hk hkb
  exact ⟨Nat.lt_of_lt_of_le h.1 hb.size, fun j v hv => ⟨(World.cell?_of_block (w := W) hh).trans (h.c j hv), (World.frozen?_of_block (w := W) hh).trans (h.f j hv)⟩⟩
theorem MaxAt.but {w w' : World} {B b : Nat} (h : MaxAt w) (hb : BelowBut B b w w') (hB : 0 < B) (hne : 0 ≠ b) : MaxAt w' := by
  obtain ⟨m, hm⟩ := h
  exact ⟨m, (hb.cell (p := ⟨0, 0, none⟩) hB hne).trans hm⟩

/-- whether a byte is a control character, as the walk asks -/
theorem ctl_cases (b : UInt8) : (ctlB b = true ∧ ((b.toNat : Int) < 32 ∧ ¬ (b.toNat : Int) = 9 ∨ ¬ (b.toNat : Int) < 32 ∧ (b.toNat : Int) = 127)) ∨ (ctlB b = false ∧ ((b.toNat : Int) = 9 ∨ ¬ (b.toNat : Int) < 32 ∧ ¬ (b.toNat : Int) = 127)) := by
  rw [ctlB_is]
  unfold ctlN
  by_cases h1 : b.toNat < 32 <;> by_cases h2 : b.toNat = 9 <;> by_cases h3 : b.toNat = 127
  all_goals first
    | (exfalso; omega)
    | (left; refine ⟨by simp [h1, h2, h3], ?_⟩; omega)
    | (right; refine ⟨by simp [h1, h2, h3], ?_⟩; omega)
theorem ctl_snoc (s : ByteArray) (k : Nat) (h : k < s.size) : (s.data.toList.take (k + 1)).any ctlB = ((s.data.toList.take k).any ctlB || ctlB s[k]) := by
  rw [take_snoc' s k h, List.any_append]; simp
theorem ctl_found (s : ByteArray) (k : Nat) (h : k < s.size) (hc : ctlB s[k] = true) : ctlL s.data.toList = true := by
  unfold ctlL
  rw [List.any_eq_true]
  exact ⟨s[k], List.drop_subset k _ (by rw [drop_at s k h]; exact List.mem_cons_self), hc⟩
theorem ctl_none (s : ByteArray) (h : (s.data.toList.take s.size).any ctlB = false) : ctlL s.data.toList = false := by
  rwa [List.take_of_length_le (by rw [size_len]; exact Nat.le_refl _)] at h
end Go.Proofs.YtgjooigolgdocaaGreatDoor
