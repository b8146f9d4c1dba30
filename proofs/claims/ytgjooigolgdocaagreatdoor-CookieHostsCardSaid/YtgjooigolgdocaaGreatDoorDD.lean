/- Cookies: what holds of the cookie that a field sets (plain). -/
import Derived.Test.YtgjooigolgdocaaGreatDoorCF
namespace Go.Proofs.YtgjooigolgdocaaGreatDoor
set_option linter.unusedVariables false
set_option linter.unusedSimpArgs false
open Go.RowKit

theorem defpL_len' (l : List UInt8) : (defpL l).length ≤ l.length + 1 := by
  unfold defpL
  split
  · simp
  · unfold befL
    rw [List.length_reverse, List.length_drop]
    have := (List.dropWhile_sublist (p := (· != (47 : UInt8))) (l := l.reverse)).length_le
    rw [List.length_reverse] at this
    omega
/-- what stays true of a cookie while the parts are read -/
structure GoodC (host path : ByteArray) (n : Nat) (c : Ck) : Prop where
  hho : c.ho = true → c.d = host
  hd : c.d.size ≤ n + host.size
  hp : c.p.size ≤ n + path.size
  hn : c.n.size ≤ n
  hv : c.v.size ≤ n
theorem attr_good (host path : ByteArray) (now : Int) (n : Nat) (c : Ck) (name value : List UInt8) (h : GoodC host path n c) (hv : value.length ≤ n) : GoodC host path n (attrC host path now c name value) := by
  obtain ⟨h1, h2, h3, h4, h5⟩ := h
  unfold attrC
  split
  · split
    · exact ⟨h1, h2, h3, h4, h5⟩
    · exact ⟨h1, h2, h3, h4, h5⟩
  · split
    · split
      · exact ⟨fun _ => rfl, Nat.le_add_left _ _, h3, h4, h5⟩
      · refine ⟨fun h => (by cases h), ?_, h3, h4, h5⟩
        show (bs _).size ≤ _
        rw [bs_size, low_len]
        have := undot_len value
        omega
    · split
      · refine ⟨h1, h2, ?_, h4, h5⟩
        show ByteArray.size (if _ then _ else _) ≤ _
        split
        · rw [bs_size]; omega
        · omega
      · split
        · exact ⟨h1, h2, h3, h4, h5⟩
        · split
          · exact ⟨h1, h2, h3, h4, h5⟩
          · exact ⟨h1, h2, h3, h4, h5⟩
theorem fold_good (host path : ByteArray) (now : Int) (n : Nat) : ∀ (ps : List (List UInt8)) (c : Ck), (∀ p ∈ ps, p.length ≤ n) → GoodC host path n c → GoodC host path n (ps.foldl (stepC host path now) c) := by
  intro ps
  induction ps with
  | nil => intro c _ h; exact h
  | cons p ps ih =>
    intro c hp h
    refine ih _ (fun q hq => hp q (List.mem_cons_of_mem _ hq)) (attr_good host path now n c _ _ h ?_)
    have h1 := trimC_len (post 61 p)
    have h2 := post_len' 61 p
    have h3 := hp p (by simp)
    omega
theorem ck0_bad {c : Ck} {e : Int} (he : e ≠ 0) (h : (ck0, e) = (c, (0 : Int))) : False := he (congrArg Prod.snd h)
/-- the cookie that Parse gives -/
theorem parse_good (field : List UInt8) (T : Bool) (scheme host path : ByteArray) (now : Int) (c : Ck) (h : parseC field T scheme host path now = (c, 0)) :
    T = true ∧ domL host.data.toList c.d.data.toList = true ∧ GoodC host (bs (defpL path.data.toList)) field.length c := by
  unfold parseC at h
  split at h
  · exact (ck0_bad (by decide) h).elim
  · rename_i hT
    split at h
    · exact (ck0_bad (by decide) h).elim
    · rename_i p0 ps hseg
      split at h
      · exact (ck0_bad (by decide) h).elim
      · have hlen : ∀ p ∈ p0 :: ps, p.length ≤ field.length := by rw [← hseg]; exact segs_len 59 field
        have hg := fold_good host (bs (defpL path.data.toList)) now field.length ps (firstC host (bs (defpL path.data.toList)) p0) (fun p hp => hlen p (List.mem_cons_of_mem _ hp)) (by
          have h0 := hlen p0 (by simp)
          have h1 := trimC_len (pre 61 p0)
          have h2 := pre_len' 61 p0
          have h3 := trimC_len (post 61 p0)
          have h4 := post_len' 61 p0
          exact ⟨fun _ => rfl, Nat.le_add_left _ _, Nat.le_add_left _ _, by show (bs _).size ≤ _; rw [bs_size]; omega, by show (bs _).size ≤ _; rw [bs_size]; omega⟩)
        unfold lastC at h
        split at h
        · exact (ck0_bad (by decide) h).elim
        · rename_i hd
          split at h
          · exact (ck0_bad (by decide) h).elim
          · injection h with h _
            rw [h] at hg hd
            refine ⟨by simpa using hT, ?_, hg⟩
            cases hD : domL host.data.toList c.d.data.toList with
            | true => rfl
            | false => exact absurd (Or.inl hD) hd
end Go.Proofs.YtgjooigolgdocaaGreatDoor
