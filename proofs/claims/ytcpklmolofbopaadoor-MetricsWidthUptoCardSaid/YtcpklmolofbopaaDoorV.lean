/- Plain law: what each line of Lines satisfies. -/
import Derived.Test.YtcpklmolofbopaaDoorU
namespace Go.Proofs.YtcpklmolofbopaaDoor
open Go.RowKit

/-- what is said of a line that begins at an offset -/
structure LineOk (l : List UInt8) (n wd : Int) (fr tt nx : Nat) (wi : Int) : Prop where
  h1 : fr ≤ tt
  h2 : tt ≤ nx
  h3 : fr < nx
  h4 : nx ≤ l.length
  hw : wi = width (sub l fr tt) n
  hwhite : ∀ i, tt ≤ i → i < nx → white ((l.getD i 0).toNat : Int) = true
  hin : ∀ b ∈ breaks l, fr < b → b < nx → ¬ wd < wi
  hout : ∀ b ∈ breaks l, nx < b → wd < width (sub l fr (trimTo l fr b)) n
  hb : wi = (partL l n fr nx).2.2.2
  ht : tt = trimTo l fr nx

theorem trimTo_wh (l : List UInt8) (a : Nat) : ∀ b i, trimTo l a b ≤ i → i < b → white ((l.getD i 0).toNat : Int) = true := by
  intro b
  induction b with
  | zero => intro i _ h; omega
  | succ b ih =>
    intro i h1 h2
    by_cases h : a < b + 1 ∧ white ((l.getD b 0).toNat : Int) = true
    · rw [trimTo, if_pos h] at h1
      rcases Nat.lt_or_ge i b with h3 | h3
      · exact ih i h1 h3
      · have : i = b := by omega
        subst this
        exact h.2
    · rw [trimTo, if_neg h] at h1
      omega
theorem line_ok (l : List UInt8) (n wd : Int) (fr : Nat) (h : fr < l.length) (hc : Cut l fr) :
    ∃ nx ∈ ends l, scan l n wd fr (-1) (ends l) = (nx : Int) ∧ LineOk l n wd fr (trimTo l fr nx) nx (width (sub l fr (trimTo l fr nx)) n) := by
  obtain ⟨e, h1, h2, h3⟩ := scan_pos l n wd fr (ends l) (-1) (next_ex l fr h) (by omega)
  refine ⟨e, h1, h3, ?_⟩
  have hb : ∀ b ∈ breaks l, b ∈ ends l := fun b hb => List.mem_append_left _ hb
  refine ⟨trimTo_ge l fr e (by omega), trimTo_le l fr e, h2, ends_le l e h1, rfl, fun i hi hie => trimTo_wh l fr e i hi hie, fun b hbm hfb hbe hx => ?_, fun b hbm heb => ?_, rfl, rfl⟩
  · rcases scan_char l n wd fr (ends l) (-1) (ends_asc l) with h4 | ⟨y, h4, h5, h6, h7⟩
    · rw [h3] at h4; omega
    · have : y = e := by rw [h3] at h6; omega
      subst this
      rcases h7 with h7 | ⟨_, h7⟩
      · have : (partL l n fr y).2.2.2 = width (sub l fr (trimTo l fr y)) n := rfl
        omega
      · have := h7 b (hb b hbm) hfb; omega
  · by_cases h4 : (partL l n fr b).2.2.2 ≤ wd
    · have := scan_ge l n wd fr b (by omega) h4 (ends l) (-1) (ends_asc l) (hb b hbm)
      omega
    · exact Int.not_le.1 h4
theorem rgo_cons (l : List UInt8) (n wd : Int) (f fr : Nat) (h : fr < l.length) (hc : Cut l fr) (hf : l.length ≤ fr + f) :
    ∃ nx tt wi f', LineOk l n wd fr tt nx wi ∧ Cut l nx ∧ l.length ≤ nx + f' ∧ rgo l n wd f fr = (fr, tt, nx, wi) :: rgo l n wd f' nx := by
  cases f with
  | zero => omega
  | succ f =>
    obtain ⟨nx, h1, h2, h3⟩ := line_ok l n wd fr h hc
    refine ⟨nx, _, _, f, h3, ends_cut l nx h1, by have := h3.h3; omega, ?_⟩
    rw [rgo, if_pos h, h2]
    rfl
end Go.Proofs.YtcpklmolofbopaaDoor
