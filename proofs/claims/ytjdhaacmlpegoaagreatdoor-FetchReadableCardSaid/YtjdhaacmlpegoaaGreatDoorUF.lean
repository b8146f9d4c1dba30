/- The code of a byte; a text whose bytes are kept or turned to codes. -/
import Derived.Test.YtjdhaacmlpegoaaGreatDoorUE
import Derived.WalkSmall
namespace Go.Proofs.YtjdhaacmlpegoaaGreatDoor
set_option linter.unusedVariables false
set_option linter.unusedSimpArgs false
open Go.RowKit

def digs : List UInt8 := [48, 49, 50, 51, 52, 53, 54, 55, 56, 57, 65, 66, 67, 68, 69, 70]
def dig (n : Nat) : UInt8 := digs.getD n 0
def pct (b : UInt8) : List UInt8 := [37, dig (b.toNat / 16), dig (b.toNat % 16)]
abbrev digsS : ByteArray := ⟨#[48, 49, 50, 51, 52, 53, 54, 55, 56, 57, 65, 66, 67, 68, 69, 70]⟩
theorem digs_ext (n : Nat) (h : n < 16) : (digsS.extract n (n + 1)).data.toList = [dig n] := by
  rw [ext_list]
  have : ∀ i : Fin 16, (digsS.data.toList.drop i.1).take (i.1 + 1 - i.1) = [dig i.1] := by decide
  exact this ⟨n, h⟩
theorem code_at (x : Int) (q r : Nat) (hq : x / 16 = q) (hr : x % 16 = r) (hq2 : q < 16) (hr2 : r < 16) (hx : 0 ≤ x ∧ x ≤ 255) (w : World) :
    Calls Tryz.prog 204 #[.int .u8 x] w fun e w' => ∃ t : ByteArray, e = .returned (.string t) ∧ t.data.toList = [37, dig q, dig r] ∧ Below w.heap.size w w' := by
  have hqi : (0 : Int) ≤ (q : Int) ∧ (q : Int) < 16 := by omega
  have hri : (0 : Int) ≤ (r : Int) ∧ (r : Int) < 16 := by omega
  have e1 := digs_ext q hq2
  have e2 := digs_ext r hr2
  have z1 : (digsS.extract q (q + 1)).size = 1 := by rw [← size_len, e1]; rfl
  have z2 : (digsS.extract r (r + 1)).size = 1 := by rw [← size_len, e2]; rfl
  obtain ⟨T1, hT1⟩ : ∃ T, digsS.extract q (q + 1) = T := ⟨_, rfl⟩
  obtain ⟨T2, hT2⟩ : ∃ T, digsS.extract r (r + 1) = T := ⟨_, rfl⟩
  rw [hT1] at e1 z1
  rw [hT2] at e2 z2
  unfold digsS at hT1 hT2
  have E1 := Lib.hid e1
  have E2 := Lib.hid e2
  clear e1 e2
  go_enter Tryz.func204, Tryz.ntmps204
  go_wp2_with fail
  go_quiet (fail)
  go_wp2_with fail
  go_ret
  exact ⟨_, rfl, by rw [app_list, app_list, E1.out, E2.out]; rfl, below_drewN (Below.refl _ w) nq⟩
theorem code_any (b : UInt8) (w : World) : Calls Tryz.prog 204 #[.int .u8 b.toNat] w fun e w' => ∃ t : ByteArray, e = .returned (.string t) ∧ t.data.toList = pct b ∧ Below w.heap.size w w' := by
  have h1 := b.toNat_lt
  exact code_at b.toNat (b.toNat / 16) (b.toNat % 16) (by omega) (by omega) (by omega) (by omega) (by omega) w
end Go.Proofs.YtjdhaacmlpegoaaGreatDoor
