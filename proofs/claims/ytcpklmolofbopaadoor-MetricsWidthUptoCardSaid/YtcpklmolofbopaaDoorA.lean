/- The widths of single characters: walks of the two tables. -/
import Derived.Test.YtcpklmolofbopaaDoorRows
import Derived.WalkKit
import Derived.WalkLawsBesides
import Derived.WalkSpells
import Derived.Lib.Hide
namespace Go.Proofs.YtcpklmolofbopaaDoor
open Go.RowKit

theorem ret_int {k : IntKind} {a b : Int} (h : a = b) : Ending.returned (.int k a) = .returned (.int k b) := by rw [h]

def isNarrow (r : Int) : Bool := r == 32 || r == 160 || r == 33 || r == 39 || r == 44 || r == 46 || r == 58 || r == 59 || r == 73 || r == 105 || r == 106 || r == 108 || r == 124
def isSlim (r : Int) : Bool := r == 34 || r == 40 || r == 41 || r == 42 || r == 45 || r == 47 || r == 91 || r == 92 || r == 93 || r == 94 || r == 102 || r == 114 || r == 116 || r == 123 || r == 125
def isWide (r : Int) : Bool := r == 37 || r == 64 || r == 77 || r == 87 || r == 109 || r == 119
/-- the width of a character in sixteenths -/
def units (r : Int) : Int :=
  if r < 32 ∨ r > 1114111 ∨ (r ≥ 127 ∧ r ≤ 159) ∨ (r ≥ 768 ∧ r ≤ 879) then 0
  else if r ≥ 4352 then 16
  else if isNarrow r then 4
  else if isSlim r then 6
  else if isWide r then 14
  else if r ≥ 65 ∧ r ≤ 90 then 10
  else 8

set_option maxHeartbeats 1000000 in
theorem units_any (r : Int) (w : World) :
    Calls Tryd.prog 13 #[.int .i32 r] w fun e w' => e = .returned (.int .i64 (units r)) ∧ w = w' := by
  go_enter Tryd.func13, Tryd.ntmps13
  go_wp2
  all_goals
    go_ret
    refine ⟨ret_int ?_, rfl⟩
    first
    | (rw [units, if_pos (by omega)]; done)
    | (rw [units, if_neg (by omega), if_pos (by omega)]; done)
    | (rw [units, if_neg (by omega), if_neg (by omega)]; simp only [isNarrow, isSlim, isWide, *, Bool.or_true, Bool.true_or, Bool.or_false, if_true, Bool.false_eq_true, if_false]; first | done | (simp only [ge_iff_le, *, and_self, if_true]; done) | rw [if_neg (by omega)])

end Go.Proofs.YtcpklmolofbopaaDoor
