/- FetchOrder: closed facts of the row, by the kernel. -/
import Derived.Test.YtjdhaacmlpegoaaGreatDoorCards
import Derived.Test.YtjdhaacmlpegoaaGreatDoorTie
import Derived.ProofKit
import Derived.OpenShut
import Derived.Deep.DeepHandedRow
import Derived.Lay
import Derived.SevenTiedAt
import Derived.LaidOnce
import Derived.MakeChecks
namespace Go.Proofs.YtjdhaacmlpegoaaGreatDoor.fetchOrder
set_option linter.unusedVariables false
set_option linter.unusedSimpArgs false
open Go.ChangeShapes Go.WideShapes Go.ChangeAt Go.RowKit
theorem saidName : Tryz.pinned.checked.prog.funcNamed Rows.fetchOrderRow.func = some 6 := by kernel_rfl
theorem saidFacts : joinedFacts Tryz.pinned.checked.prog 6 Tryz.f6 (OpenSpec.ofChange Rows.fetchOrderSpec).bare Rows.fetchOrderRow = true := by kernel_rfl
theorem saidInst : Tryz.f6.isInstance Tryz.pinned.checked.prog Rows.fetchOrderRow.origin Rows.fetchOrderRow.targs := of_decide_eq_true (by kernel_rfl)
theorem saidWrap : Tryz.f6.isWrapper Tryz.pinned.checked.prog Rows.fetchOrderRow.wrapper Rows.fetchOrderRow.mainSum := by unfold Func.isWrapper; first | (rw [if_pos (by decide +kernel)]; kernel_rfl) | (rw [if_neg (by decide +kernel)]; exact ⟨rfl, rfl⟩)
end Go.Proofs.YtjdhaacmlpegoaaGreatDoor.fetchOrder
