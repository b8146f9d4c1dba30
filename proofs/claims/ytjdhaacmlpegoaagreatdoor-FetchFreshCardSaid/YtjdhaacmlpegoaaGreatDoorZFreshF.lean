/- FetchFresh: closed facts of the row, by the kernel. -/
import Derived.Test.YtjdhaacmlpegoaaGreatDoorCards
import Derived.Test.YtjdhaacmlpegoaaGreatDoorTie
import Derived.ProofKit
import Derived.OpenShut
import Derived.Deep.DeepHandedRow
import Derived.Lay
import Derived.SevenTiedAt
import Derived.LaidOnce
import Derived.MakeChecks
namespace Go.Proofs.YtjdhaacmlpegoaaGreatDoor.fetchFresh
set_option linter.unusedVariables false
set_option linter.unusedSimpArgs false
open Go.ChangeShapes Go.WideShapes Go.ChangeAt Go.RowKit
theorem saidName : Tryz.pinned.checked.prog.funcNamed Rows.fetchFreshRow.func = some 10 := by kernel_rfl
theorem saidFacts : joinedFacts Tryz.pinned.checked.prog 10 Tryz.f10 (OpenSpec.ofChange Rows.fetchFreshSpec).bare Rows.fetchFreshRow = true := by kernel_rfl
theorem saidInst : Tryz.f10.isInstance Tryz.pinned.checked.prog Rows.fetchFreshRow.origin Rows.fetchFreshRow.targs := of_decide_eq_true (by kernel_rfl)
theorem saidWrap : Tryz.f10.isWrapper Tryz.pinned.checked.prog Rows.fetchFreshRow.wrapper Rows.fetchFreshRow.mainSum := by unfold Func.isWrapper; first | (rw [if_pos (by decide +kernel)]; kernel_rfl) | (rw [if_neg (by decide +kernel)]; exact ⟨rfl, rfl⟩)
end Go.Proofs.YtjdhaacmlpegoaaGreatDoor.fetchFresh
