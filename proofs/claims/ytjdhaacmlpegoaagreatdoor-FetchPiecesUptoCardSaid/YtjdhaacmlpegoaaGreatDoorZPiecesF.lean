/- FetchPiecesUpto: closed facts of the row, by the kernel. -/
import Derived.Test.YtjdhaacmlpegoaaGreatDoorCards
import Derived.Test.YtjdhaacmlpegoaaGreatDoorTie
import Derived.ProofKit
import Derived.OpenShut
import Derived.Deep.DeepHandedRow
import Derived.Lay
import Derived.SevenTiedAt
import Derived.LaidOnce
import Derived.MakeChecks
namespace Go.Proofs.YtjdhaacmlpegoaaGreatDoor.fetchPiecesUpto
set_option linter.unusedVariables false
set_option linter.unusedSimpArgs false
open Go.ChangeShapes Go.WideShapes Go.ChangeAt Go.RowKit
theorem saidName : Tryz.pinned.checked.prog.funcNamed Rows.fetchPiecesUptoRow.func = some 9 := by kernel_rfl
theorem saidFacts : joinedFacts Tryz.pinned.checked.prog 9 Tryz.f9 (Rows.OpenSpec.upto Rows.fetchPiecesSpec).bare Rows.fetchPiecesUptoRow = true := by kernel_rfl
theorem saidInst : Tryz.f9.isInstance Tryz.pinned.checked.prog Rows.fetchPiecesUptoRow.origin Rows.fetchPiecesUptoRow.targs := of_decide_eq_true (by kernel_rfl)
theorem saidWrap : Tryz.f9.isWrapper Tryz.pinned.checked.prog Rows.fetchPiecesUptoRow.wrapper Rows.fetchPiecesUptoRow.mainSum := by unfold Func.isWrapper; first | (rw [if_pos (by decide +kernel)]; kernel_rfl) | (rw [if_neg (by decide +kernel)]; exact ⟨rfl, rfl⟩)
end Go.Proofs.YtjdhaacmlpegoaaGreatDoor.fetchPiecesUpto
