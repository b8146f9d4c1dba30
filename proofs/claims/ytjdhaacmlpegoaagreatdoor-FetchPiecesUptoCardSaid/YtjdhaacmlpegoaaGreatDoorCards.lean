/-
  DERIVED. GIVEN WITH THE SEED: THE CARDS: each row of YtjdhaacmlpegoaaGreatDoorRows.lean that lists a variable, with what it lists TIED to the program's text (the seventh form; the later family's looks); each row that meets fmt, with fmt's text TOLD by the authors' own Lean function (tested against real Go, not proved from fmt's source: count such statements apart). THE CARD IS WHAT COUNTS. Prove the row's statement (the work); the ties are given (YtjdhaacmlpegoaaGreatDoorTie.lean); close each card by the builder's one call (the guide's Derived/Test/ToyasCard.lean, 'card_holds'). Laid BY PROGRAM, IN A SANDBOX (cutbox-door.mjs). By AI agents, Wed Nov 11 2026. No macro, syntax, notation, axiom, sorry.
-/
import Derived.Test.YtjdhaacmlpegoaaGreatDoorRows
import GoSem.ClaimSeven
namespace Go.Proofs.YtjdhaacmlpegoaaGreatDoor
namespace Rows

/-- THE TIED CARD OF 'knapsacklaw44.FetchCookies'. -/
def fetchCookiesCard : Claim7 := { stood := { row := fetchCookiesRow, standIns := [], harness := (true, "effad283b12a9adcb2164a19d571e147729896e36b478df59e59a58161de7612"), looks := true }, kinds := [], alts := [], laidByText := true, laidKinds := [.data, .data, .data, .data, .sentinel, .sentinel, .pinned], laidTests := true, laidLooks := .later }
def FetchCookiesCardSaid : Prop := Claim7.holds Tryz.pinned (.plain (OpenSpec.ofChange fetchCookiesSpec)) fetchCookiesCard

/-- THE TIED CARD OF 'knapsacklaw44.FetchRuns'. -/
def fetchRunsCard : Claim7 := { stood := { row := fetchRunsRow, standIns := [], harness := (true, "effad283b12a9adcb2164a19d571e147729896e36b478df59e59a58161de7612"), looks := true }, kinds := [], alts := [], laidByText := true, laidKinds := [.data, .data, .data, .data, .sentinel, .sentinel, .pinned], laidTests := true, laidLooks := .later }
def FetchRunsCardSaid : Prop := Claim7.holds Tryz.pinned (.plain (OpenSpec.ofChange fetchRunsSpec)) fetchRunsCard

/-- THE TIED CARD OF 'knapsacklaw44.FetchReadable'. -/
def fetchReadableCard : Claim7 := { stood := { row := fetchReadableRow, standIns := [], harness := (true, "effad283b12a9adcb2164a19d571e147729896e36b478df59e59a58161de7612"), looks := true }, kinds := [], alts := [], laidByText := true, laidKinds := [.data, .data, .data, .data, .sentinel, .sentinel, .pinned], laidTests := true, laidLooks := .later }
def FetchReadableCardSaid : Prop := Claim7.holds Tryz.pinned (.plain (OpenSpec.ofChange fetchReadableSpec)) fetchReadableCard

/-- THE TIED CARD OF 'knapsacklaw44.FetchOrder'. -/
def fetchOrderCard : Claim7 := { stood := { row := fetchOrderRow, standIns := [], harness := (true, "effad283b12a9adcb2164a19d571e147729896e36b478df59e59a58161de7612"), looks := true }, kinds := [], alts := [], laidByText := true, laidKinds := [.data, .data, .data, .data, .sentinel, .sentinel, .pinned], laidTests := true, laidLooks := .later }
def FetchOrderCardSaid : Prop := Claim7.holds Tryz.pinned (.plain (OpenSpec.ofChange fetchOrderSpec)) fetchOrderCard

/-- THE TIED CARD OF 'knapsacklaw44.FetchRedirects'. -/
def fetchRedirectsCard : Claim7 := { stood := { row := fetchRedirectsRow, standIns := [], harness := (true, "effad283b12a9adcb2164a19d571e147729896e36b478df59e59a58161de7612"), looks := true }, kinds := [], alts := [], laidByText := true, laidKinds := [.data, .data, .data, .data, .sentinel, .sentinel, .pinned], laidTests := true, laidLooks := .later }
def FetchRedirectsCardSaid : Prop := Claim7.holds Tryz.pinned (.plain (OpenSpec.ofChange fetchRedirectsSpec)) fetchRedirectsCard

/-- THE TIED CARD OF 'knapsacklaw44.FetchForeign'. -/
def fetchForeignCard : Claim7 := { stood := { row := fetchForeignRow, standIns := [], harness := (true, "effad283b12a9adcb2164a19d571e147729896e36b478df59e59a58161de7612"), looks := true }, kinds := [], alts := [], laidByText := true, laidKinds := [.data, .data, .data, .data, .sentinel, .sentinel, .pinned], laidTests := true, laidLooks := .later }
def FetchForeignCardSaid : Prop := Claim7.holds Tryz.pinned (.plain (OpenSpec.ofChange fetchForeignSpec)) fetchForeignCard

/-- THE TIED CARD OF 'knapsacklaw44.FetchPieces'. -/
def fetchPiecesCard : Claim7 := { stood := { row := fetchPiecesRow, standIns := [], harness := (true, "effad283b12a9adcb2164a19d571e147729896e36b478df59e59a58161de7612"), looks := true }, kinds := [], alts := [], laidByText := true, laidKinds := [.data, .data, .data, .data, .sentinel, .sentinel, .pinned], laidTests := true, laidLooks := .later }
def FetchPiecesCardSaid : Prop := Claim7.holds Tryz.pinned (.plain (OpenSpec.ofChange fetchPiecesSpec)) fetchPiecesCard

/-- THE TIED CARD OF 'knapsacklaw44.FetchFresh'. -/
def fetchFreshCard : Claim7 := { stood := { row := fetchFreshRow, standIns := [], harness := (true, "effad283b12a9adcb2164a19d571e147729896e36b478df59e59a58161de7612"), looks := true }, kinds := [], alts := [], laidByText := true, laidKinds := [.data, .data, .data, .data, .sentinel, .sentinel, .pinned], laidTests := true, laidLooks := .later }
def FetchFreshCardSaid : Prop := Claim7.holds Tryz.pinned (.plain (OpenSpec.ofChange fetchFreshSpec)) fetchFreshCard

/-- THE SECOND FORM's CARD OF 'knapsacklaw44.FetchCookies'. -/
def fetchCookiesUptoCard : Claim7 := { stood := { row := fetchCookiesUptoRow, standIns := [], harness := (true, "effad283b12a9adcb2164a19d571e147729896e36b478df59e59a58161de7612"), looks := true }, kinds := [], alts := [], laidByText := true, laidKinds := [.data, .data, .data, .data, .sentinel, .sentinel, .pinned], laidTests := true, laidLooks := .later }
def FetchCookiesUptoCardSaid : Prop := Claim7.holds Tryz.pinned (.plain (OpenSpec.upto fetchCookiesSpec)) fetchCookiesUptoCard

/-- THE SECOND FORM's CARD OF 'knapsacklaw44.FetchRuns'. -/
def fetchRunsUptoCard : Claim7 := { stood := { row := fetchRunsUptoRow, standIns := [], harness := (true, "effad283b12a9adcb2164a19d571e147729896e36b478df59e59a58161de7612"), looks := true }, kinds := [], alts := [], laidByText := true, laidKinds := [.data, .data, .data, .data, .sentinel, .sentinel, .pinned], laidTests := true, laidLooks := .later }
def FetchRunsUptoCardSaid : Prop := Claim7.holds Tryz.pinned (.plain (OpenSpec.upto fetchRunsSpec)) fetchRunsUptoCard

/-- THE SECOND FORM's CARD OF 'knapsacklaw44.FetchReadable'. -/
def fetchReadableUptoCard : Claim7 := { stood := { row := fetchReadableUptoRow, standIns := [], harness := (true, "effad283b12a9adcb2164a19d571e147729896e36b478df59e59a58161de7612"), looks := true }, kinds := [], alts := [], laidByText := true, laidKinds := [.data, .data, .data, .data, .sentinel, .sentinel, .pinned], laidTests := true, laidLooks := .later }
def FetchReadableUptoCardSaid : Prop := Claim7.holds Tryz.pinned (.plain (OpenSpec.upto fetchReadableSpec)) fetchReadableUptoCard

/-- THE SECOND FORM's CARD OF 'knapsacklaw44.FetchOrder'. -/
def fetchOrderUptoCard : Claim7 := { stood := { row := fetchOrderUptoRow, standIns := [], harness := (true, "effad283b12a9adcb2164a19d571e147729896e36b478df59e59a58161de7612"), looks := true }, kinds := [], alts := [], laidByText := true, laidKinds := [.data, .data, .data, .data, .sentinel, .sentinel, .pinned], laidTests := true, laidLooks := .later }
def FetchOrderUptoCardSaid : Prop := Claim7.holds Tryz.pinned (.plain (OpenSpec.upto fetchOrderSpec)) fetchOrderUptoCard

/-- THE SECOND FORM's CARD OF 'knapsacklaw44.FetchRedirects'. -/
def fetchRedirectsUptoCard : Claim7 := { stood := { row := fetchRedirectsUptoRow, standIns := [], harness := (true, "effad283b12a9adcb2164a19d571e147729896e36b478df59e59a58161de7612"), looks := true }, kinds := [], alts := [], laidByText := true, laidKinds := [.data, .data, .data, .data, .sentinel, .sentinel, .pinned], laidTests := true, laidLooks := .later }
def FetchRedirectsUptoCardSaid : Prop := Claim7.holds Tryz.pinned (.plain (OpenSpec.upto fetchRedirectsSpec)) fetchRedirectsUptoCard

/-- THE SECOND FORM's CARD OF 'knapsacklaw44.FetchForeign'. -/
def fetchForeignUptoCard : Claim7 := { stood := { row := fetchForeignUptoRow, standIns := [], harness := (true, "effad283b12a9adcb2164a19d571e147729896e36b478df59e59a58161de7612"), looks := true }, kinds := [], alts := [], laidByText := true, laidKinds := [.data, .data, .data, .data, .sentinel, .sentinel, .pinned], laidTests := true, laidLooks := .later }
def FetchForeignUptoCardSaid : Prop := Claim7.holds Tryz.pinned (.plain (OpenSpec.upto fetchForeignSpec)) fetchForeignUptoCard

/-- THE SECOND FORM's CARD OF 'knapsacklaw44.FetchPieces'. -/
def fetchPiecesUptoCard : Claim7 := { stood := { row := fetchPiecesUptoRow, standIns := [], harness := (true, "effad283b12a9adcb2164a19d571e147729896e36b478df59e59a58161de7612"), looks := true }, kinds := [], alts := [], laidByText := true, laidKinds := [.data, .data, .data, .data, .sentinel, .sentinel, .pinned], laidTests := true, laidLooks := .later }
def FetchPiecesUptoCardSaid : Prop := Claim7.holds Tryz.pinned (.plain (OpenSpec.upto fetchPiecesSpec)) fetchPiecesUptoCard

/-- THE SECOND FORM's CARD OF 'knapsacklaw44.FetchFresh'. -/
def fetchFreshUptoCard : Claim7 := { stood := { row := fetchFreshUptoRow, standIns := [], harness := (true, "effad283b12a9adcb2164a19d571e147729896e36b478df59e59a58161de7612"), looks := true }, kinds := [], alts := [], laidByText := true, laidKinds := [.data, .data, .data, .data, .sentinel, .sentinel, .pinned], laidTests := true, laidLooks := .later }
def FetchFreshUptoCardSaid : Prop := Claim7.holds Tryz.pinned (.plain (OpenSpec.upto fetchFreshSpec)) fetchFreshUptoCard
end Rows
end Go.Proofs.YtjdhaacmlpegoaaGreatDoor
