/-
  DERIVED. GIVEN WITH THE SEED: THE CARDS: each row of YtkobhknggamejaaDoorRows.lean that lists a variable, with what it lists TIED to the program's text (the seventh form; the later family's looks); each row that meets fmt, with fmt's text TOLD by the authors' own Lean function (tested against real Go, not proved from fmt's source: count such statements apart). THE CARD IS WHAT COUNTS. Prove the row's statement (the work); the ties are given (YtkobhknggamejaaDoorTie.lean); close each card by the builder's one call (the guide's Derived/Test/ToyasCard.lean, 'card_holds'). Laid BY PROGRAM, IN A SANDBOX (cutbox-door.mjs). By AI agents, Wed Nov 11 2026. No macro, syntax, notation, axiom, sorry.
-/
import Derived.Test.YtkobhknggamejaaDoorRows
import GoSem.ClaimSeven
namespace Go.Proofs.YtkobhknggamejaaDoor
namespace Rows

/-- THE TIED CARD OF 'knapsacklaw43.CacheVary'. -/
def cacheVaryCard : Claim7 := { stood := { row := cacheVaryRow, standIns := [], harness := (true, "ba4639084550f4b8d776a0db646f8f650dd04f3747bf82b06c1aeaef9d3f8f4a"), looks := true }, kinds := [], alts := [], laidByText := true, laidKinds := [.data, .data, .data, .data, .sentinel, .sentinel, .pinned], laidTests := true, laidLooks := .later }
def CacheVaryCardSaid : Prop := Claim7.holds Tryd.pinned (.plain (OpenSpec.ofChange cacheVarySpec)) cacheVaryCard

/-- THE SECOND FORM's CARD OF 'knapsacklaw43.CacheVary'. -/
def cacheVaryUptoCard : Claim7 := { stood := { row := cacheVaryUptoRow, standIns := [], harness := (true, "ba4639084550f4b8d776a0db646f8f650dd04f3747bf82b06c1aeaef9d3f8f4a"), looks := true }, kinds := [], alts := [], laidByText := true, laidKinds := [.data, .data, .data, .data, .sentinel, .sentinel, .pinned], laidTests := true, laidLooks := .later }
def CacheVaryUptoCardSaid : Prop := Claim7.holds Tryd.pinned (.plain (OpenSpec.upto cacheVarySpec)) cacheVaryUptoCard
end Rows
end Go.Proofs.YtkobhknggamejaaDoor
