/-
  DERIVED. GIVEN WITH THE SEED: THE CARDS: each row of YtkobhknggamejaaGreatDoorRows.lean that lists a variable, with what it lists TIED to the program's text (the seventh form; the later family's looks); each row that meets fmt, with fmt's text TOLD by the authors' own Lean function (tested against real Go, not proved from fmt's source: count such statements apart). THE CARD IS WHAT COUNTS. Prove the row's statement (the work); the ties are given (YtkobhknggamejaaGreatDoorTie.lean); close each card by the builder's one call (the guide's Derived/Test/ToyasCard.lean, 'card_holds'). Laid BY PROGRAM, IN A SANDBOX (cutbox-door.mjs). By AI agents, Wed Nov 11 2026. No macro, syntax, notation, axiom, sorry.
-/
import Derived.Test.YtkobhknggamejaaGreatDoorRows
import GoSem.ClaimSeven
namespace Go.Proofs.YtkobhknggamejaaGreatDoor
namespace Rows

/-- THE TIED CARD OF 'knapsacklaw43.CacheHeaders'. -/
def cacheHeadersCard : Claim7 := { stood := { row := cacheHeadersRow, standIns := [], harness := (true, "7611ef098775afbbb78a004bcf6d5630f5b0622b6c074246002b4e7fcb0a3d21"), looks := true }, kinds := [], alts := [], laidByText := true, laidKinds := [.data, .data, .data, .data, .sentinel, .sentinel, .pinned], laidTests := true, laidLooks := .later }
def CacheHeadersCardSaid : Prop := Claim7.holds Tryz.pinned (.plain (OpenSpec.ofChange cacheHeadersSpec)) cacheHeadersCard

/-- THE TIED CARD OF 'knapsacklaw43.CacheAsk'. -/
def cacheAskCard : Claim7 := { stood := { row := cacheAskRow, standIns := [], harness := (true, "7611ef098775afbbb78a004bcf6d5630f5b0622b6c074246002b4e7fcb0a3d21"), looks := true }, kinds := [], alts := [], laidByText := true, laidKinds := [.data, .data, .data, .data, .sentinel, .sentinel, .pinned], laidTests := true, laidLooks := .later }
def CacheAskCardSaid : Prop := Claim7.holds Tryz.pinned (.plain (OpenSpec.ofChange cacheAskSpec)) cacheAskCard

/-- THE TIED CARD OF 'knapsacklaw43.CachePut'. -/
def cachePutCard : Claim7 := { stood := { row := cachePutRow, standIns := [], harness := (true, "7611ef098775afbbb78a004bcf6d5630f5b0622b6c074246002b4e7fcb0a3d21"), looks := true }, kinds := [], alts := [], laidByText := true, laidKinds := [.data, .data, .data, .data, .sentinel, .sentinel, .pinned], laidTests := true, laidLooks := .later }
def CachePutCardSaid : Prop := Claim7.holds Tryz.pinned (.plain (OpenSpec.ofChange cachePutSpec)) cachePutCard

/-- THE TIED CARD OF 'knapsacklaw43.CacheUse'. -/
def cacheUseCard : Claim7 := { stood := { row := cacheUseRow, standIns := [], harness := (true, "7611ef098775afbbb78a004bcf6d5630f5b0622b6c074246002b4e7fcb0a3d21"), looks := true }, kinds := [], alts := [], laidByText := true, laidKinds := [.data, .data, .data, .data, .sentinel, .sentinel, .pinned], laidTests := true, laidLooks := .later }
def CacheUseCardSaid : Prop := Claim7.holds Tryz.pinned (.plain (OpenSpec.ofChange cacheUseSpec)) cacheUseCard

/-- THE TIED CARD OF 'knapsacklaw43.CacheOne'. -/
def cacheOneCard : Claim7 := { stood := { row := cacheOneRow, standIns := [], harness := (true, "7611ef098775afbbb78a004bcf6d5630f5b0622b6c074246002b4e7fcb0a3d21"), looks := true }, kinds := [], alts := [], laidByText := true, laidKinds := [.data, .data, .data, .data, .sentinel, .sentinel, .pinned], laidTests := true, laidLooks := .later }
def CacheOneCardSaid : Prop := Claim7.holds Tryz.pinned (.plain (OpenSpec.ofChange cacheOneSpec)) cacheOneCard

/-- THE TIED CARD OF 'knapsacklaw43.CacheDrop'. -/
def cacheDropCard : Claim7 := { stood := { row := cacheDropRow, standIns := [], harness := (true, "7611ef098775afbbb78a004bcf6d5630f5b0622b6c074246002b4e7fcb0a3d21"), looks := true }, kinds := [], alts := [], laidByText := true, laidKinds := [.data, .data, .data, .data, .sentinel, .sentinel, .pinned], laidTests := true, laidLooks := .later }
def CacheDropCardSaid : Prop := Claim7.holds Tryz.pinned (.plain (OpenSpec.ofChange cacheDropSpec)) cacheDropCard

/-- THE TIED CARD OF 'knapsacklaw43.CacheConfirm'. -/
def cacheConfirmCard : Claim7 := { stood := { row := cacheConfirmRow, standIns := [], harness := (true, "7611ef098775afbbb78a004bcf6d5630f5b0622b6c074246002b4e7fcb0a3d21"), looks := true }, kinds := [], alts := [], laidByText := true, laidKinds := [.data, .data, .data, .data, .sentinel, .sentinel, .pinned], laidTests := true, laidLooks := .later }
def CacheConfirmCardSaid : Prop := Claim7.holds Tryz.pinned (.plain (OpenSpec.ofChange cacheConfirmSpec)) cacheConfirmCard

/-- THE SECOND FORM's CARD OF 'knapsacklaw43.CacheHeaders'. -/
def cacheHeadersUptoCard : Claim7 := { stood := { row := cacheHeadersUptoRow, standIns := [], harness := (true, "7611ef098775afbbb78a004bcf6d5630f5b0622b6c074246002b4e7fcb0a3d21"), looks := true }, kinds := [], alts := [], laidByText := true, laidKinds := [.data, .data, .data, .data, .sentinel, .sentinel, .pinned], laidTests := true, laidLooks := .later }
def CacheHeadersUptoCardSaid : Prop := Claim7.holds Tryz.pinned (.plain (OpenSpec.upto cacheHeadersSpec)) cacheHeadersUptoCard

/-- THE SECOND FORM's CARD OF 'knapsacklaw43.CacheAsk'. -/
def cacheAskUptoCard : Claim7 := { stood := { row := cacheAskUptoRow, standIns := [], harness := (true, "7611ef098775afbbb78a004bcf6d5630f5b0622b6c074246002b4e7fcb0a3d21"), looks := true }, kinds := [], alts := [], laidByText := true, laidKinds := [.data, .data, .data, .data, .sentinel, .sentinel, .pinned], laidTests := true, laidLooks := .later }
def CacheAskUptoCardSaid : Prop := Claim7.holds Tryz.pinned (.plain (OpenSpec.upto cacheAskSpec)) cacheAskUptoCard

/-- THE SECOND FORM's CARD OF 'knapsacklaw43.CachePut'. -/
def cachePutUptoCard : Claim7 := { stood := { row := cachePutUptoRow, standIns := [], harness := (true, "7611ef098775afbbb78a004bcf6d5630f5b0622b6c074246002b4e7fcb0a3d21"), looks := true }, kinds := [], alts := [], laidByText := true, laidKinds := [.data, .data, .data, .data, .sentinel, .sentinel, .pinned], laidTests := true, laidLooks := .later }
def CachePutUptoCardSaid : Prop := Claim7.holds Tryz.pinned (.plain (OpenSpec.upto cachePutSpec)) cachePutUptoCard

/-- THE SECOND FORM's CARD OF 'knapsacklaw43.CacheUse'. -/
def cacheUseUptoCard : Claim7 := { stood := { row := cacheUseUptoRow, standIns := [], harness := (true, "7611ef098775afbbb78a004bcf6d5630f5b0622b6c074246002b4e7fcb0a3d21"), looks := true }, kinds := [], alts := [], laidByText := true, laidKinds := [.data, .data, .data, .data, .sentinel, .sentinel, .pinned], laidTests := true, laidLooks := .later }
def CacheUseUptoCardSaid : Prop := Claim7.holds Tryz.pinned (.plain (OpenSpec.upto cacheUseSpec)) cacheUseUptoCard

/-- THE SECOND FORM's CARD OF 'knapsacklaw43.CacheOne'. -/
def cacheOneUptoCard : Claim7 := { stood := { row := cacheOneUptoRow, standIns := [], harness := (true, "7611ef098775afbbb78a004bcf6d5630f5b0622b6c074246002b4e7fcb0a3d21"), looks := true }, kinds := [], alts := [], laidByText := true, laidKinds := [.data, .data, .data, .data, .sentinel, .sentinel, .pinned], laidTests := true, laidLooks := .later }
def CacheOneUptoCardSaid : Prop := Claim7.holds Tryz.pinned (.plain (OpenSpec.upto cacheOneSpec)) cacheOneUptoCard

/-- THE SECOND FORM's CARD OF 'knapsacklaw43.CacheDrop'. -/
def cacheDropUptoCard : Claim7 := { stood := { row := cacheDropUptoRow, standIns := [], harness := (true, "7611ef098775afbbb78a004bcf6d5630f5b0622b6c074246002b4e7fcb0a3d21"), looks := true }, kinds := [], alts := [], laidByText := true, laidKinds := [.data, .data, .data, .data, .sentinel, .sentinel, .pinned], laidTests := true, laidLooks := .later }
def CacheDropUptoCardSaid : Prop := Claim7.holds Tryz.pinned (.plain (OpenSpec.upto cacheDropSpec)) cacheDropUptoCard

/-- THE SECOND FORM's CARD OF 'knapsacklaw43.CacheConfirm'. -/
def cacheConfirmUptoCard : Claim7 := { stood := { row := cacheConfirmUptoRow, standIns := [], harness := (true, "7611ef098775afbbb78a004bcf6d5630f5b0622b6c074246002b4e7fcb0a3d21"), looks := true }, kinds := [], alts := [], laidByText := true, laidKinds := [.data, .data, .data, .data, .sentinel, .sentinel, .pinned], laidTests := true, laidLooks := .later }
def CacheConfirmUptoCardSaid : Prop := Claim7.holds Tryz.pinned (.plain (OpenSpec.upto cacheConfirmSpec)) cacheConfirmUptoCard
end Rows
end Go.Proofs.YtkobhknggamejaaGreatDoor
