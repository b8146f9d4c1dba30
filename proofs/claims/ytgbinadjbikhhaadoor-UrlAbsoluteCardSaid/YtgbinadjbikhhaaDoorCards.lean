/-
  DERIVED. GIVEN WITH THE SEED: THE CARDS: each row of YtgbinadjbikhhaaDoorRows.lean that lists a variable, with what it lists TIED to the program's text (the seventh form; the later family's looks); each row that meets fmt, with fmt's text TOLD by the authors' own Lean function (tested against real Go, not proved from fmt's source: count such statements apart). THE CARD IS WHAT COUNTS. Prove the row's statement (the work); the ties are given (YtgbinadjbikhhaaDoorTie.lean); close each card by the builder's one call (the guide's Derived/Test/ToyasCard.lean, 'card_holds'). Laid BY PROGRAM, IN A SANDBOX (cutbox-door.mjs). By AI agents, Wed Nov 11 2026. No macro, syntax, notation, axiom, sorry.
-/
import Derived.Test.YtgbinadjbikhhaaDoorRows
import GoSem.ClaimSeven
namespace Go.Proofs.YtgbinadjbikhhaaDoor
namespace Rows

/-- THE TIED CARD OF 'knapsacklaw41.UrlParse'. -/
def urlParseCard : Claim7 := { stood := { row := urlParseRow, standIns := [], harness := (true, "5a675f5ca3ec9ddfac920832c47935005a8d0366d2af976d7da242b095abecf3"), looks := false }, kinds := [], alts := [], laidByText := true, laidKinds := [.data, .pinned], laidTests := true, laidLooks := .later }
def UrlParseCardSaid : Prop := Claim7.holds Tryd.pinned (.plain (OpenSpec.ofChange urlParseSpec)) urlParseCard

/-- THE TIED CARD OF 'knapsacklaw41.UrlClean'. -/
def urlCleanCard : Claim7 := { stood := { row := urlCleanRow, standIns := [], harness := (true, "5a675f5ca3ec9ddfac920832c47935005a8d0366d2af976d7da242b095abecf3"), looks := false }, kinds := [], alts := [], laidByText := true, laidKinds := [.data, .pinned], laidTests := true, laidLooks := .later }
def UrlCleanCardSaid : Prop := Claim7.holds Tryd.pinned (.plain (OpenSpec.ofChange urlCleanSpec)) urlCleanCard

/-- THE TIED CARD OF 'knapsacklaw41.UrlPrint'. -/
def urlPrintCard : Claim7 := { stood := { row := urlPrintRow, standIns := [], harness := (true, "5a675f5ca3ec9ddfac920832c47935005a8d0366d2af976d7da242b095abecf3"), looks := false }, kinds := [], alts := [], laidByText := true, laidKinds := [.data, .pinned], laidTests := true, laidLooks := .later }
def UrlPrintCardSaid : Prop := Claim7.holds Tryd.pinned (.plain (OpenSpec.ofChange urlPrintSpec)) urlPrintCard

/-- THE TIED CARD OF 'knapsacklaw41.UrlEscape'. -/
def urlEscapeCard : Claim7 := { stood := { row := urlEscapeRow, standIns := [], harness := (true, "5a675f5ca3ec9ddfac920832c47935005a8d0366d2af976d7da242b095abecf3"), looks := false }, kinds := [], alts := [], laidByText := true, laidKinds := [.data, .pinned], laidTests := true, laidLooks := .later }
def UrlEscapeCardSaid : Prop := Claim7.holds Tryd.pinned (.plain (OpenSpec.ofChange urlEscapeSpec)) urlEscapeCard

/-- THE TIED CARD OF 'knapsacklaw41.UrlOrigin'. -/
def urlOriginCard : Claim7 := { stood := { row := urlOriginRow, standIns := [], harness := (true, "5a675f5ca3ec9ddfac920832c47935005a8d0366d2af976d7da242b095abecf3"), looks := false }, kinds := [], alts := [], laidByText := true, laidKinds := [.data, .pinned], laidTests := true, laidLooks := .later }
def UrlOriginCardSaid : Prop := Claim7.holds Tryd.pinned (.plain (OpenSpec.ofChange urlOriginSpec)) urlOriginCard

/-- THE TIED CARD OF 'knapsacklaw41.UrlResolve'. -/
def urlResolveCard : Claim7 := { stood := { row := urlResolveRow, standIns := [], harness := (true, "5a675f5ca3ec9ddfac920832c47935005a8d0366d2af976d7da242b095abecf3"), looks := false }, kinds := [], alts := [], laidByText := true, laidKinds := [.data, .pinned], laidTests := true, laidLooks := .later }
def UrlResolveCardSaid : Prop := Claim7.holds Tryd.pinned (.plain (OpenSpec.ofChange urlResolveSpec)) urlResolveCard

/-- THE TIED CARD OF 'knapsacklaw41.UrlAbsolute'. -/
def urlAbsoluteCard : Claim7 := { stood := { row := urlAbsoluteRow, standIns := [], harness := (true, "5a675f5ca3ec9ddfac920832c47935005a8d0366d2af976d7da242b095abecf3"), looks := false }, kinds := [], alts := [], laidByText := true, laidKinds := [.data, .pinned], laidTests := true, laidLooks := .later }
def UrlAbsoluteCardSaid : Prop := Claim7.holds Tryd.pinned (.plain (OpenSpec.ofChange urlAbsoluteSpec)) urlAbsoluteCard

/-- THE TIED CARD OF 'knapsacklaw41.UrlFields'. -/
def urlFieldsCard : Claim7 := { stood := { row := urlFieldsRow, standIns := [], harness := (true, "5a675f5ca3ec9ddfac920832c47935005a8d0366d2af976d7da242b095abecf3"), looks := false }, kinds := [], alts := [], laidByText := true, laidKinds := [.data, .pinned], laidTests := true, laidLooks := .later }
def UrlFieldsCardSaid : Prop := Claim7.holds Tryd.pinned (.plain (OpenSpec.ofChange urlFieldsSpec)) urlFieldsCard

/-- THE SECOND FORM's CARD OF 'knapsacklaw41.UrlParse'. -/
def urlParseUptoCard : Claim7 := { stood := { row := urlParseUptoRow, standIns := [], harness := (true, "5a675f5ca3ec9ddfac920832c47935005a8d0366d2af976d7da242b095abecf3"), looks := false }, kinds := [], alts := [], laidByText := true, laidKinds := [.data, .pinned], laidTests := true, laidLooks := .later }
def UrlParseUptoCardSaid : Prop := Claim7.holds Tryd.pinned (.plain (OpenSpec.upto urlParseSpec)) urlParseUptoCard

/-- THE SECOND FORM's CARD OF 'knapsacklaw41.UrlClean'. -/
def urlCleanUptoCard : Claim7 := { stood := { row := urlCleanUptoRow, standIns := [], harness := (true, "5a675f5ca3ec9ddfac920832c47935005a8d0366d2af976d7da242b095abecf3"), looks := false }, kinds := [], alts := [], laidByText := true, laidKinds := [.data, .pinned], laidTests := true, laidLooks := .later }
def UrlCleanUptoCardSaid : Prop := Claim7.holds Tryd.pinned (.plain (OpenSpec.upto urlCleanSpec)) urlCleanUptoCard

/-- THE SECOND FORM's CARD OF 'knapsacklaw41.UrlPrint'. -/
def urlPrintUptoCard : Claim7 := { stood := { row := urlPrintUptoRow, standIns := [], harness := (true, "5a675f5ca3ec9ddfac920832c47935005a8d0366d2af976d7da242b095abecf3"), looks := false }, kinds := [], alts := [], laidByText := true, laidKinds := [.data, .pinned], laidTests := true, laidLooks := .later }
def UrlPrintUptoCardSaid : Prop := Claim7.holds Tryd.pinned (.plain (OpenSpec.upto urlPrintSpec)) urlPrintUptoCard

/-- THE SECOND FORM's CARD OF 'knapsacklaw41.UrlEscape'. -/
def urlEscapeUptoCard : Claim7 := { stood := { row := urlEscapeUptoRow, standIns := [], harness := (true, "5a675f5ca3ec9ddfac920832c47935005a8d0366d2af976d7da242b095abecf3"), looks := false }, kinds := [], alts := [], laidByText := true, laidKinds := [.data, .pinned], laidTests := true, laidLooks := .later }
def UrlEscapeUptoCardSaid : Prop := Claim7.holds Tryd.pinned (.plain (OpenSpec.upto urlEscapeSpec)) urlEscapeUptoCard

/-- THE SECOND FORM's CARD OF 'knapsacklaw41.UrlOrigin'. -/
def urlOriginUptoCard : Claim7 := { stood := { row := urlOriginUptoRow, standIns := [], harness := (true, "5a675f5ca3ec9ddfac920832c47935005a8d0366d2af976d7da242b095abecf3"), looks := false }, kinds := [], alts := [], laidByText := true, laidKinds := [.data, .pinned], laidTests := true, laidLooks := .later }
def UrlOriginUptoCardSaid : Prop := Claim7.holds Tryd.pinned (.plain (OpenSpec.upto urlOriginSpec)) urlOriginUptoCard

/-- THE SECOND FORM's CARD OF 'knapsacklaw41.UrlResolve'. -/
def urlResolveUptoCard : Claim7 := { stood := { row := urlResolveUptoRow, standIns := [], harness := (true, "5a675f5ca3ec9ddfac920832c47935005a8d0366d2af976d7da242b095abecf3"), looks := false }, kinds := [], alts := [], laidByText := true, laidKinds := [.data, .pinned], laidTests := true, laidLooks := .later }
def UrlResolveUptoCardSaid : Prop := Claim7.holds Tryd.pinned (.plain (OpenSpec.upto urlResolveSpec)) urlResolveUptoCard

/-- THE SECOND FORM's CARD OF 'knapsacklaw41.UrlAbsolute'. -/
def urlAbsoluteUptoCard : Claim7 := { stood := { row := urlAbsoluteUptoRow, standIns := [], harness := (true, "5a675f5ca3ec9ddfac920832c47935005a8d0366d2af976d7da242b095abecf3"), looks := false }, kinds := [], alts := [], laidByText := true, laidKinds := [.data, .pinned], laidTests := true, laidLooks := .later }
def UrlAbsoluteUptoCardSaid : Prop := Claim7.holds Tryd.pinned (.plain (OpenSpec.upto urlAbsoluteSpec)) urlAbsoluteUptoCard

/-- THE SECOND FORM's CARD OF 'knapsacklaw41.UrlFields'. -/
def urlFieldsUptoCard : Claim7 := { stood := { row := urlFieldsUptoRow, standIns := [], harness := (true, "5a675f5ca3ec9ddfac920832c47935005a8d0366d2af976d7da242b095abecf3"), looks := false }, kinds := [], alts := [], laidByText := true, laidKinds := [.data, .pinned], laidTests := true, laidLooks := .later }
def UrlFieldsUptoCardSaid : Prop := Claim7.holds Tryd.pinned (.plain (OpenSpec.upto urlFieldsSpec)) urlFieldsUptoCard
end Rows
end Go.Proofs.YtgbinadjbikhhaaDoor
