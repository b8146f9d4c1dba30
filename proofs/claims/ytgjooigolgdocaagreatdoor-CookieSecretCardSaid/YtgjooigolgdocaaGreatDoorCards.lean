/-
  DERIVED. GIVEN WITH THE SEED: THE CARDS: each row of YtgjooigolgdocaaGreatDoorRows.lean that lists a variable, with what it lists TIED to the program's text (the seventh form; the later family's looks); each row that meets fmt, with fmt's text TOLD by the authors' own Lean function (tested against real Go, not proved from fmt's source: count such statements apart). THE CARD IS WHAT COUNTS. Prove the row's statement (the work); the ties are given (YtgjooigolgdocaaGreatDoorTie.lean); close each card by the builder's one call (the guide's Derived/Test/ToyasCard.lean, 'card_holds'). Laid BY PROGRAM, IN A SANDBOX (cutbox-door.mjs). By AI agents, Wed Nov 11 2026. No macro, syntax, notation, axiom, sorry.
-/
import Derived.Test.YtgjooigolgdocaaGreatDoorRows
import GoSem.ClaimSeven
namespace Go.Proofs.YtgjooigolgdocaaGreatDoor
namespace Rows

/-- THE TIED CARD OF 'knapsacklaw42.CookieParse'. -/
def cookieParseCard : Claim7 := { stood := { row := cookieParseRow, standIns := [], harness := (true, "99fd5ecdcdb5c7c88714466062c460baa959ba63dcc2dbb4e2faba2d6eb00708"), looks := false }, kinds := [], alts := [], laidByText := true, laidKinds := [.data, .pinned], laidTests := true, laidLooks := .later }
def CookieParseCardSaid : Prop := Claim7.holds Tryz.pinned (.plain (OpenSpec.ofChange cookieParseSpec)) cookieParseCard

/-- THE TIED CARD OF 'knapsacklaw42.CookiePlaces'. -/
def cookiePlacesCard : Claim7 := { stood := { row := cookiePlacesRow, standIns := [], harness := (true, "99fd5ecdcdb5c7c88714466062c460baa959ba63dcc2dbb4e2faba2d6eb00708"), looks := false }, kinds := [], alts := [], laidByText := true, laidKinds := [.data, .pinned], laidTests := true, laidLooks := .later }
def CookiePlacesCardSaid : Prop := Claim7.holds Tryz.pinned (.plain (OpenSpec.ofChange cookiePlacesSpec)) cookiePlacesCard

/-- THE TIED CARD OF 'knapsacklaw42.CookieHosts'. -/
def cookieHostsCard : Claim7 := { stood := { row := cookieHostsRow, standIns := [], harness := (true, "99fd5ecdcdb5c7c88714466062c460baa959ba63dcc2dbb4e2faba2d6eb00708"), looks := false }, kinds := [], alts := [], laidByText := true, laidKinds := [.data, .pinned], laidTests := true, laidLooks := .later }
def CookieHostsCardSaid : Prop := Claim7.holds Tryz.pinned (.plain (OpenSpec.ofChange cookieHostsSpec)) cookieHostsCard

/-- THE TIED CARD OF 'knapsacklaw42.CookieMatch'. -/
def cookieMatchCard : Claim7 := { stood := { row := cookieMatchRow, standIns := [], harness := (true, "99fd5ecdcdb5c7c88714466062c460baa959ba63dcc2dbb4e2faba2d6eb00708"), looks := false }, kinds := [], alts := [], laidByText := true, laidKinds := [.data, .pinned], laidTests := true, laidLooks := .later }
def CookieMatchCardSaid : Prop := Claim7.holds Tryz.pinned (.plain (OpenSpec.ofChange cookieMatchSpec)) cookieMatchCard

/-- THE TIED CARD OF 'knapsacklaw42.CookieSecret'. -/
def cookieSecretCard : Claim7 := { stood := { row := cookieSecretRow, standIns := [], harness := (true, "99fd5ecdcdb5c7c88714466062c460baa959ba63dcc2dbb4e2faba2d6eb00708"), looks := false }, kinds := [], alts := [], laidByText := true, laidKinds := [.data, .pinned], laidTests := true, laidLooks := .later }
def CookieSecretCardSaid : Prop := Claim7.holds Tryz.pinned (.plain (OpenSpec.ofChange cookieSecretSpec)) cookieSecretCard

/-- THE TIED CARD OF 'knapsacklaw42.CookieExpire'. -/
def cookieExpireCard : Claim7 := { stood := { row := cookieExpireRow, standIns := [], harness := (true, "99fd5ecdcdb5c7c88714466062c460baa959ba63dcc2dbb4e2faba2d6eb00708"), looks := false }, kinds := [], alts := [], laidByText := true, laidKinds := [.data, .pinned], laidTests := true, laidLooks := .later }
def CookieExpireCardSaid : Prop := Claim7.holds Tryz.pinned (.plain (OpenSpec.ofChange cookieExpireSpec)) cookieExpireCard

/-- THE TIED CARD OF 'knapsacklaw42.CookieSet'. -/
def cookieSetCard : Claim7 := { stood := { row := cookieSetRow, standIns := [], harness := (true, "99fd5ecdcdb5c7c88714466062c460baa959ba63dcc2dbb4e2faba2d6eb00708"), looks := false }, kinds := [], alts := [], laidByText := true, laidKinds := [.data, .pinned], laidTests := true, laidLooks := .later }
def CookieSetCardSaid : Prop := Claim7.holds Tryz.pinned (.plain (OpenSpec.ofChange cookieSetSpec)) cookieSetCard

/-- THE SECOND FORM's CARD OF 'knapsacklaw42.CookieParse'. -/
def cookieParseUptoCard : Claim7 := { stood := { row := cookieParseUptoRow, standIns := [], harness := (true, "99fd5ecdcdb5c7c88714466062c460baa959ba63dcc2dbb4e2faba2d6eb00708"), looks := false }, kinds := [], alts := [], laidByText := true, laidKinds := [.data, .pinned], laidTests := true, laidLooks := .later }
def CookieParseUptoCardSaid : Prop := Claim7.holds Tryz.pinned (.plain (OpenSpec.upto cookieParseSpec)) cookieParseUptoCard

/-- THE SECOND FORM's CARD OF 'knapsacklaw42.CookiePlaces'. -/
def cookiePlacesUptoCard : Claim7 := { stood := { row := cookiePlacesUptoRow, standIns := [], harness := (true, "99fd5ecdcdb5c7c88714466062c460baa959ba63dcc2dbb4e2faba2d6eb00708"), looks := false }, kinds := [], alts := [], laidByText := true, laidKinds := [.data, .pinned], laidTests := true, laidLooks := .later }
def CookiePlacesUptoCardSaid : Prop := Claim7.holds Tryz.pinned (.plain (OpenSpec.upto cookiePlacesSpec)) cookiePlacesUptoCard

/-- THE SECOND FORM's CARD OF 'knapsacklaw42.CookieHosts'. -/
def cookieHostsUptoCard : Claim7 := { stood := { row := cookieHostsUptoRow, standIns := [], harness := (true, "99fd5ecdcdb5c7c88714466062c460baa959ba63dcc2dbb4e2faba2d6eb00708"), looks := false }, kinds := [], alts := [], laidByText := true, laidKinds := [.data, .pinned], laidTests := true, laidLooks := .later }
def CookieHostsUptoCardSaid : Prop := Claim7.holds Tryz.pinned (.plain (OpenSpec.upto cookieHostsSpec)) cookieHostsUptoCard

/-- THE SECOND FORM's CARD OF 'knapsacklaw42.CookieMatch'. -/
def cookieMatchUptoCard : Claim7 := { stood := { row := cookieMatchUptoRow, standIns := [], harness := (true, "99fd5ecdcdb5c7c88714466062c460baa959ba63dcc2dbb4e2faba2d6eb00708"), looks := false }, kinds := [], alts := [], laidByText := true, laidKinds := [.data, .pinned], laidTests := true, laidLooks := .later }
def CookieMatchUptoCardSaid : Prop := Claim7.holds Tryz.pinned (.plain (OpenSpec.upto cookieMatchSpec)) cookieMatchUptoCard

/-- THE SECOND FORM's CARD OF 'knapsacklaw42.CookieSecret'. -/
def cookieSecretUptoCard : Claim7 := { stood := { row := cookieSecretUptoRow, standIns := [], harness := (true, "99fd5ecdcdb5c7c88714466062c460baa959ba63dcc2dbb4e2faba2d6eb00708"), looks := false }, kinds := [], alts := [], laidByText := true, laidKinds := [.data, .pinned], laidTests := true, laidLooks := .later }
def CookieSecretUptoCardSaid : Prop := Claim7.holds Tryz.pinned (.plain (OpenSpec.upto cookieSecretSpec)) cookieSecretUptoCard

/-- THE SECOND FORM's CARD OF 'knapsacklaw42.CookieExpire'. -/
def cookieExpireUptoCard : Claim7 := { stood := { row := cookieExpireUptoRow, standIns := [], harness := (true, "99fd5ecdcdb5c7c88714466062c460baa959ba63dcc2dbb4e2faba2d6eb00708"), looks := false }, kinds := [], alts := [], laidByText := true, laidKinds := [.data, .pinned], laidTests := true, laidLooks := .later }
def CookieExpireUptoCardSaid : Prop := Claim7.holds Tryz.pinned (.plain (OpenSpec.upto cookieExpireSpec)) cookieExpireUptoCard

/-- THE SECOND FORM's CARD OF 'knapsacklaw42.CookieSet'. -/
def cookieSetUptoCard : Claim7 := { stood := { row := cookieSetUptoRow, standIns := [], harness := (true, "99fd5ecdcdb5c7c88714466062c460baa959ba63dcc2dbb4e2faba2d6eb00708"), looks := false }, kinds := [], alts := [], laidByText := true, laidKinds := [.data, .pinned], laidTests := true, laidLooks := .later }
def CookieSetUptoCardSaid : Prop := Claim7.holds Tryz.pinned (.plain (OpenSpec.upto cookieSetSpec)) cookieSetUptoCard
end Rows
end Go.Proofs.YtgjooigolgdocaaGreatDoor
