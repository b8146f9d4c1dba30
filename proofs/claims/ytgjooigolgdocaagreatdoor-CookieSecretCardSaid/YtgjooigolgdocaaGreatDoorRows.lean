/-
  NARROWER THAN 'FOR EVERY INPUT', by the rows' own cells (each row's printed sentence says how): CookieParse: laid · CookiePlaces: laid · CookieHosts: laid · CookieMatch: laid · CookieSecret: laid · CookieExpire: laid · CookieSet: laid.
  DERIVED. THE GIVEN ROWS OF THIS SEAT. 7 by the template 'for every input the law returns true; each argument reads behind the call as it read before'; 0 by the template 'total and deterministic' (their statements: YtgjooigolgdocaaGreatDoorTotals.lean).
  GIVEN WITH THE SEED: the statements are not yours to turn. If you find one false, say at which input.
  Laid BY PROGRAM, IN A SANDBOX (cutbox-rows.mjs): the forced cells as the released guide's own fill.sh prints them over the translation c7b072d45fd6043c… (all of the seat's roots in one cut). By AI agents, Wed Nov 11 2026. No macro, syntax, notation, axiom, sorry.
-/
import Derived.Test.YtgjooigolgdocaaGreatDoorChecked
import GoSem.PinnedTables
import GoSem.Claim
import GoSem.ClaimJoined
import GoSem.ClaimMapViews
import Derived.JoinedTies
import Derived.KernelRfl
namespace Go.Proofs.YtgjooigolgdocaaGreatDoor
/- THE CELL 'sum', in the pinned program and in every row, IS THE sha256 OF THE DUMP (.gsa) THAT YtgjooigolgdocaaGreatDoorProg.lean LOADS. Nothing in Lean hashes anything: it is a label: what it is worth is what the hold of that sum in a sandbox is worth. -/
noncomputable def Tryz.pinned : Pinned := { name := "ytgjooigolgdocaagreatdoor", sum := "c7b072d45fd6043cbad28d864649ccd68ff32de5ec04afd3fe7b14802d9ccbad", checked := Tryz.checked }
namespace Rows
def none {H : Type} : Left H := { results := [], args := [] }

/- WHAT THE LISTED PACKAGE-LEVEL VARIABLES READ AS WHEN THE CALL BEGINS. Each datum BY PROGRAM (the guide's laid-datum.mjs) off the statement by which the dump's own 'gosem.cut.vars' lays the variable. In a bare row this is a premise. The card (YtgjooigolgdocaaGreatDoorCards.lean) ties it to the program's text. -/
def laid_unicode_utf8_acceptRanges {H : Type} : DataW H := .agg [.agg [.lit (.int .u8 128), .lit (.int .u8 191)], .agg [.lit (.int .u8 160), .lit (.int .u8 191)], .agg [.lit (.int .u8 128), .lit (.int .u8 159)], .agg [.lit (.int .u8 144), .lit (.int .u8 191)], .agg [.lit (.int .u8 128), .lit (.int .u8 143)], .agg [.lit (.int .u8 0), .lit (.int .u8 0)], .agg [.lit (.int .u8 0), .lit (.int .u8 0)], .agg [.lit (.int .u8 0), .lit (.int .u8 0)], .agg [.lit (.int .u8 0), .lit (.int .u8 0)], .agg [.lit (.int .u8 0), .lit (.int .u8 0)], .agg [.lit (.int .u8 0), .lit (.int .u8 0)], .agg [.lit (.int .u8 0), .lit (.int .u8 0)], .agg [.lit (.int .u8 0), .lit (.int .u8 0)], .agg [.lit (.int .u8 0), .lit (.int .u8 0)], .agg [.lit (.int .u8 0), .lit (.int .u8 0)], .agg [.lit (.int .u8 0), .lit (.int .u8 0)]]
/-- One of Go's own tables, pinned by name: the form's constant. -/
def laid_unicode_utf8_first : DataW Unit := Go.Pinned.utf8First

/-- 'knapsacklaw42.CookieParse': WHATEVER THE INPUT: true; the input reads as it did. -/
def cookieParseSpec : ChangeSpec := { name := "cookieParse", fn := fun _ => fun
  | [d1, d2] => { results := [.lit (.bool true)], args := [d1, d2] }
  | _ => none }
def cookieParseRow : OpenClaim := { program := "ytgjooigolgdocaagreatdoor", sum := "c7b072d45fd6043cbad28d864649ccd68ff32de5ec04afd3fe7b14802d9ccbad", func := "knapsack/knapsacklaw42.CookieParse", spec := "cookieParse", inPlace := ["internal/bytealg.IndexByteString", "internal/bytealg.IndexString", "internal/abi.NoEscape", "internal/bytealg.CountString", "internal/bytealg.MakeNoZero"], unfollowed := true, recurses := true, named := ["internal/bytealg.MaxLen", "unicode/utf8.first", "unicode/utf8.acceptRanges"], apart := false, laid := [("unicode/utf8.acceptRanges", laid_unicode_utf8_acceptRanges), ("unicode/utf8.first", laid_unicode_utf8_first)] }
def CookieParseSaid : Prop := cookieParseRow.holds Tryz.pinned (OpenSpec.ofChange cookieParseSpec)

/-- ITS FALSE NEIGHBOUR: 'it returns false'. Refute it at one input. -/
def cookieParseWrong : ChangeSpec := { name := "cookieParse", fn := fun _ => fun
  | [d1, d2] => { results := [.lit (.bool false)], args := [d1, d2] }
  | _ => none }
def CookieParseWrongFalsely : Prop := cookieParseRow.holds Tryz.pinned (OpenSpec.ofChange cookieParseWrong)

/-- 'knapsacklaw42.CookiePlaces': WHATEVER THE INPUT: true; the input reads as it did. -/
def cookiePlacesSpec : ChangeSpec := { name := "cookiePlaces", fn := fun _ => fun
  | [d1, d2] => { results := [.lit (.bool true)], args := [d1, d2] }
  | _ => none }
def cookiePlacesRow : OpenClaim := { program := "ytgjooigolgdocaagreatdoor", sum := "c7b072d45fd6043cbad28d864649ccd68ff32de5ec04afd3fe7b14802d9ccbad", func := "knapsack/knapsacklaw42.CookiePlaces", spec := "cookiePlaces", inPlace := ["internal/bytealg.IndexByteString", "internal/bytealg.IndexString", "internal/abi.NoEscape", "internal/bytealg.CountString", "internal/bytealg.MakeNoZero"], unfollowed := true, recurses := true, named := ["internal/bytealg.MaxLen", "unicode/utf8.first", "unicode/utf8.acceptRanges"], apart := false, laid := [("unicode/utf8.acceptRanges", laid_unicode_utf8_acceptRanges), ("unicode/utf8.first", laid_unicode_utf8_first)] }
def CookiePlacesSaid : Prop := cookiePlacesRow.holds Tryz.pinned (OpenSpec.ofChange cookiePlacesSpec)

/-- ITS FALSE NEIGHBOUR: 'it returns false'. Refute it at one input. -/
def cookiePlacesWrong : ChangeSpec := { name := "cookiePlaces", fn := fun _ => fun
  | [d1, d2] => { results := [.lit (.bool false)], args := [d1, d2] }
  | _ => none }
def CookiePlacesWrongFalsely : Prop := cookiePlacesRow.holds Tryz.pinned (OpenSpec.ofChange cookiePlacesWrong)

/-- 'knapsacklaw42.CookieHosts': WHATEVER THE INPUT: true; the input reads as it did. -/
def cookieHostsSpec : ChangeSpec := { name := "cookieHosts", fn := fun _ => fun
  | [d1, d2, d3] => { results := [.lit (.bool true)], args := [d1, d2, d3] }
  | _ => none }
def cookieHostsRow : OpenClaim := { program := "ytgjooigolgdocaagreatdoor", sum := "c7b072d45fd6043cbad28d864649ccd68ff32de5ec04afd3fe7b14802d9ccbad", func := "knapsack/knapsacklaw42.CookieHosts", spec := "cookieHosts", inPlace := ["internal/bytealg.IndexByteString", "internal/bytealg.IndexString", "internal/abi.NoEscape", "internal/bytealg.CountString", "internal/bytealg.MakeNoZero"], unfollowed := true, recurses := true, named := ["internal/bytealg.MaxLen", "unicode/utf8.first", "unicode/utf8.acceptRanges"], apart := false, laid := [("unicode/utf8.acceptRanges", laid_unicode_utf8_acceptRanges), ("unicode/utf8.first", laid_unicode_utf8_first)] }
def CookieHostsSaid : Prop := cookieHostsRow.holds Tryz.pinned (OpenSpec.ofChange cookieHostsSpec)

/-- ITS FALSE NEIGHBOUR: 'it returns false'. Refute it at one input. -/
def cookieHostsWrong : ChangeSpec := { name := "cookieHosts", fn := fun _ => fun
  | [d1, d2, d3] => { results := [.lit (.bool false)], args := [d1, d2, d3] }
  | _ => none }
def CookieHostsWrongFalsely : Prop := cookieHostsRow.holds Tryz.pinned (OpenSpec.ofChange cookieHostsWrong)

/-- 'knapsacklaw42.CookieMatch': WHATEVER THE INPUT: true; the input reads as it did. -/
def cookieMatchSpec : ChangeSpec := { name := "cookieMatch", fn := fun _ => fun
  | [d1, d2] => { results := [.lit (.bool true)], args := [d1, d2] }
  | _ => none }
def cookieMatchRow : OpenClaim := { program := "ytgjooigolgdocaagreatdoor", sum := "c7b072d45fd6043cbad28d864649ccd68ff32de5ec04afd3fe7b14802d9ccbad", func := "knapsack/knapsacklaw42.CookieMatch", spec := "cookieMatch", inPlace := ["internal/bytealg.IndexByteString", "internal/bytealg.IndexString", "internal/abi.NoEscape", "internal/bytealg.CountString", "internal/bytealg.MakeNoZero"], unfollowed := true, recurses := true, named := ["internal/bytealg.MaxLen", "unicode/utf8.first", "unicode/utf8.acceptRanges"], apart := false, laid := [("unicode/utf8.acceptRanges", laid_unicode_utf8_acceptRanges), ("unicode/utf8.first", laid_unicode_utf8_first)] }
def CookieMatchSaid : Prop := cookieMatchRow.holds Tryz.pinned (OpenSpec.ofChange cookieMatchSpec)

/-- ITS FALSE NEIGHBOUR: 'it returns false'. Refute it at one input. -/
def cookieMatchWrong : ChangeSpec := { name := "cookieMatch", fn := fun _ => fun
  | [d1, d2] => { results := [.lit (.bool false)], args := [d1, d2] }
  | _ => none }
def CookieMatchWrongFalsely : Prop := cookieMatchRow.holds Tryz.pinned (OpenSpec.ofChange cookieMatchWrong)

/-- 'knapsacklaw42.CookieSecret': WHATEVER THE INPUT: true; the input reads as it did. -/
def cookieSecretSpec : ChangeSpec := { name := "cookieSecret", fn := fun _ => fun
  | [d1, d2] => { results := [.lit (.bool true)], args := [d1, d2] }
  | _ => none }
def cookieSecretRow : OpenClaim := { program := "ytgjooigolgdocaagreatdoor", sum := "c7b072d45fd6043cbad28d864649ccd68ff32de5ec04afd3fe7b14802d9ccbad", func := "knapsack/knapsacklaw42.CookieSecret", spec := "cookieSecret", inPlace := ["internal/bytealg.IndexByteString", "internal/bytealg.IndexString", "internal/abi.NoEscape", "internal/bytealg.CountString", "internal/bytealg.MakeNoZero"], unfollowed := true, recurses := true, named := ["internal/bytealg.MaxLen", "unicode/utf8.first", "unicode/utf8.acceptRanges"], apart := false, laid := [("unicode/utf8.acceptRanges", laid_unicode_utf8_acceptRanges), ("unicode/utf8.first", laid_unicode_utf8_first)] }
def CookieSecretSaid : Prop := cookieSecretRow.holds Tryz.pinned (OpenSpec.ofChange cookieSecretSpec)

/-- ITS FALSE NEIGHBOUR: 'it returns false'. Refute it at one input. -/
def cookieSecretWrong : ChangeSpec := { name := "cookieSecret", fn := fun _ => fun
  | [d1, d2] => { results := [.lit (.bool false)], args := [d1, d2] }
  | _ => none }
def CookieSecretWrongFalsely : Prop := cookieSecretRow.holds Tryz.pinned (OpenSpec.ofChange cookieSecretWrong)

/-- 'knapsacklaw42.CookieExpire': WHATEVER THE INPUT: true; the input reads as it did. -/
def cookieExpireSpec : ChangeSpec := { name := "cookieExpire", fn := fun _ => fun
  | [d1, d2] => { results := [.lit (.bool true)], args := [d1, d2] }
  | _ => none }
def cookieExpireRow : OpenClaim := { program := "ytgjooigolgdocaagreatdoor", sum := "c7b072d45fd6043cbad28d864649ccd68ff32de5ec04afd3fe7b14802d9ccbad", func := "knapsack/knapsacklaw42.CookieExpire", spec := "cookieExpire", inPlace := ["internal/bytealg.IndexByteString", "internal/bytealg.IndexString", "internal/abi.NoEscape", "internal/bytealg.CountString", "internal/bytealg.MakeNoZero"], unfollowed := true, recurses := true, named := ["internal/bytealg.MaxLen", "unicode/utf8.first", "unicode/utf8.acceptRanges"], apart := false, laid := [("unicode/utf8.acceptRanges", laid_unicode_utf8_acceptRanges), ("unicode/utf8.first", laid_unicode_utf8_first)] }
def CookieExpireSaid : Prop := cookieExpireRow.holds Tryz.pinned (OpenSpec.ofChange cookieExpireSpec)

/-- ITS FALSE NEIGHBOUR: 'it returns false'. Refute it at one input. -/
def cookieExpireWrong : ChangeSpec := { name := "cookieExpire", fn := fun _ => fun
  | [d1, d2] => { results := [.lit (.bool false)], args := [d1, d2] }
  | _ => none }
def CookieExpireWrongFalsely : Prop := cookieExpireRow.holds Tryz.pinned (OpenSpec.ofChange cookieExpireWrong)

/-- 'knapsacklaw42.CookieSet': WHATEVER THE INPUT: true; the input reads as it did. -/
def cookieSetSpec : ChangeSpec := { name := "cookieSet", fn := fun _ => fun
  | [d1, d2, d3] => { results := [.lit (.bool true)], args := [d1, d2, d3] }
  | _ => none }
def cookieSetRow : OpenClaim := { program := "ytgjooigolgdocaagreatdoor", sum := "c7b072d45fd6043cbad28d864649ccd68ff32de5ec04afd3fe7b14802d9ccbad", func := "knapsack/knapsacklaw42.CookieSet", spec := "cookieSet", inPlace := ["internal/bytealg.IndexByteString", "internal/bytealg.IndexString", "internal/abi.NoEscape", "internal/bytealg.CountString", "internal/bytealg.MakeNoZero"], unfollowed := true, recurses := true, named := ["internal/bytealg.MaxLen", "unicode/utf8.first", "unicode/utf8.acceptRanges"], apart := false, laid := [("unicode/utf8.acceptRanges", laid_unicode_utf8_acceptRanges), ("unicode/utf8.first", laid_unicode_utf8_first)] }
def CookieSetSaid : Prop := cookieSetRow.holds Tryz.pinned (OpenSpec.ofChange cookieSetSpec)

/-- ITS FALSE NEIGHBOUR: 'it returns false'. Refute it at one input. -/
def cookieSetWrong : ChangeSpec := { name := "cookieSet", fn := fun _ => fun
  | [d1, d2, d3] => { results := [.lit (.bool false)], args := [d1, d2, d3] }
  | _ => none }
def CookieSetWrongFalsely : Prop := cookieSetRow.holds Tryz.pinned (OpenSpec.ofChange cookieSetWrong)

/- THE SECOND FORM. 'bulk': how many values and letters a reading holds, each counted each time it is reached (what is shared counts as often as it is met; a slice's spare places count too). A statement '..UptoSaid' is the law's where the arguments, and the package variables that the reading takes, are together of bulk at most 1048576: NARROWER than '..Said'. Prove '..Said' where nothing that the law and all that it calls make is longer than what came in: it says more and counts as full. Else prove '..UptoSaid'. A law counts once. -/
mutual
def uptoBulk {H : Type} : DataW H → Nat
  | .lit (.string bytes) => bytes.length + 1
  | .lit _ => 1
  | .nil => 1
  | .ptr d => uptoBulk d + 1
  | .slice elems spare => uptoBulkAll elems + uptoBulkAll spare + 1
  | .agg parts => uptoBulkAll parts + 1
  | .iface _ d => uptoBulk d + 1
  | .map entries => uptoBulkEntries entries + 1
  | .held _ => 1
def uptoBulkAll {H : Type} : List (DataW H) → Nat
  | [] => 0
  | d :: r => uptoBulk d + uptoBulkAll r
def uptoBulkEntries {H : Type} : List (Lit × DataW H) → Nat
  | [] => 0
  | x :: r => uptoBulkEntry x + uptoBulkEntries r
def uptoBulkEntry {H : Type} : Lit × DataW H → Nat
  | (.string bytes, d) => bytes.length + uptoBulk d + 1
  | (_, d) => uptoBulk d + 1
 end
def uptoSmall : (H : Type) → List (DataW H) → Bool := fun _ ds => decide (uptoBulkAll ds ≤ 1048576)
def OpenSpec.upto (s : _root_.Go.ChangeSpec) : _root_.Go.OpenSpec := { _root_.Go.OpenSpec.ofChange s with cond := some uptoSmall }

/-- 'knapsacklaw42.CookieParse', WHERE WHAT IT READS IS OF BULK AT MOST 1048576: true; the input reads as it did. -/
def cookieParseUptoRow : OpenClaim := { program := "ytgjooigolgdocaagreatdoor", sum := "c7b072d45fd6043cbad28d864649ccd68ff32de5ec04afd3fe7b14802d9ccbad", func := "knapsack/knapsacklaw42.CookieParse", spec := "cookieParse", inPlace := ["internal/bytealg.IndexByteString", "internal/bytealg.IndexString", "internal/abi.NoEscape", "internal/bytealg.CountString", "internal/bytealg.MakeNoZero"], unfollowed := true, recurses := true, named := ["internal/bytealg.MaxLen", "unicode/utf8.first", "unicode/utf8.acceptRanges"], apart := false, laid := [("unicode/utf8.acceptRanges", laid_unicode_utf8_acceptRanges), ("unicode/utf8.first", laid_unicode_utf8_first)], narrowed := true }
def CookieParseUptoSaid : Prop := cookieParseUptoRow.holds Tryz.pinned (OpenSpec.upto cookieParseSpec)

/-- 'knapsacklaw42.CookiePlaces', WHERE WHAT IT READS IS OF BULK AT MOST 1048576: true; the input reads as it did. -/
def cookiePlacesUptoRow : OpenClaim := { program := "ytgjooigolgdocaagreatdoor", sum := "c7b072d45fd6043cbad28d864649ccd68ff32de5ec04afd3fe7b14802d9ccbad", func := "knapsack/knapsacklaw42.CookiePlaces", spec := "cookiePlaces", inPlace := ["internal/bytealg.IndexByteString", "internal/bytealg.IndexString", "internal/abi.NoEscape", "internal/bytealg.CountString", "internal/bytealg.MakeNoZero"], unfollowed := true, recurses := true, named := ["internal/bytealg.MaxLen", "unicode/utf8.first", "unicode/utf8.acceptRanges"], apart := false, laid := [("unicode/utf8.acceptRanges", laid_unicode_utf8_acceptRanges), ("unicode/utf8.first", laid_unicode_utf8_first)], narrowed := true }
def CookiePlacesUptoSaid : Prop := cookiePlacesUptoRow.holds Tryz.pinned (OpenSpec.upto cookiePlacesSpec)

/-- 'knapsacklaw42.CookieHosts', WHERE WHAT IT READS IS OF BULK AT MOST 1048576: true; the input reads as it did. -/
def cookieHostsUptoRow : OpenClaim := { program := "ytgjooigolgdocaagreatdoor", sum := "c7b072d45fd6043cbad28d864649ccd68ff32de5ec04afd3fe7b14802d9ccbad", func := "knapsack/knapsacklaw42.CookieHosts", spec := "cookieHosts", inPlace := ["internal/bytealg.IndexByteString", "internal/bytealg.IndexString", "internal/abi.NoEscape", "internal/bytealg.CountString", "internal/bytealg.MakeNoZero"], unfollowed := true, recurses := true, named := ["internal/bytealg.MaxLen", "unicode/utf8.first", "unicode/utf8.acceptRanges"], apart := false, laid := [("unicode/utf8.acceptRanges", laid_unicode_utf8_acceptRanges), ("unicode/utf8.first", laid_unicode_utf8_first)], narrowed := true }
def CookieHostsUptoSaid : Prop := cookieHostsUptoRow.holds Tryz.pinned (OpenSpec.upto cookieHostsSpec)

/-- 'knapsacklaw42.CookieMatch', WHERE WHAT IT READS IS OF BULK AT MOST 1048576: true; the input reads as it did. -/
def cookieMatchUptoRow : OpenClaim := { program := "ytgjooigolgdocaagreatdoor", sum := "c7b072d45fd6043cbad28d864649ccd68ff32de5ec04afd3fe7b14802d9ccbad", func := "knapsack/knapsacklaw42.CookieMatch", spec := "cookieMatch", inPlace := ["internal/bytealg.IndexByteString", "internal/bytealg.IndexString", "internal/abi.NoEscape", "internal/bytealg.CountString", "internal/bytealg.MakeNoZero"], unfollowed := true, recurses := true, named := ["internal/bytealg.MaxLen", "unicode/utf8.first", "unicode/utf8.acceptRanges"], apart := false, laid := [("unicode/utf8.acceptRanges", laid_unicode_utf8_acceptRanges), ("unicode/utf8.first", laid_unicode_utf8_first)], narrowed := true }
def CookieMatchUptoSaid : Prop := cookieMatchUptoRow.holds Tryz.pinned (OpenSpec.upto cookieMatchSpec)

/-- 'knapsacklaw42.CookieSecret', WHERE WHAT IT READS IS OF BULK AT MOST 1048576: true; the input reads as it did. -/
def cookieSecretUptoRow : OpenClaim := { program := "ytgjooigolgdocaagreatdoor", sum := "c7b072d45fd6043cbad28d864649ccd68ff32de5ec04afd3fe7b14802d9ccbad", func := "knapsack/knapsacklaw42.CookieSecret", spec := "cookieSecret", inPlace := ["internal/bytealg.IndexByteString", "internal/bytealg.IndexString", "internal/abi.NoEscape", "internal/bytealg.CountString", "internal/bytealg.MakeNoZero"], unfollowed := true, recurses := true, named := ["internal/bytealg.MaxLen", "unicode/utf8.first", "unicode/utf8.acceptRanges"], apart := false, laid := [("unicode/utf8.acceptRanges", laid_unicode_utf8_acceptRanges), ("unicode/utf8.first", laid_unicode_utf8_first)], narrowed := true }
def CookieSecretUptoSaid : Prop := cookieSecretUptoRow.holds Tryz.pinned (OpenSpec.upto cookieSecretSpec)

/-- 'knapsacklaw42.CookieExpire', WHERE WHAT IT READS IS OF BULK AT MOST 1048576: true; the input reads as it did. -/
def cookieExpireUptoRow : OpenClaim := { program := "ytgjooigolgdocaagreatdoor", sum := "c7b072d45fd6043cbad28d864649ccd68ff32de5ec04afd3fe7b14802d9ccbad", func := "knapsack/knapsacklaw42.CookieExpire", spec := "cookieExpire", inPlace := ["internal/bytealg.IndexByteString", "internal/bytealg.IndexString", "internal/abi.NoEscape", "internal/bytealg.CountString", "internal/bytealg.MakeNoZero"], unfollowed := true, recurses := true, named := ["internal/bytealg.MaxLen", "unicode/utf8.first", "unicode/utf8.acceptRanges"], apart := false, laid := [("unicode/utf8.acceptRanges", laid_unicode_utf8_acceptRanges), ("unicode/utf8.first", laid_unicode_utf8_first)], narrowed := true }
def CookieExpireUptoSaid : Prop := cookieExpireUptoRow.holds Tryz.pinned (OpenSpec.upto cookieExpireSpec)

/-- 'knapsacklaw42.CookieSet', WHERE WHAT IT READS IS OF BULK AT MOST 1048576: true; the input reads as it did. -/
def cookieSetUptoRow : OpenClaim := { program := "ytgjooigolgdocaagreatdoor", sum := "c7b072d45fd6043cbad28d864649ccd68ff32de5ec04afd3fe7b14802d9ccbad", func := "knapsack/knapsacklaw42.CookieSet", spec := "cookieSet", inPlace := ["internal/bytealg.IndexByteString", "internal/bytealg.IndexString", "internal/abi.NoEscape", "internal/bytealg.CountString", "internal/bytealg.MakeNoZero"], unfollowed := true, recurses := true, named := ["internal/bytealg.MaxLen", "unicode/utf8.first", "unicode/utf8.acceptRanges"], apart := false, laid := [("unicode/utf8.acceptRanges", laid_unicode_utf8_acceptRanges), ("unicode/utf8.first", laid_unicode_utf8_first)], narrowed := true }
def CookieSetUptoSaid : Prop := cookieSetUptoRow.holds Tryz.pinned (OpenSpec.upto cookieSetSpec)

end Rows
end Go.Proofs.YtgjooigolgdocaaGreatDoor
