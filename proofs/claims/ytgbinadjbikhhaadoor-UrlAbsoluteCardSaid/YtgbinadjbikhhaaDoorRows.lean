/-
  NARROWER THAN 'FOR EVERY INPUT', by the rows' own cells (each row's printed sentence says how): UrlParse: laid · UrlClean: laid · UrlPrint: laid · UrlEscape: laid · UrlOrigin: laid · UrlResolve: laid · UrlAbsolute: laid · UrlFields: laid.
  DERIVED. THE GIVEN ROWS OF THIS SEAT. 8 by the template 'for every input the law returns true; each argument reads behind the call as it read before'; 0 by the template 'total and deterministic' (their statements: YtgbinadjbikhhaaDoorTotals.lean).
  GIVEN WITH THE SEED: the statements are not yours to turn. If you find one false, say at which input.
  Laid BY PROGRAM, IN A SANDBOX (cutbox-rows.mjs): the forced cells as the released guide's own fill.sh prints them over the translation 333e723f936ea87c… (all of the seat's roots in one cut). By AI agents, Wed Nov 11 2026. No macro, syntax, notation, axiom, sorry.
-/
import Derived.Test.YtgbinadjbikhhaaDoorChecked
import GoSem.PinnedTables
import GoSem.Claim
import GoSem.ClaimJoined
import GoSem.ClaimMapViews
import Derived.JoinedTies
import Derived.KernelRfl
namespace Go.Proofs.YtgbinadjbikhhaaDoor
/- THE CELL 'sum', in the pinned program and in every row, IS THE sha256 OF THE DUMP (.gsa) THAT YtgbinadjbikhhaaDoorProg.lean LOADS. Nothing in Lean hashes anything: it is a label: what it is worth is what the hold of that sum in a sandbox is worth. -/
noncomputable def Tryd.pinned : Pinned := { name := "ytgbinadjbikhhaadoor", sum := "333e723f936ea87c5c9f2e7a251df8a36b21fd98ea75d6059a578e97247ec78c", checked := Tryd.checked }
namespace Rows
def none {H : Type} : Left H := { results := [], args := [] }

/- WHAT THE LISTED PACKAGE-LEVEL VARIABLES READ AS WHEN THE CALL BEGINS. Each datum BY PROGRAM (the guide's laid-datum.mjs) off the statement by which the dump's own 'gosem.cut.vars' lays the variable. In a bare row this is a premise. The card (YtgbinadjbikhhaaDoorCards.lean) ties it to the program's text. -/
def laid_unicode_utf8_acceptRanges {H : Type} : DataW H := .agg [.agg [.lit (.int .u8 128), .lit (.int .u8 191)], .agg [.lit (.int .u8 160), .lit (.int .u8 191)], .agg [.lit (.int .u8 128), .lit (.int .u8 159)], .agg [.lit (.int .u8 144), .lit (.int .u8 191)], .agg [.lit (.int .u8 128), .lit (.int .u8 143)], .agg [.lit (.int .u8 0), .lit (.int .u8 0)], .agg [.lit (.int .u8 0), .lit (.int .u8 0)], .agg [.lit (.int .u8 0), .lit (.int .u8 0)], .agg [.lit (.int .u8 0), .lit (.int .u8 0)], .agg [.lit (.int .u8 0), .lit (.int .u8 0)], .agg [.lit (.int .u8 0), .lit (.int .u8 0)], .agg [.lit (.int .u8 0), .lit (.int .u8 0)], .agg [.lit (.int .u8 0), .lit (.int .u8 0)], .agg [.lit (.int .u8 0), .lit (.int .u8 0)], .agg [.lit (.int .u8 0), .lit (.int .u8 0)], .agg [.lit (.int .u8 0), .lit (.int .u8 0)]]
/-- One of Go's own tables, pinned by name: the form's constant. -/
def laid_unicode_utf8_first : DataW Unit := Go.Pinned.utf8First

/-- 'knapsacklaw41.UrlParse': WHATEVER THE INPUT: true; the input reads as it did. -/
def urlParseSpec : ChangeSpec := { name := "urlParse", fn := fun _ => fun
  | [d] => { results := [.lit (.bool true)], args := [d] }
  | _ => none }
def urlParseRow : OpenClaim := { program := "ytgbinadjbikhhaadoor", sum := "333e723f936ea87c5c9f2e7a251df8a36b21fd98ea75d6059a578e97247ec78c", func := "knapsack/knapsacklaw41.UrlParse", spec := "urlParse", inPlace := ["internal/bytealg.IndexByteString", "internal/bytealg.IndexString", "internal/abi.NoEscape", "internal/bytealg.CountString", "internal/bytealg.MakeNoZero"], named := ["internal/bytealg.MaxLen", "unicode/utf8.first", "unicode/utf8.acceptRanges"], apart := false, laid := [("unicode/utf8.acceptRanges", laid_unicode_utf8_acceptRanges), ("unicode/utf8.first", laid_unicode_utf8_first)] }
def UrlParseSaid : Prop := urlParseRow.holds Tryd.pinned (OpenSpec.ofChange urlParseSpec)

/-- ITS FALSE NEIGHBOUR: 'it returns false'. Refute it at one input. -/
def urlParseWrong : ChangeSpec := { name := "urlParse", fn := fun _ => fun
  | [d] => { results := [.lit (.bool false)], args := [d] }
  | _ => none }
def UrlParseWrongFalsely : Prop := urlParseRow.holds Tryd.pinned (OpenSpec.ofChange urlParseWrong)

/-- 'knapsacklaw41.UrlClean': WHATEVER THE INPUT: true; the input reads as it did. -/
def urlCleanSpec : ChangeSpec := { name := "urlClean", fn := fun _ => fun
  | [d] => { results := [.lit (.bool true)], args := [d] }
  | _ => none }
def urlCleanRow : OpenClaim := { program := "ytgbinadjbikhhaadoor", sum := "333e723f936ea87c5c9f2e7a251df8a36b21fd98ea75d6059a578e97247ec78c", func := "knapsack/knapsacklaw41.UrlClean", spec := "urlClean", inPlace := ["internal/bytealg.IndexByteString", "internal/bytealg.IndexString", "internal/abi.NoEscape", "internal/bytealg.CountString", "internal/bytealg.MakeNoZero"], named := ["internal/bytealg.MaxLen", "unicode/utf8.first", "unicode/utf8.acceptRanges"], apart := false, laid := [("unicode/utf8.acceptRanges", laid_unicode_utf8_acceptRanges), ("unicode/utf8.first", laid_unicode_utf8_first)] }
def UrlCleanSaid : Prop := urlCleanRow.holds Tryd.pinned (OpenSpec.ofChange urlCleanSpec)

/-- ITS FALSE NEIGHBOUR: 'it returns false'. Refute it at one input. -/
def urlCleanWrong : ChangeSpec := { name := "urlClean", fn := fun _ => fun
  | [d] => { results := [.lit (.bool false)], args := [d] }
  | _ => none }
def UrlCleanWrongFalsely : Prop := urlCleanRow.holds Tryd.pinned (OpenSpec.ofChange urlCleanWrong)

/-- 'knapsacklaw41.UrlPrint': WHATEVER THE INPUT: true; the input reads as it did. -/
def urlPrintSpec : ChangeSpec := { name := "urlPrint", fn := fun _ => fun
  | [d1, d2] => { results := [.lit (.bool true)], args := [d1, d2] }
  | _ => none }
def urlPrintRow : OpenClaim := { program := "ytgbinadjbikhhaadoor", sum := "333e723f936ea87c5c9f2e7a251df8a36b21fd98ea75d6059a578e97247ec78c", func := "knapsack/knapsacklaw41.UrlPrint", spec := "urlPrint", inPlace := ["internal/bytealg.IndexByteString", "internal/bytealg.IndexString", "internal/abi.NoEscape", "internal/bytealg.CountString", "internal/bytealg.MakeNoZero"], named := ["internal/bytealg.MaxLen", "unicode/utf8.first", "unicode/utf8.acceptRanges"], apart := false, laid := [("unicode/utf8.acceptRanges", laid_unicode_utf8_acceptRanges), ("unicode/utf8.first", laid_unicode_utf8_first)] }
def UrlPrintSaid : Prop := urlPrintRow.holds Tryd.pinned (OpenSpec.ofChange urlPrintSpec)

/-- ITS FALSE NEIGHBOUR: 'it returns false'. Refute it at one input. -/
def urlPrintWrong : ChangeSpec := { name := "urlPrint", fn := fun _ => fun
  | [d1, d2] => { results := [.lit (.bool false)], args := [d1, d2] }
  | _ => none }
def UrlPrintWrongFalsely : Prop := urlPrintRow.holds Tryd.pinned (OpenSpec.ofChange urlPrintWrong)

/-- 'knapsacklaw41.UrlEscape': WHATEVER THE INPUT: true; the input reads as it did. -/
def urlEscapeSpec : ChangeSpec := { name := "urlEscape", fn := fun _ => fun
  | [d1, d2] => { results := [.lit (.bool true)], args := [d1, d2] }
  | _ => none }
def urlEscapeRow : OpenClaim := { program := "ytgbinadjbikhhaadoor", sum := "333e723f936ea87c5c9f2e7a251df8a36b21fd98ea75d6059a578e97247ec78c", func := "knapsack/knapsacklaw41.UrlEscape", spec := "urlEscape", inPlace := ["internal/bytealg.IndexByteString", "internal/bytealg.IndexString", "internal/abi.NoEscape", "internal/bytealg.CountString", "internal/bytealg.MakeNoZero"], named := ["internal/bytealg.MaxLen", "unicode/utf8.first", "unicode/utf8.acceptRanges"], apart := false, laid := [("unicode/utf8.acceptRanges", laid_unicode_utf8_acceptRanges), ("unicode/utf8.first", laid_unicode_utf8_first)] }
def UrlEscapeSaid : Prop := urlEscapeRow.holds Tryd.pinned (OpenSpec.ofChange urlEscapeSpec)

/-- ITS FALSE NEIGHBOUR: 'it returns false'. Refute it at one input. -/
def urlEscapeWrong : ChangeSpec := { name := "urlEscape", fn := fun _ => fun
  | [d1, d2] => { results := [.lit (.bool false)], args := [d1, d2] }
  | _ => none }
def UrlEscapeWrongFalsely : Prop := urlEscapeRow.holds Tryd.pinned (OpenSpec.ofChange urlEscapeWrong)

/-- 'knapsacklaw41.UrlOrigin': WHATEVER THE INPUT: true; the input reads as it did. -/
def urlOriginSpec : ChangeSpec := { name := "urlOrigin", fn := fun _ => fun
  | [d1, d2] => { results := [.lit (.bool true)], args := [d1, d2] }
  | _ => none }
def urlOriginRow : OpenClaim := { program := "ytgbinadjbikhhaadoor", sum := "333e723f936ea87c5c9f2e7a251df8a36b21fd98ea75d6059a578e97247ec78c", func := "knapsack/knapsacklaw41.UrlOrigin", spec := "urlOrigin", inPlace := ["internal/bytealg.IndexByteString", "internal/bytealg.IndexString", "internal/abi.NoEscape", "internal/bytealg.CountString", "internal/bytealg.MakeNoZero"], named := ["internal/bytealg.MaxLen", "unicode/utf8.first", "unicode/utf8.acceptRanges"], apart := false, laid := [("unicode/utf8.acceptRanges", laid_unicode_utf8_acceptRanges), ("unicode/utf8.first", laid_unicode_utf8_first)] }
def UrlOriginSaid : Prop := urlOriginRow.holds Tryd.pinned (OpenSpec.ofChange urlOriginSpec)

/-- ITS FALSE NEIGHBOUR: 'it returns false'. Refute it at one input. -/
def urlOriginWrong : ChangeSpec := { name := "urlOrigin", fn := fun _ => fun
  | [d1, d2] => { results := [.lit (.bool false)], args := [d1, d2] }
  | _ => none }
def UrlOriginWrongFalsely : Prop := urlOriginRow.holds Tryd.pinned (OpenSpec.ofChange urlOriginWrong)

/-- 'knapsacklaw41.UrlResolve': WHATEVER THE INPUT: true; the input reads as it did. -/
def urlResolveSpec : ChangeSpec := { name := "urlResolve", fn := fun _ => fun
  | [d1, d2] => { results := [.lit (.bool true)], args := [d1, d2] }
  | _ => none }
def urlResolveRow : OpenClaim := { program := "ytgbinadjbikhhaadoor", sum := "333e723f936ea87c5c9f2e7a251df8a36b21fd98ea75d6059a578e97247ec78c", func := "knapsack/knapsacklaw41.UrlResolve", spec := "urlResolve", inPlace := ["internal/bytealg.IndexByteString", "internal/bytealg.IndexString", "internal/abi.NoEscape", "internal/bytealg.CountString", "internal/bytealg.MakeNoZero"], named := ["internal/bytealg.MaxLen", "unicode/utf8.first", "unicode/utf8.acceptRanges"], apart := false, laid := [("unicode/utf8.acceptRanges", laid_unicode_utf8_acceptRanges), ("unicode/utf8.first", laid_unicode_utf8_first)] }
def UrlResolveSaid : Prop := urlResolveRow.holds Tryd.pinned (OpenSpec.ofChange urlResolveSpec)

/-- ITS FALSE NEIGHBOUR: 'it returns false'. Refute it at one input. -/
def urlResolveWrong : ChangeSpec := { name := "urlResolve", fn := fun _ => fun
  | [d1, d2] => { results := [.lit (.bool false)], args := [d1, d2] }
  | _ => none }
def UrlResolveWrongFalsely : Prop := urlResolveRow.holds Tryd.pinned (OpenSpec.ofChange urlResolveWrong)

/-- 'knapsacklaw41.UrlAbsolute': WHATEVER THE INPUT: true; the input reads as it did. -/
def urlAbsoluteSpec : ChangeSpec := { name := "urlAbsolute", fn := fun _ => fun
  | [d1, d2, d3] => { results := [.lit (.bool true)], args := [d1, d2, d3] }
  | _ => none }
def urlAbsoluteRow : OpenClaim := { program := "ytgbinadjbikhhaadoor", sum := "333e723f936ea87c5c9f2e7a251df8a36b21fd98ea75d6059a578e97247ec78c", func := "knapsack/knapsacklaw41.UrlAbsolute", spec := "urlAbsolute", inPlace := ["internal/bytealg.IndexByteString", "internal/bytealg.IndexString", "internal/abi.NoEscape", "internal/bytealg.CountString", "internal/bytealg.MakeNoZero"], named := ["internal/bytealg.MaxLen", "unicode/utf8.first", "unicode/utf8.acceptRanges"], apart := false, laid := [("unicode/utf8.acceptRanges", laid_unicode_utf8_acceptRanges), ("unicode/utf8.first", laid_unicode_utf8_first)] }
def UrlAbsoluteSaid : Prop := urlAbsoluteRow.holds Tryd.pinned (OpenSpec.ofChange urlAbsoluteSpec)

/-- ITS FALSE NEIGHBOUR: 'it returns false'. Refute it at one input. -/
def urlAbsoluteWrong : ChangeSpec := { name := "urlAbsolute", fn := fun _ => fun
  | [d1, d2, d3] => { results := [.lit (.bool false)], args := [d1, d2, d3] }
  | _ => none }
def UrlAbsoluteWrongFalsely : Prop := urlAbsoluteRow.holds Tryd.pinned (OpenSpec.ofChange urlAbsoluteWrong)

/-- 'knapsacklaw41.UrlFields': WHATEVER THE INPUT: true; the input reads as it did. -/
def urlFieldsSpec : ChangeSpec := { name := "urlFields", fn := fun _ => fun
  | [d1, d2] => { results := [.lit (.bool true)], args := [d1, d2] }
  | _ => none }
def urlFieldsRow : OpenClaim := { program := "ytgbinadjbikhhaadoor", sum := "333e723f936ea87c5c9f2e7a251df8a36b21fd98ea75d6059a578e97247ec78c", func := "knapsack/knapsacklaw41.UrlFields", spec := "urlFields", inPlace := ["internal/bytealg.IndexByteString", "internal/bytealg.IndexString", "internal/abi.NoEscape", "internal/bytealg.CountString", "internal/bytealg.MakeNoZero"], named := ["internal/bytealg.MaxLen", "unicode/utf8.first", "unicode/utf8.acceptRanges"], apart := false, laid := [("unicode/utf8.acceptRanges", laid_unicode_utf8_acceptRanges), ("unicode/utf8.first", laid_unicode_utf8_first)] }
def UrlFieldsSaid : Prop := urlFieldsRow.holds Tryd.pinned (OpenSpec.ofChange urlFieldsSpec)

/-- ITS FALSE NEIGHBOUR: 'it returns false'. Refute it at one input. -/
def urlFieldsWrong : ChangeSpec := { name := "urlFields", fn := fun _ => fun
  | [d1, d2] => { results := [.lit (.bool false)], args := [d1, d2] }
  | _ => none }
def UrlFieldsWrongFalsely : Prop := urlFieldsRow.holds Tryd.pinned (OpenSpec.ofChange urlFieldsWrong)

/- THE SECOND FORM. 'bulk': how many values and letters a reading holds, each counted each time it is reached (what is shared counts as often as it is met; a slice's spare places count too). A statement '..UptoSaid' is the law's where the arguments, and the package variables that the reading takes, are together of bulk at most 1048576: NARROWER than '..Said'. Prove '..Said' where nothing that the law and all that it calls make is longer than what came in: it says more and counts as full. Else prove '..UptoSaid'. A law counts once. -/
mutual
def uptoBulk {H : Type} : DataW H → Nat
  | .lit (.string bytes) => bytes.length + 1
  | .lit _ => 1
  | .nil => 1
  | .ptr d => uptoBulk d + 1
  | .slice elems spare => uptoBulkAll elems + uptoBulkAll spare + 1
  | .agg parts => uptoBulkAll parts + 1
  | .iface _ d => uptoBulk d + 1
  | .map entries => uptoBulkEntries entries + 1
  | .held _ => 1
def uptoBulkAll {H : Type} : List (DataW H) → Nat
  | [] => 0
  | d :: r => uptoBulk d + uptoBulkAll r
def uptoBulkEntries {H : Type} : List (Lit × DataW H) → Nat
  | [] => 0
  | x :: r => uptoBulkEntry x + uptoBulkEntries r
def uptoBulkEntry {H : Type} : Lit × DataW H → Nat
  | (.string bytes, d) => bytes.length + uptoBulk d + 1
  | (_, d) => uptoBulk d + 1
 end
def uptoSmall : (H : Type) → List (DataW H) → Bool := fun _ ds => decide (uptoBulkAll ds ≤ 1048576)
def OpenSpec.upto (s : _root_.Go.ChangeSpec) : _root_.Go.OpenSpec := { _root_.Go.OpenSpec.ofChange s with cond := some uptoSmall }

/-- 'knapsacklaw41.UrlParse', WHERE WHAT IT READS IS OF BULK AT MOST 1048576: true; the input reads as it did. -/
def urlParseUptoRow : OpenClaim := { program := "ytgbinadjbikhhaadoor", sum := "333e723f936ea87c5c9f2e7a251df8a36b21fd98ea75d6059a578e97247ec78c", func := "knapsack/knapsacklaw41.UrlParse", spec := "urlParse", inPlace := ["internal/bytealg.IndexByteString", "internal/bytealg.IndexString", "internal/abi.NoEscape", "internal/bytealg.CountString", "internal/bytealg.MakeNoZero"], named := ["internal/bytealg.MaxLen", "unicode/utf8.first", "unicode/utf8.acceptRanges"], apart := false, laid := [("unicode/utf8.acceptRanges", laid_unicode_utf8_acceptRanges), ("unicode/utf8.first", laid_unicode_utf8_first)], narrowed := true }
def UrlParseUptoSaid : Prop := urlParseUptoRow.holds Tryd.pinned (OpenSpec.upto urlParseSpec)

/-- 'knapsacklaw41.UrlClean', WHERE WHAT IT READS IS OF BULK AT MOST 1048576: true; the input reads as it did. -/
def urlCleanUptoRow : OpenClaim := { program := "ytgbinadjbikhhaadoor", sum := "333e723f936ea87c5c9f2e7a251df8a36b21fd98ea75d6059a578e97247ec78c", func := "knapsack/knapsacklaw41.UrlClean", spec := "urlClean", inPlace := ["internal/bytealg.IndexByteString", "internal/bytealg.IndexString", "internal/abi.NoEscape", "internal/bytealg.CountString", "internal/bytealg.MakeNoZero"], named := ["internal/bytealg.MaxLen", "unicode/utf8.first", "unicode/utf8.acceptRanges"], apart := false, laid := [("unicode/utf8.acceptRanges", laid_unicode_utf8_acceptRanges), ("unicode/utf8.first", laid_unicode_utf8_first)], narrowed := true }
def UrlCleanUptoSaid : Prop := urlCleanUptoRow.holds Tryd.pinned (OpenSpec.upto urlCleanSpec)

/-- 'knapsacklaw41.UrlPrint', WHERE WHAT IT READS IS OF BULK AT MOST 1048576: true; the input reads as it did. -/
def urlPrintUptoRow : OpenClaim := { program := "ytgbinadjbikhhaadoor", sum := "333e723f936ea87c5c9f2e7a251df8a36b21fd98ea75d6059a578e97247ec78c", func := "knapsack/knapsacklaw41.UrlPrint", spec := "urlPrint", inPlace := ["internal/bytealg.IndexByteString", "internal/bytealg.IndexString", "internal/abi.NoEscape", "internal/bytealg.CountString", "internal/bytealg.MakeNoZero"], named := ["internal/bytealg.MaxLen", "unicode/utf8.first", "unicode/utf8.acceptRanges"], apart := false, laid := [("unicode/utf8.acceptRanges", laid_unicode_utf8_acceptRanges), ("unicode/utf8.first", laid_unicode_utf8_first)], narrowed := true }
def UrlPrintUptoSaid : Prop := urlPrintUptoRow.holds Tryd.pinned (OpenSpec.upto urlPrintSpec)

/-- 'knapsacklaw41.UrlEscape', WHERE WHAT IT READS IS OF BULK AT MOST 1048576: true; the input reads as it did. -/
def urlEscapeUptoRow : OpenClaim := { program := "ytgbinadjbikhhaadoor", sum := "333e723f936ea87c5c9f2e7a251df8a36b21fd98ea75d6059a578e97247ec78c", func := "knapsack/knapsacklaw41.UrlEscape", spec := "urlEscape", inPlace := ["internal/bytealg.IndexByteString", "internal/bytealg.IndexString", "internal/abi.NoEscape", "internal/bytealg.CountString", "internal/bytealg.MakeNoZero"], named := ["internal/bytealg.MaxLen", "unicode/utf8.first", "unicode/utf8.acceptRanges"], apart := false, laid := [("unicode/utf8.acceptRanges", laid_unicode_utf8_acceptRanges), ("unicode/utf8.first", laid_unicode_utf8_first)], narrowed := true }
def UrlEscapeUptoSaid : Prop := urlEscapeUptoRow.holds Tryd.pinned (OpenSpec.upto urlEscapeSpec)

/-- 'knapsacklaw41.UrlOrigin', WHERE WHAT IT READS IS OF BULK AT MOST 1048576: true; the input reads as it did. -/
def urlOriginUptoRow : OpenClaim := { program := "ytgbinadjbikhhaadoor", sum := "333e723f936ea87c5c9f2e7a251df8a36b21fd98ea75d6059a578e97247ec78c", func := "knapsack/knapsacklaw41.UrlOrigin", spec := "urlOrigin", inPlace := ["internal/bytealg.IndexByteString", "internal/bytealg.IndexString", "internal/abi.NoEscape", "internal/bytealg.CountString", "internal/bytealg.MakeNoZero"], named := ["internal/bytealg.MaxLen", "unicode/utf8.first", "unicode/utf8.acceptRanges"], apart := false, laid := [("unicode/utf8.acceptRanges", laid_unicode_utf8_acceptRanges), ("unicode/utf8.first", laid_unicode_utf8_first)], narrowed := true }
def UrlOriginUptoSaid : Prop := urlOriginUptoRow.holds Tryd.pinned (OpenSpec.upto urlOriginSpec)

/-- 'knapsacklaw41.UrlResolve', WHERE WHAT IT READS IS OF BULK AT MOST 1048576: true; the input reads as it did. -/
def urlResolveUptoRow : OpenClaim := { program := "ytgbinadjbikhhaadoor", sum := "333e723f936ea87c5c9f2e7a251df8a36b21fd98ea75d6059a578e97247ec78c", func := "knapsack/knapsacklaw41.UrlResolve", spec := "urlResolve", inPlace := ["internal/bytealg.IndexByteString", "internal/bytealg.IndexString", "internal/abi.NoEscape", "internal/bytealg.CountString", "internal/bytealg.MakeNoZero"], named := ["internal/bytealg.MaxLen", "unicode/utf8.first", "unicode/utf8.acceptRanges"], apart := false, laid := [("unicode/utf8.acceptRanges", laid_unicode_utf8_acceptRanges), ("unicode/utf8.first", laid_unicode_utf8_first)], narrowed := true }
def UrlResolveUptoSaid : Prop := urlResolveUptoRow.holds Tryd.pinned (OpenSpec.upto urlResolveSpec)

/-- 'knapsacklaw41.UrlAbsolute', WHERE WHAT IT READS IS OF BULK AT MOST 1048576: true; the input reads as it did. -/
def urlAbsoluteUptoRow : OpenClaim := { program := "ytgbinadjbikhhaadoor", sum := "333e723f936ea87c5c9f2e7a251df8a36b21fd98ea75d6059a578e97247ec78c", func := "knapsack/knapsacklaw41.UrlAbsolute", spec := "urlAbsolute", inPlace := ["internal/bytealg.IndexByteString", "internal/bytealg.IndexString", "internal/abi.NoEscape", "internal/bytealg.CountString", "internal/bytealg.MakeNoZero"], named := ["internal/bytealg.MaxLen", "unicode/utf8.first", "unicode/utf8.acceptRanges"], apart := false, laid := [("unicode/utf8.acceptRanges", laid_unicode_utf8_acceptRanges), ("unicode/utf8.first", laid_unicode_utf8_first)], narrowed := true }
def UrlAbsoluteUptoSaid : Prop := urlAbsoluteUptoRow.holds Tryd.pinned (OpenSpec.upto urlAbsoluteSpec)

/-- 'knapsacklaw41.UrlFields', WHERE WHAT IT READS IS OF BULK AT MOST 1048576: true; the input reads as it did. -/
def urlFieldsUptoRow : OpenClaim := { program := "ytgbinadjbikhhaadoor", sum := "333e723f936ea87c5c9f2e7a251df8a36b21fd98ea75d6059a578e97247ec78c", func := "knapsack/knapsacklaw41.UrlFields", spec := "urlFields", inPlace := ["internal/bytealg.IndexByteString", "internal/bytealg.IndexString", "internal/abi.NoEscape", "internal/bytealg.CountString", "internal/bytealg.MakeNoZero"], named := ["internal/bytealg.MaxLen", "unicode/utf8.first", "unicode/utf8.acceptRanges"], apart := false, laid := [("unicode/utf8.acceptRanges", laid_unicode_utf8_acceptRanges), ("unicode/utf8.first", laid_unicode_utf8_first)], narrowed := true }
def UrlFieldsUptoSaid : Prop := urlFieldsUptoRow.holds Tryd.pinned (OpenSpec.upto urlFieldsSpec)

end Rows
end Go.Proofs.YtgbinadjbikhhaaDoor
