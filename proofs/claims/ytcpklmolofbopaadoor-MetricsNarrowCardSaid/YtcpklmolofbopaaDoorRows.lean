/-
  NARROWER THAN 'FOR EVERY INPUT', by the rows' own cells (each row's printed sentence says how): MetricsChars: laid · MetricsBreaks: laid · MetricsLines: laid · MetricsCover: laid · MetricsNarrow: laid · MetricsHeight: laid · MetricsFit: laid · MetricsOffset: laid · MetricsWidth: laid.
  DERIVED. THE GIVEN ROWS OF THIS SEAT. 9 by the template 'for every input the law returns true; each argument reads behind the call as it read before'; 0 by the template 'total and deterministic' (their statements: YtcpklmolofbopaaDoorTotals.lean).
  GIVEN WITH THE SEED: the statements are not yours to turn. If you find one false, say at which input.
  Laid BY PROGRAM, IN A SANDBOX (cutbox-rows.mjs): the forced cells as the released guide's own fill.sh prints them over the translation 486d5d4748afeeac… (all of the seat's roots in one cut). By AI agents, Wed Nov 11 2026. No macro, syntax, notation, axiom, sorry.
-/
import Derived.Test.YtcpklmolofbopaaDoorChecked
import GoSem.PinnedTables
import GoSem.Claim
import GoSem.ClaimJoined
import GoSem.ClaimMapViews
import Derived.JoinedTies
import Derived.KernelRfl
namespace Go.Proofs.YtcpklmolofbopaaDoor
/- THE CELL 'sum', in the pinned program and in every row, IS THE sha256 OF THE DUMP (.gsa) THAT YtcpklmolofbopaaDoorProg.lean LOADS. Nothing in Lean hashes anything: it is a label: what it is worth is what the hold of that sum in a sandbox is worth. -/
noncomputable def Tryd.pinned : Pinned := { name := "ytcpklmolofbopaadoor", sum := "486d5d4748afeeac8d5f232207c08ddaff68f211352f121c54f3bb845fef8cc6", checked := Tryd.checked }
namespace Rows
def none {H : Type} : Left H := { results := [], args := [] }

/- WHAT THE LISTED PACKAGE-LEVEL VARIABLES READ AS WHEN THE CALL BEGINS. Each datum BY PROGRAM (the guide's laid-datum.mjs) off the statement by which the dump's own 'gosem.cut.vars' lays the variable. In a bare row this is a premise. The card (YtcpklmolofbopaaDoorCards.lean) ties it to the program's text. -/
def laid_unicode_utf8_acceptRanges {H : Type} : DataW H := .agg [.agg [.lit (.int .u8 128), .lit (.int .u8 191)], .agg [.lit (.int .u8 160), .lit (.int .u8 191)], .agg [.lit (.int .u8 128), .lit (.int .u8 159)], .agg [.lit (.int .u8 144), .lit (.int .u8 191)], .agg [.lit (.int .u8 128), .lit (.int .u8 143)], .agg [.lit (.int .u8 0), .lit (.int .u8 0)], .agg [.lit (.int .u8 0), .lit (.int .u8 0)], .agg [.lit (.int .u8 0), .lit (.int .u8 0)], .agg [.lit (.int .u8 0), .lit (.int .u8 0)], .agg [.lit (.int .u8 0), .lit (.int .u8 0)], .agg [.lit (.int .u8 0), .lit (.int .u8 0)], .agg [.lit (.int .u8 0), .lit (.int .u8 0)], .agg [.lit (.int .u8 0), .lit (.int .u8 0)], .agg [.lit (.int .u8 0), .lit (.int .u8 0)], .agg [.lit (.int .u8 0), .lit (.int .u8 0)], .agg [.lit (.int .u8 0), .lit (.int .u8 0)]]
/-- One of Go's own tables, pinned by name: the form's constant. -/
def laid_unicode_utf8_first : DataW Unit := Go.Pinned.utf8First

/-- 'knapsacklaw15.MetricsChars': WHATEVER THE INPUT: true; the input reads as it did. -/
def metricsCharsSpec : ChangeSpec := { name := "metricsChars", fn := fun _ => fun
  | [d1, d2] => { results := [.lit (.bool true)], args := [d1, d2] }
  | _ => none }
def metricsCharsRow : OpenClaim := { program := "ytcpklmolofbopaadoor", sum := "486d5d4748afeeac8d5f232207c08ddaff68f211352f121c54f3bb845fef8cc6", func := "knapsack/knapsacklaw15.MetricsChars", spec := "metricsChars", inPlace := ["internal/bytealg.IndexByteString", "internal/bytealg.IndexString"], named := ["unicode/utf8.first", "unicode/utf8.acceptRanges", "internal/bytealg.MaxLen"], apart := false, laid := [("unicode/utf8.acceptRanges", laid_unicode_utf8_acceptRanges), ("unicode/utf8.first", laid_unicode_utf8_first)] }
def MetricsCharsSaid : Prop := metricsCharsRow.holds Tryd.pinned (OpenSpec.ofChange metricsCharsSpec)

/-- ITS FALSE NEIGHBOUR: 'it returns false'. Refute it at one input. -/
def metricsCharsWrong : ChangeSpec := { name := "metricsChars", fn := fun _ => fun
  | [d1, d2] => { results := [.lit (.bool false)], args := [d1, d2] }
  | _ => none }
def MetricsCharsWrongFalsely : Prop := metricsCharsRow.holds Tryd.pinned (OpenSpec.ofChange metricsCharsWrong)

/-- 'knapsacklaw15.MetricsBreaks': WHATEVER THE INPUT: true; the input reads as it did. -/
def metricsBreaksSpec : ChangeSpec := { name := "metricsBreaks", fn := fun _ => fun
  | [d] => { results := [.lit (.bool true)], args := [d] }
  | _ => none }
def metricsBreaksRow : OpenClaim := { program := "ytcpklmolofbopaadoor", sum := "486d5d4748afeeac8d5f232207c08ddaff68f211352f121c54f3bb845fef8cc6", func := "knapsack/knapsacklaw15.MetricsBreaks", spec := "metricsBreaks", inPlace := ["internal/bytealg.IndexByteString", "internal/bytealg.IndexString"], named := ["unicode/utf8.first", "unicode/utf8.acceptRanges", "internal/bytealg.MaxLen"], apart := false, laid := [("unicode/utf8.acceptRanges", laid_unicode_utf8_acceptRanges), ("unicode/utf8.first", laid_unicode_utf8_first)] }
def MetricsBreaksSaid : Prop := metricsBreaksRow.holds Tryd.pinned (OpenSpec.ofChange metricsBreaksSpec)

/-- ITS FALSE NEIGHBOUR: 'it returns false'. Refute it at one input. -/
def metricsBreaksWrong : ChangeSpec := { name := "metricsBreaks", fn := fun _ => fun
  | [d] => { results := [.lit (.bool false)], args := [d] }
  | _ => none }
def MetricsBreaksWrongFalsely : Prop := metricsBreaksRow.holds Tryd.pinned (OpenSpec.ofChange metricsBreaksWrong)

/-- 'knapsacklaw15.MetricsLines': WHATEVER THE INPUT: true; the input reads as it did. -/
def metricsLinesSpec : ChangeSpec := { name := "metricsLines", fn := fun _ => fun
  | [d1, d2, d3] => { results := [.lit (.bool true)], args := [d1, d2, d3] }
  | _ => none }
def metricsLinesRow : OpenClaim := { program := "ytcpklmolofbopaadoor", sum := "486d5d4748afeeac8d5f232207c08ddaff68f211352f121c54f3bb845fef8cc6", func := "knapsack/knapsacklaw15.MetricsLines", spec := "metricsLines", inPlace := ["internal/bytealg.IndexByteString", "internal/bytealg.IndexString"], named := ["unicode/utf8.first", "unicode/utf8.acceptRanges", "internal/bytealg.MaxLen"], apart := false, laid := [("unicode/utf8.acceptRanges", laid_unicode_utf8_acceptRanges), ("unicode/utf8.first", laid_unicode_utf8_first)] }
def MetricsLinesSaid : Prop := metricsLinesRow.holds Tryd.pinned (OpenSpec.ofChange metricsLinesSpec)

/-- ITS FALSE NEIGHBOUR: 'it returns false'. Refute it at one input. -/
def metricsLinesWrong : ChangeSpec := { name := "metricsLines", fn := fun _ => fun
  | [d1, d2, d3] => { results := [.lit (.bool false)], args := [d1, d2, d3] }
  | _ => none }
def MetricsLinesWrongFalsely : Prop := metricsLinesRow.holds Tryd.pinned (OpenSpec.ofChange metricsLinesWrong)

/-- 'knapsacklaw15.MetricsCover': WHATEVER THE INPUT: true; the input reads as it did. -/
def metricsCoverSpec : ChangeSpec := { name := "metricsCover", fn := fun _ => fun
  | [d1, d2, d3] => { results := [.lit (.bool true)], args := [d1, d2, d3] }
  | _ => none }
def metricsCoverRow : OpenClaim := { program := "ytcpklmolofbopaadoor", sum := "486d5d4748afeeac8d5f232207c08ddaff68f211352f121c54f3bb845fef8cc6", func := "knapsack/knapsacklaw15.MetricsCover", spec := "metricsCover", inPlace := ["internal/bytealg.IndexByteString", "internal/bytealg.IndexString"], named := ["unicode/utf8.first", "unicode/utf8.acceptRanges", "internal/bytealg.MaxLen"], apart := false, laid := [("unicode/utf8.acceptRanges", laid_unicode_utf8_acceptRanges), ("unicode/utf8.first", laid_unicode_utf8_first)] }
def MetricsCoverSaid : Prop := metricsCoverRow.holds Tryd.pinned (OpenSpec.ofChange metricsCoverSpec)

/-- ITS FALSE NEIGHBOUR: 'it returns false'. Refute it at one input. -/
def metricsCoverWrong : ChangeSpec := { name := "metricsCover", fn := fun _ => fun
  | [d1, d2, d3] => { results := [.lit (.bool false)], args := [d1, d2, d3] }
  | _ => none }
def MetricsCoverWrongFalsely : Prop := metricsCoverRow.holds Tryd.pinned (OpenSpec.ofChange metricsCoverWrong)

/-- 'knapsacklaw15.MetricsNarrow': WHATEVER THE INPUT: true; the input reads as it did. -/
def metricsNarrowSpec : ChangeSpec := { name := "metricsNarrow", fn := fun _ => fun
  | [d1, d2, d3] => { results := [.lit (.bool true)], args := [d1, d2, d3] }
  | _ => none }
def metricsNarrowRow : OpenClaim := { program := "ytcpklmolofbopaadoor", sum := "486d5d4748afeeac8d5f232207c08ddaff68f211352f121c54f3bb845fef8cc6", func := "knapsack/knapsacklaw15.MetricsNarrow", spec := "metricsNarrow", inPlace := ["internal/bytealg.IndexByteString", "internal/bytealg.IndexString"], named := ["unicode/utf8.first", "unicode/utf8.acceptRanges", "internal/bytealg.MaxLen"], apart := false, laid := [("unicode/utf8.acceptRanges", laid_unicode_utf8_acceptRanges), ("unicode/utf8.first", laid_unicode_utf8_first)] }
def MetricsNarrowSaid : Prop := metricsNarrowRow.holds Tryd.pinned (OpenSpec.ofChange metricsNarrowSpec)

/-- ITS FALSE NEIGHBOUR: 'it returns false'. Refute it at one input. -/
def metricsNarrowWrong : ChangeSpec := { name := "metricsNarrow", fn := fun _ => fun
  | [d1, d2, d3] => { results := [.lit (.bool false)], args := [d1, d2, d3] }
  | _ => none }
def MetricsNarrowWrongFalsely : Prop := metricsNarrowRow.holds Tryd.pinned (OpenSpec.ofChange metricsNarrowWrong)

/-- 'knapsacklaw15.MetricsHeight': WHATEVER THE INPUT: true; the input reads as it did. -/
def metricsHeightSpec : ChangeSpec := { name := "metricsHeight", fn := fun _ => fun
  | [d] => { results := [.lit (.bool true)], args := [d] }
  | _ => none }
def metricsHeightRow : OpenClaim := { program := "ytcpklmolofbopaadoor", sum := "486d5d4748afeeac8d5f232207c08ddaff68f211352f121c54f3bb845fef8cc6", func := "knapsack/knapsacklaw15.MetricsHeight", spec := "metricsHeight", inPlace := ["internal/bytealg.IndexByteString", "internal/bytealg.IndexString"], named := ["unicode/utf8.first", "unicode/utf8.acceptRanges", "internal/bytealg.MaxLen"], apart := false, laid := [("unicode/utf8.acceptRanges", laid_unicode_utf8_acceptRanges), ("unicode/utf8.first", laid_unicode_utf8_first)] }
def MetricsHeightSaid : Prop := metricsHeightRow.holds Tryd.pinned (OpenSpec.ofChange metricsHeightSpec)

/-- ITS FALSE NEIGHBOUR: 'it returns false'. Refute it at one input. -/
def metricsHeightWrong : ChangeSpec := { name := "metricsHeight", fn := fun _ => fun
  | [d] => { results := [.lit (.bool false)], args := [d] }
  | _ => none }
def MetricsHeightWrongFalsely : Prop := metricsHeightRow.holds Tryd.pinned (OpenSpec.ofChange metricsHeightWrong)

/-- 'knapsacklaw15.MetricsFit': WHATEVER THE INPUT: true; the input reads as it did. -/
def metricsFitSpec : ChangeSpec := { name := "metricsFit", fn := fun _ => fun
  | [d1, d2, d3] => { results := [.lit (.bool true)], args := [d1, d2, d3] }
  | _ => none }
def metricsFitRow : OpenClaim := { program := "ytcpklmolofbopaadoor", sum := "486d5d4748afeeac8d5f232207c08ddaff68f211352f121c54f3bb845fef8cc6", func := "knapsack/knapsacklaw15.MetricsFit", spec := "metricsFit", inPlace := ["internal/bytealg.IndexByteString", "internal/bytealg.IndexString"], named := ["unicode/utf8.first", "unicode/utf8.acceptRanges", "internal/bytealg.MaxLen"], apart := false, laid := [("unicode/utf8.acceptRanges", laid_unicode_utf8_acceptRanges), ("unicode/utf8.first", laid_unicode_utf8_first)] }
def MetricsFitSaid : Prop := metricsFitRow.holds Tryd.pinned (OpenSpec.ofChange metricsFitSpec)

/-- ITS FALSE NEIGHBOUR: 'it returns false'. Refute it at one input. -/
def metricsFitWrong : ChangeSpec := { name := "metricsFit", fn := fun _ => fun
  | [d1, d2, d3] => { results := [.lit (.bool false)], args := [d1, d2, d3] }
  | _ => none }
def MetricsFitWrongFalsely : Prop := metricsFitRow.holds Tryd.pinned (OpenSpec.ofChange metricsFitWrong)

/-- 'knapsacklaw15.MetricsOffset': WHATEVER THE INPUT: true; the input reads as it did. -/
def metricsOffsetSpec : ChangeSpec := { name := "metricsOffset", fn := fun _ => fun
  | [d1, d2, d3] => { results := [.lit (.bool true)], args := [d1, d2, d3] }
  | _ => none }
def metricsOffsetRow : OpenClaim := { program := "ytcpklmolofbopaadoor", sum := "486d5d4748afeeac8d5f232207c08ddaff68f211352f121c54f3bb845fef8cc6", func := "knapsack/knapsacklaw15.MetricsOffset", spec := "metricsOffset", inPlace := ["internal/bytealg.IndexByteString", "internal/bytealg.IndexString"], named := ["unicode/utf8.first", "unicode/utf8.acceptRanges", "internal/bytealg.MaxLen"], apart := false, laid := [("unicode/utf8.acceptRanges", laid_unicode_utf8_acceptRanges), ("unicode/utf8.first", laid_unicode_utf8_first)] }
def MetricsOffsetSaid : Prop := metricsOffsetRow.holds Tryd.pinned (OpenSpec.ofChange metricsOffsetSpec)

/-- ITS FALSE NEIGHBOUR: 'it returns false'. Refute it at one input. -/
def metricsOffsetWrong : ChangeSpec := { name := "metricsOffset", fn := fun _ => fun
  | [d1, d2, d3] => { results := [.lit (.bool false)], args := [d1, d2, d3] }
  | _ => none }
def MetricsOffsetWrongFalsely : Prop := metricsOffsetRow.holds Tryd.pinned (OpenSpec.ofChange metricsOffsetWrong)

/-- 'knapsacklaw15.MetricsWidth': WHATEVER THE INPUT: true; the input reads as it did. -/
def metricsWidthSpec : ChangeSpec := { name := "metricsWidth", fn := fun _ => fun
  | [d1, d2, d3] => { results := [.lit (.bool true)], args := [d1, d2, d3] }
  | _ => none }
def metricsWidthRow : OpenClaim := { program := "ytcpklmolofbopaadoor", sum := "486d5d4748afeeac8d5f232207c08ddaff68f211352f121c54f3bb845fef8cc6", func := "knapsack/knapsacklaw15.MetricsWidth", spec := "metricsWidth", inPlace := ["internal/bytealg.IndexByteString", "internal/bytealg.IndexString"], named := ["unicode/utf8.first", "unicode/utf8.acceptRanges", "internal/bytealg.MaxLen"], apart := false, laid := [("unicode/utf8.acceptRanges", laid_unicode_utf8_acceptRanges), ("unicode/utf8.first", laid_unicode_utf8_first)] }
def MetricsWidthSaid : Prop := metricsWidthRow.holds Tryd.pinned (OpenSpec.ofChange metricsWidthSpec)

/-- ITS FALSE NEIGHBOUR: 'it returns false'. Refute it at one input. -/
def metricsWidthWrong : ChangeSpec := { name := "metricsWidth", fn := fun _ => fun
  | [d1, d2, d3] => { results := [.lit (.bool false)], args := [d1, d2, d3] }
  | _ => none }
def MetricsWidthWrongFalsely : Prop := metricsWidthRow.holds Tryd.pinned (OpenSpec.ofChange metricsWidthWrong)

/- THE SECOND FORM. 'bulk': how many values and letters a reading holds, each counted each time it is reached (what is shared counts as often as it is met; a slice's spare places count too). A statement '..UptoSaid' is the law's where the arguments, and the package variables that the reading takes, are together of bulk at most 1048576: NARROWER than '..Said'. Prove '..Said' where nothing that the law and all that it calls make is longer than what came in: it says more and counts as full. Else prove '..UptoSaid'. A law counts once. -/
mutual
def uptoBulk {H : Type} : DataW H → Nat
  | .lit (.string bytes) => bytes.length + 1
  | .lit _ => 1
  | .nil => 1
  | .ptr d => uptoBulk d + 1
  | .slice elems spare => uptoBulkAll elems + uptoBulkAll spare + 1
  | .agg parts => uptoBulkAll parts + 1
  | .iface _ d => uptoBulk d + 1
  | .map entries => uptoBulkEntries entries + 1
  | .held _ => 1
def uptoBulkAll {H : Type} : List (DataW H) → Nat
  | [] => 0
  | d :: r => uptoBulk d + uptoBulkAll r
def uptoBulkEntries {H : Type} : List (Lit × DataW H) → Nat
  | [] => 0
  | x :: r => uptoBulkEntry x + uptoBulkEntries r
def uptoBulkEntry {H : Type} : Lit × DataW H → Nat
  | (.string bytes, d) => bytes.length + uptoBulk d + 1
  | (_, d) => uptoBulk d + 1
 end
def uptoSmall : (H : Type) → List (DataW H) → Bool := fun _ ds => decide (uptoBulkAll ds ≤ 1048576)
def OpenSpec.upto (s : _root_.Go.ChangeSpec) : _root_.Go.OpenSpec := { _root_.Go.OpenSpec.ofChange s with cond := some uptoSmall }

/-- 'knapsacklaw15.MetricsChars', WHERE WHAT IT READS IS OF BULK AT MOST 1048576: true; the input reads as it did. -/
def metricsCharsUptoRow : OpenClaim := { program := "ytcpklmolofbopaadoor", sum := "486d5d4748afeeac8d5f232207c08ddaff68f211352f121c54f3bb845fef8cc6", func := "knapsack/knapsacklaw15.MetricsChars", spec := "metricsChars", inPlace := ["internal/bytealg.IndexByteString", "internal/bytealg.IndexString"], named := ["unicode/utf8.first", "unicode/utf8.acceptRanges", "internal/bytealg.MaxLen"], apart := false, laid := [("unicode/utf8.acceptRanges", laid_unicode_utf8_acceptRanges), ("unicode/utf8.first", laid_unicode_utf8_first)], narrowed := true }
def MetricsCharsUptoSaid : Prop := metricsCharsUptoRow.holds Tryd.pinned (OpenSpec.upto metricsCharsSpec)

/-- 'knapsacklaw15.MetricsBreaks', WHERE WHAT IT READS IS OF BULK AT MOST 1048576: true; the input reads as it did. -/
def metricsBreaksUptoRow : OpenClaim := { program := "ytcpklmolofbopaadoor", sum := "486d5d4748afeeac8d5f232207c08ddaff68f211352f121c54f3bb845fef8cc6", func := "knapsack/knapsacklaw15.MetricsBreaks", spec := "metricsBreaks", inPlace := ["internal/bytealg.IndexByteString", "internal/bytealg.IndexString"], named := ["unicode/utf8.first", "unicode/utf8.acceptRanges", "internal/bytealg.MaxLen"], apart := false, laid := [("unicode/utf8.acceptRanges", laid_unicode_utf8_acceptRanges), ("unicode/utf8.first", laid_unicode_utf8_first)], narrowed := true }
def MetricsBreaksUptoSaid : Prop := metricsBreaksUptoRow.holds Tryd.pinned (OpenSpec.upto metricsBreaksSpec)

/-- 'knapsacklaw15.MetricsLines', WHERE WHAT IT READS IS OF BULK AT MOST 1048576: true; the input reads as it did. -/
def metricsLinesUptoRow : OpenClaim := { program := "ytcpklmolofbopaadoor", sum := "486d5d4748afeeac8d5f232207c08ddaff68f211352f121c54f3bb845fef8cc6", func := "knapsack/knapsacklaw15.MetricsLines", spec := "metricsLines", inPlace := ["internal/bytealg.IndexByteString", "internal/bytealg.IndexString"], named := ["unicode/utf8.first", "unicode/utf8.acceptRanges", "internal/bytealg.MaxLen"], apart := false, laid := [("unicode/utf8.acceptRanges", laid_unicode_utf8_acceptRanges), ("unicode/utf8.first", laid_unicode_utf8_first)], narrowed := true }
def MetricsLinesUptoSaid : Prop := metricsLinesUptoRow.holds Tryd.pinned (OpenSpec.upto metricsLinesSpec)

/-- 'knapsacklaw15.MetricsCover', WHERE WHAT IT READS IS OF BULK AT MOST 1048576: true; the input reads as it did. -/
def metricsCoverUptoRow : OpenClaim := { program := "ytcpklmolofbopaadoor", sum := "486d5d4748afeeac8d5f232207c08ddaff68f211352f121c54f3bb845fef8cc6", func := "knapsack/knapsacklaw15.MetricsCover", spec := "metricsCover", inPlace := ["internal/bytealg.IndexByteString", "internal/bytealg.IndexString"], named := ["unicode/utf8.first", "unicode/utf8.acceptRanges", "internal/bytealg.MaxLen"], apart := false, laid := [("unicode/utf8.acceptRanges", laid_unicode_utf8_acceptRanges), ("unicode/utf8.first", laid_unicode_utf8_first)], narrowed := true }
def MetricsCoverUptoSaid : Prop := metricsCoverUptoRow.holds Tryd.pinned (OpenSpec.upto metricsCoverSpec)

/-- 'knapsacklaw15.MetricsNarrow', WHERE WHAT IT READS IS OF BULK AT MOST 1048576: true; the input reads as it did. -/
def metricsNarrowUptoRow : OpenClaim := { program := "ytcpklmolofbopaadoor", sum := "486d5d4748afeeac8d5f232207c08ddaff68f211352f121c54f3bb845fef8cc6", func := "knapsack/knapsacklaw15.MetricsNarrow", spec := "metricsNarrow", inPlace := ["internal/bytealg.IndexByteString", "internal/bytealg.IndexString"], named := ["unicode/utf8.first", "unicode/utf8.acceptRanges", "internal/bytealg.MaxLen"], apart := false, laid := [("unicode/utf8.acceptRanges", laid_unicode_utf8_acceptRanges), ("unicode/utf8.first", laid_unicode_utf8_first)], narrowed := true }
def MetricsNarrowUptoSaid : Prop := metricsNarrowUptoRow.holds Tryd.pinned (OpenSpec.upto metricsNarrowSpec)

/-- 'knapsacklaw15.MetricsHeight', WHERE WHAT IT READS IS OF BULK AT MOST 1048576: true; the input reads as it did. -/
def metricsHeightUptoRow : OpenClaim := { program := "ytcpklmolofbopaadoor", sum := "486d5d4748afeeac8d5f232207c08ddaff68f211352f121c54f3bb845fef8cc6", func := "knapsack/knapsacklaw15.MetricsHeight", spec := "metricsHeight", inPlace := ["internal/bytealg.IndexByteString", "internal/bytealg.IndexString"], named := ["unicode/utf8.first", "unicode/utf8.acceptRanges", "internal/bytealg.MaxLen"], apart := false, laid := [("unicode/utf8.acceptRanges", laid_unicode_utf8_acceptRanges), ("unicode/utf8.first", laid_unicode_utf8_first)], narrowed := true }
def MetricsHeightUptoSaid : Prop := metricsHeightUptoRow.holds Tryd.pinned (OpenSpec.upto metricsHeightSpec)

/-- 'knapsacklaw15.MetricsFit', WHERE WHAT IT READS IS OF BULK AT MOST 1048576: true; the input reads as it did. -/
def metricsFitUptoRow : OpenClaim := { program := "ytcpklmolofbopaadoor", sum := "486d5d4748afeeac8d5f232207c08ddaff68f211352f121c54f3bb845fef8cc6", func := "knapsack/knapsacklaw15.MetricsFit", spec := "metricsFit", inPlace := ["internal/bytealg.IndexByteString", "internal/bytealg.IndexString"], named := ["unicode/utf8.first", "unicode/utf8.acceptRanges", "internal/bytealg.MaxLen"], apart := false, laid := [("unicode/utf8.acceptRanges", laid_unicode_utf8_acceptRanges), ("unicode/utf8.first", laid_unicode_utf8_first)], narrowed := true }
def MetricsFitUptoSaid : Prop := metricsFitUptoRow.holds Tryd.pinned (OpenSpec.upto metricsFitSpec)

/-- 'knapsacklaw15.MetricsOffset', WHERE WHAT IT READS IS OF BULK AT MOST 1048576: true; the input reads as it did. -/
def metricsOffsetUptoRow : OpenClaim := { program := "ytcpklmolofbopaadoor", sum := "486d5d4748afeeac8d5f232207c08ddaff68f211352f121c54f3bb845fef8cc6", func := "knapsack/knapsacklaw15.MetricsOffset", spec := "metricsOffset", inPlace := ["internal/bytealg.IndexByteString", "internal/bytealg.IndexString"], named := ["unicode/utf8.first", "unicode/utf8.acceptRanges", "internal/bytealg.MaxLen"], apart := false, laid := [("unicode/utf8.acceptRanges", laid_unicode_utf8_acceptRanges), ("unicode/utf8.first", laid_unicode_utf8_first)], narrowed := true }
def MetricsOffsetUptoSaid : Prop := metricsOffsetUptoRow.holds Tryd.pinned (OpenSpec.upto metricsOffsetSpec)

/-- 'knapsacklaw15.MetricsWidth', WHERE WHAT IT READS IS OF BULK AT MOST 1048576: true; the input reads as it did. -/
def metricsWidthUptoRow : OpenClaim := { program := "ytcpklmolofbopaadoor", sum := "486d5d4748afeeac8d5f232207c08ddaff68f211352f121c54f3bb845fef8cc6", func := "knapsack/knapsacklaw15.MetricsWidth", spec := "metricsWidth", inPlace := ["internal/bytealg.IndexByteString", "internal/bytealg.IndexString"], named := ["unicode/utf8.first", "unicode/utf8.acceptRanges", "internal/bytealg.MaxLen"], apart := false, laid := [("unicode/utf8.acceptRanges", laid_unicode_utf8_acceptRanges), ("unicode/utf8.first", laid_unicode_utf8_first)], narrowed := true }
def MetricsWidthUptoSaid : Prop := metricsWidthUptoRow.holds Tryd.pinned (OpenSpec.upto metricsWidthSpec)

end Rows
end Go.Proofs.YtcpklmolofbopaaDoor
