/-
  DERIVED. GIVEN WITH THE SEED: THE CARDS: each row of YtcpklmolofbopaaDoorRows.lean that lists a variable, with what it lists TIED to the program's text (the seventh form; the later family's looks); each row that meets fmt, with fmt's text TOLD by the authors' own Lean function (tested against real Go, not proved from fmt's source: count such statements apart). THE CARD IS WHAT COUNTS. Prove the row's statement (the work); the ties are given (YtcpklmolofbopaaDoorTie.lean); close each card by the builder's one call (the guide's Derived/Test/ToyasCard.lean, 'card_holds'). Laid BY PROGRAM, IN A SANDBOX (cutbox-door.mjs). By AI agents, Wed Nov 11 2026. No macro, syntax, notation, axiom, sorry.
-/
import Derived.Test.YtcpklmolofbopaaDoorRows
import GoSem.ClaimSeven
namespace Go.Proofs.YtcpklmolofbopaaDoor
namespace Rows

/-- THE TIED CARD OF 'knapsacklaw15.MetricsChars'. -/
def metricsCharsCard : Claim7 := { stood := { row := metricsCharsRow, standIns := [], harness := (true, "207f6d5a5a4c119dfe94cff70a070368e0d9cd2fb77ffe3259ece0ca99c0e3dc"), looks := false }, kinds := [], alts := [], laidByText := true, laidKinds := [.data, .pinned], laidTests := true, laidLooks := .later }
def MetricsCharsCardSaid : Prop := Claim7.holds Tryd.pinned (.plain (OpenSpec.ofChange metricsCharsSpec)) metricsCharsCard

/-- THE TIED CARD OF 'knapsacklaw15.MetricsBreaks'. -/
def metricsBreaksCard : Claim7 := { stood := { row := metricsBreaksRow, standIns := [], harness := (true, "207f6d5a5a4c119dfe94cff70a070368e0d9cd2fb77ffe3259ece0ca99c0e3dc"), looks := false }, kinds := [], alts := [], laidByText := true, laidKinds := [.data, .pinned], laidTests := true, laidLooks := .later }
def MetricsBreaksCardSaid : Prop := Claim7.holds Tryd.pinned (.plain (OpenSpec.ofChange metricsBreaksSpec)) metricsBreaksCard

/-- THE TIED CARD OF 'knapsacklaw15.MetricsLines'. -/
def metricsLinesCard : Claim7 := { stood := { row := metricsLinesRow, standIns := [], harness := (true, "207f6d5a5a4c119dfe94cff70a070368e0d9cd2fb77ffe3259ece0ca99c0e3dc"), looks := false }, kinds := [], alts := [], laidByText := true, laidKinds := [.data, .pinned], laidTests := true, laidLooks := .later }
def MetricsLinesCardSaid : Prop := Claim7.holds Tryd.pinned (.plain (OpenSpec.ofChange metricsLinesSpec)) metricsLinesCard

/-- THE TIED CARD OF 'knapsacklaw15.MetricsCover'. -/
def metricsCoverCard : Claim7 := { stood := { row := metricsCoverRow, standIns := [], harness := (true, "207f6d5a5a4c119dfe94cff70a070368e0d9cd2fb77ffe3259ece0ca99c0e3dc"), looks := false }, kinds := [], alts := [], laidByText := true, laidKinds := [.data, .pinned], laidTests := true, laidLooks := .later }
def MetricsCoverCardSaid : Prop := Claim7.holds Tryd.pinned (.plain (OpenSpec.ofChange metricsCoverSpec)) metricsCoverCard

/-- THE TIED CARD OF 'knapsacklaw15.MetricsNarrow'. -/
def metricsNarrowCard : Claim7 := { stood := { row := metricsNarrowRow, standIns := [], harness := (true, "207f6d5a5a4c119dfe94cff70a070368e0d9cd2fb77ffe3259ece0ca99c0e3dc"), looks := false }, kinds := [], alts := [], laidByText := true, laidKinds := [.data, .pinned], laidTests := true, laidLooks := .later }
def MetricsNarrowCardSaid : Prop := Claim7.holds Tryd.pinned (.plain (OpenSpec.ofChange metricsNarrowSpec)) metricsNarrowCard

/-- THE TIED CARD OF 'knapsacklaw15.MetricsHeight'. -/
def metricsHeightCard : Claim7 := { stood := { row := metricsHeightRow, standIns := [], harness := (true, "207f6d5a5a4c119dfe94cff70a070368e0d9cd2fb77ffe3259ece0ca99c0e3dc"), looks := false }, kinds := [], alts := [], laidByText := true, laidKinds := [.data, .pinned], laidTests := true, laidLooks := .later }
def MetricsHeightCardSaid : Prop := Claim7.holds Tryd.pinned (.plain (OpenSpec.ofChange metricsHeightSpec)) metricsHeightCard

/-- THE TIED CARD OF 'knapsacklaw15.MetricsFit'. -/
def metricsFitCard : Claim7 := { stood := { row := metricsFitRow, standIns := [], harness := (true, "207f6d5a5a4c119dfe94cff70a070368e0d9cd2fb77ffe3259ece0ca99c0e3dc"), looks := false }, kinds := [], alts := [], laidByText := true, laidKinds := [.data, .pinned], laidTests := true, laidLooks := .later }
def MetricsFitCardSaid : Prop := Claim7.holds Tryd.pinned (.plain (OpenSpec.ofChange metricsFitSpec)) metricsFitCard

/-- THE TIED CARD OF 'knapsacklaw15.MetricsOffset'. -/
def metricsOffsetCard : Claim7 := { stood := { row := metricsOffsetRow, standIns := [], harness := (true, "207f6d5a5a4c119dfe94cff70a070368e0d9cd2fb77ffe3259ece0ca99c0e3dc"), looks := false }, kinds := [], alts := [], laidByText := true, laidKinds := [.data, .pinned], laidTests := true, laidLooks := .later }
def MetricsOffsetCardSaid : Prop := Claim7.holds Tryd.pinned (.plain (OpenSpec.ofChange metricsOffsetSpec)) metricsOffsetCard

/-- THE TIED CARD OF 'knapsacklaw15.MetricsWidth'. -/
def metricsWidthCard : Claim7 := { stood := { row := metricsWidthRow, standIns := [], harness := (true, "207f6d5a5a4c119dfe94cff70a070368e0d9cd2fb77ffe3259ece0ca99c0e3dc"), looks := false }, kinds := [], alts := [], laidByText := true, laidKinds := [.data, .pinned], laidTests := true, laidLooks := .later }
def MetricsWidthCardSaid : Prop := Claim7.holds Tryd.pinned (.plain (OpenSpec.ofChange metricsWidthSpec)) metricsWidthCard

/-- THE SECOND FORM's CARD OF 'knapsacklaw15.MetricsChars'. -/
def metricsCharsUptoCard : Claim7 := { stood := { row := metricsCharsUptoRow, standIns := [], harness := (true, "207f6d5a5a4c119dfe94cff70a070368e0d9cd2fb77ffe3259ece0ca99c0e3dc"), looks := false }, kinds := [], alts := [], laidByText := true, laidKinds := [.data, .pinned], laidTests := true, laidLooks := .later }
def MetricsCharsUptoCardSaid : Prop := Claim7.holds Tryd.pinned (.plain (OpenSpec.upto metricsCharsSpec)) metricsCharsUptoCard

/-- THE SECOND FORM's CARD OF 'knapsacklaw15.MetricsBreaks'. -/
def metricsBreaksUptoCard : Claim7 := { stood := { row := metricsBreaksUptoRow, standIns := [], harness := (true, "207f6d5a5a4c119dfe94cff70a070368e0d9cd2fb77ffe3259ece0ca99c0e3dc"), looks := false }, kinds := [], alts := [], laidByText := true, laidKinds := [.data, .pinned], laidTests := true, laidLooks := .later }
def MetricsBreaksUptoCardSaid : Prop := Claim7.holds Tryd.pinned (.plain (OpenSpec.upto metricsBreaksSpec)) metricsBreaksUptoCard

/-- THE SECOND FORM's CARD OF 'knapsacklaw15.MetricsLines'. -/
def metricsLinesUptoCard : Claim7 := { stood := { row := metricsLinesUptoRow, standIns := [], harness := (true, "207f6d5a5a4c119dfe94cff70a070368e0d9cd2fb77ffe3259ece0ca99c0e3dc"), looks := false }, kinds := [], alts := [], laidByText := true, laidKinds := [.data, .pinned], laidTests := true, laidLooks := .later }
def MetricsLinesUptoCardSaid : Prop := Claim7.holds Tryd.pinned (.plain (OpenSpec.upto metricsLinesSpec)) metricsLinesUptoCard

/-- THE SECOND FORM's CARD OF 'knapsacklaw15.MetricsCover'. -/
def metricsCoverUptoCard : Claim7 := { stood := { row := metricsCoverUptoRow, standIns := [], harness := (true, "207f6d5a5a4c119dfe94cff70a070368e0d9cd2fb77ffe3259ece0ca99c0e3dc"), looks := false }, kinds := [], alts := [], laidByText := true, laidKinds := [.data, .pinned], laidTests := true, laidLooks := .later }
def MetricsCoverUptoCardSaid : Prop := Claim7.holds Tryd.pinned (.plain (OpenSpec.upto metricsCoverSpec)) metricsCoverUptoCard

/-- THE SECOND FORM's CARD OF 'knapsacklaw15.MetricsNarrow'. -/
def metricsNarrowUptoCard : Claim7 := { stood := { row := metricsNarrowUptoRow, standIns := [], harness := (true, "207f6d5a5a4c119dfe94cff70a070368e0d9cd2fb77ffe3259ece0ca99c0e3dc"), looks := false }, kinds := [], alts := [], laidByText := true, laidKinds := [.data, .pinned], laidTests := true, laidLooks := .later }
def MetricsNarrowUptoCardSaid : Prop := Claim7.holds Tryd.pinned (.plain (OpenSpec.upto metricsNarrowSpec)) metricsNarrowUptoCard

/-- THE SECOND FORM's CARD OF 'knapsacklaw15.MetricsHeight'. -/
def metricsHeightUptoCard : Claim7 := { stood := { row := metricsHeightUptoRow, standIns := [], harness := (true, "207f6d5a5a4c119dfe94cff70a070368e0d9cd2fb77ffe3259ece0ca99c0e3dc"), looks := false }, kinds := [], alts := [], laidByText := true, laidKinds := [.data, .pinned], laidTests := true, laidLooks := .later }
def MetricsHeightUptoCardSaid : Prop := Claim7.holds Tryd.pinned (.plain (OpenSpec.upto metricsHeightSpec)) metricsHeightUptoCard

/-- THE SECOND FORM's CARD OF 'knapsacklaw15.MetricsFit'. -/
def metricsFitUptoCard : Claim7 := { stood := { row := metricsFitUptoRow, standIns := [], harness := (true, "207f6d5a5a4c119dfe94cff70a070368e0d9cd2fb77ffe3259ece0ca99c0e3dc"), looks := false }, kinds := [], alts := [], laidByText := true, laidKinds := [.data, .pinned], laidTests := true, laidLooks := .later }
def MetricsFitUptoCardSaid : Prop := Claim7.holds Tryd.pinned (.plain (OpenSpec.upto metricsFitSpec)) metricsFitUptoCard

/-- THE SECOND FORM's CARD OF 'knapsacklaw15.MetricsOffset'. -/
def metricsOffsetUptoCard : Claim7 := { stood := { row := metricsOffsetUptoRow, standIns := [], harness := (true, "207f6d5a5a4c119dfe94cff70a070368e0d9cd2fb77ffe3259ece0ca99c0e3dc"), looks := false }, kinds := [], alts := [], laidByText := true, laidKinds := [.data, .pinned], laidTests := true, laidLooks := .later }
def MetricsOffsetUptoCardSaid : Prop := Claim7.holds Tryd.pinned (.plain (OpenSpec.upto metricsOffsetSpec)) metricsOffsetUptoCard

/-- THE SECOND FORM's CARD OF 'knapsacklaw15.MetricsWidth'. -/
def metricsWidthUptoCard : Claim7 := { stood := { row := metricsWidthUptoRow, standIns := [], harness := (true, "207f6d5a5a4c119dfe94cff70a070368e0d9cd2fb77ffe3259ece0ca99c0e3dc"), looks := false }, kinds := [], alts := [], laidByText := true, laidKinds := [.data, .pinned], laidTests := true, laidLooks := .later }
def MetricsWidthUptoCardSaid : Prop := Claim7.holds Tryd.pinned (.plain (OpenSpec.upto metricsWidthSpec)) metricsWidthUptoCard
end Rows
end Go.Proofs.YtcpklmolofbopaaDoor
