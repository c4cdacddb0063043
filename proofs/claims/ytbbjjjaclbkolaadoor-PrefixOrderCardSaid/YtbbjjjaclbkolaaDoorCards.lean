/-
  DERIVED. GIVEN WITH THE SEED: THE CARDS: each row of YtbbjjjaclbkolaaDoorRows.lean that lists a variable, with what it lists TIED to the program's text (the seventh form; the later family's looks); each row that meets fmt, with fmt's text TOLD by the authors' own Lean function (tested against real Go, not proved from fmt's source: count such statements apart). THE CARD IS WHAT COUNTS. Prove the row's statement (the work); the ties are given (YtbbjjjaclbkolaaDoorTie.lean); close each card by the builder's one call (the guide's Derived/Test/ToyasCard.lean, 'card_holds'). Laid BY PROGRAM, IN A SANDBOX (cutbox-door.mjs). By AI agents, Wed Nov 11 2026. No macro, syntax, notation, axiom, sorry.
-/
import Derived.Test.YtbbjjjaclbkolaaDoorRows
import GoSem.ClaimSeven
namespace Go.Proofs.YtbbjjjaclbkolaaDoor
namespace Rows

/-- THE TIED CARD OF 'waypointlaw04.PrefixText'. -/
def prefixTextCard : Claim7 := { stood := { row := prefixTextRow, standIns := [], harness := (true, "83c67fa187e2cca1a37564437a9d8fea164d1f11ddffe3fed510b0fcccb9ff3f"), looks := true }, kinds := [], alts := [], laidByText := true, laidKinds := [.data, .data, .data, .data, .sentinel, .sentinel, .pinned], laidTests := true, laidLooks := .later }
def PrefixTextCardSaid : Prop := Claim7.holds Tryd.pinned (.plain (OpenSpec.ofChange prefixTextSpec)) prefixTextCard

/-- THE TIED CARD OF 'waypointlaw04.PrefixParse'. -/
def prefixParseCard : Claim7 := { stood := { row := prefixParseRow, standIns := [], harness := (true, "83c67fa187e2cca1a37564437a9d8fea164d1f11ddffe3fed510b0fcccb9ff3f"), looks := true }, kinds := [], alts := [], laidByText := true, laidKinds := [.data, .data, .data, .data, .sentinel, .sentinel, .pinned], laidTests := true, laidLooks := .later }
def PrefixParseCardSaid : Prop := Claim7.holds Tryd.pinned (.plain (OpenSpec.ofChange prefixParseSpec)) prefixParseCard

/-- THE TIED CARD OF 'waypointlaw04.PrefixNested'. -/
def prefixNestedCard : Claim7 := { stood := { row := prefixNestedRow, standIns := [], harness := (true, "83c67fa187e2cca1a37564437a9d8fea164d1f11ddffe3fed510b0fcccb9ff3f"), looks := true }, kinds := [], alts := [], laidByText := true, laidKinds := [.data, .data, .data, .data, .sentinel, .sentinel, .pinned], laidTests := true, laidLooks := .later }
def PrefixNestedCardSaid : Prop := Claim7.holds Tryd.pinned (.plain (OpenSpec.ofChange prefixNestedSpec)) prefixNestedCard

/-- THE TIED CARD OF 'waypointlaw04.PrefixSplit'. -/
def prefixSplitCard : Claim7 := { stood := { row := prefixSplitRow, standIns := [], harness := (true, "83c67fa187e2cca1a37564437a9d8fea164d1f11ddffe3fed510b0fcccb9ff3f"), looks := true }, kinds := [], alts := [], laidByText := true, laidKinds := [.data, .data, .data, .data, .sentinel, .sentinel, .pinned], laidTests := true, laidLooks := .later }
def PrefixSplitCardSaid : Prop := Claim7.holds Tryd.pinned (.plain (OpenSpec.ofChange prefixSplitSpec)) prefixSplitCard

/-- THE TIED CARD OF 'waypointlaw04.PrefixContains'. -/
def prefixContainsCard : Claim7 := { stood := { row := prefixContainsRow, standIns := [], harness := (true, "83c67fa187e2cca1a37564437a9d8fea164d1f11ddffe3fed510b0fcccb9ff3f"), looks := true }, kinds := [], alts := [], laidByText := true, laidKinds := [.data, .data, .data, .data, .sentinel, .sentinel, .pinned], laidTests := true, laidLooks := .later }
def PrefixContainsCardSaid : Prop := Claim7.holds Tryd.pinned (.plain (OpenSpec.ofChange prefixContainsSpec)) prefixContainsCard

/-- THE TIED CARD OF 'waypointlaw04.PrefixSame'. -/
def prefixSameCard : Claim7 := { stood := { row := prefixSameRow, standIns := [], harness := (true, "83c67fa187e2cca1a37564437a9d8fea164d1f11ddffe3fed510b0fcccb9ff3f"), looks := true }, kinds := [], alts := [], laidByText := true, laidKinds := [.data, .data, .data, .data, .sentinel, .sentinel, .pinned], laidTests := true, laidLooks := .later }
def PrefixSameCardSaid : Prop := Claim7.holds Tryd.pinned (.plain (OpenSpec.ofChange prefixSameSpec)) prefixSameCard

/-- THE TIED CARD OF 'waypointlaw04.PrefixOrder'. -/
def prefixOrderCard : Claim7 := { stood := { row := prefixOrderRow, standIns := [], harness := (true, "83c67fa187e2cca1a37564437a9d8fea164d1f11ddffe3fed510b0fcccb9ff3f"), looks := true }, kinds := [], alts := [], laidByText := true, laidKinds := [.data, .data, .data, .data, .sentinel, .sentinel, .pinned], laidTests := true, laidLooks := .later }
def PrefixOrderCardSaid : Prop := Claim7.holds Tryd.pinned (.plain (OpenSpec.ofChange prefixOrderSpec)) prefixOrderCard

/-- THE SECOND FORM's CARD OF 'waypointlaw04.PrefixText'. -/
def prefixTextUptoCard : Claim7 := { stood := { row := prefixTextUptoRow, standIns := [], harness := (true, "83c67fa187e2cca1a37564437a9d8fea164d1f11ddffe3fed510b0fcccb9ff3f"), looks := true }, kinds := [], alts := [], laidByText := true, laidKinds := [.data, .data, .data, .data, .sentinel, .sentinel, .pinned], laidTests := true, laidLooks := .later }
def PrefixTextUptoCardSaid : Prop := Claim7.holds Tryd.pinned (.plain (OpenSpec.upto prefixTextSpec)) prefixTextUptoCard

/-- THE SECOND FORM's CARD OF 'waypointlaw04.PrefixParse'. -/
def prefixParseUptoCard : Claim7 := { stood := { row := prefixParseUptoRow, standIns := [], harness := (true, "83c67fa187e2cca1a37564437a9d8fea164d1f11ddffe3fed510b0fcccb9ff3f"), looks := true }, kinds := [], alts := [], laidByText := true, laidKinds := [.data, .data, .data, .data, .sentinel, .sentinel, .pinned], laidTests := true, laidLooks := .later }
def PrefixParseUptoCardSaid : Prop := Claim7.holds Tryd.pinned (.plain (OpenSpec.upto prefixParseSpec)) prefixParseUptoCard

/-- THE SECOND FORM's CARD OF 'waypointlaw04.PrefixNested'. -/
def prefixNestedUptoCard : Claim7 := { stood := { row := prefixNestedUptoRow, standIns := [], harness := (true, "83c67fa187e2cca1a37564437a9d8fea164d1f11ddffe3fed510b0fcccb9ff3f"), looks := true }, kinds := [], alts := [], laidByText := true, laidKinds := [.data, .data, .data, .data, .sentinel, .sentinel, .pinned], laidTests := true, laidLooks := .later }
def PrefixNestedUptoCardSaid : Prop := Claim7.holds Tryd.pinned (.plain (OpenSpec.upto prefixNestedSpec)) prefixNestedUptoCard

/-- THE SECOND FORM's CARD OF 'waypointlaw04.PrefixSplit'. -/
def prefixSplitUptoCard : Claim7 := { stood := { row := prefixSplitUptoRow, standIns := [], harness := (true, "83c67fa187e2cca1a37564437a9d8fea164d1f11ddffe3fed510b0fcccb9ff3f"), looks := true }, kinds := [], alts := [], laidByText := true, laidKinds := [.data, .data, .data, .data, .sentinel, .sentinel, .pinned], laidTests := true, laidLooks := .later }
def PrefixSplitUptoCardSaid : Prop := Claim7.holds Tryd.pinned (.plain (OpenSpec.upto prefixSplitSpec)) prefixSplitUptoCard

/-- THE SECOND FORM's CARD OF 'waypointlaw04.PrefixContains'. -/
def prefixContainsUptoCard : Claim7 := { stood := { row := prefixContainsUptoRow, standIns := [], harness := (true, "83c67fa187e2cca1a37564437a9d8fea164d1f11ddffe3fed510b0fcccb9ff3f"), looks := true }, kinds := [], alts := [], laidByText := true, laidKinds := [.data, .data, .data, .data, .sentinel, .sentinel, .pinned], laidTests := true, laidLooks := .later }
def PrefixContainsUptoCardSaid : Prop := Claim7.holds Tryd.pinned (.plain (OpenSpec.upto prefixContainsSpec)) prefixContainsUptoCard

/-- THE SECOND FORM's CARD OF 'waypointlaw04.PrefixSame'. -/
def prefixSameUptoCard : Claim7 := { stood := { row := prefixSameUptoRow, standIns := [], harness := (true, "83c67fa187e2cca1a37564437a9d8fea164d1f11ddffe3fed510b0fcccb9ff3f"), looks := true }, kinds := [], alts := [], laidByText := true, laidKinds := [.data, .data, .data, .data, .sentinel, .sentinel, .pinned], laidTests := true, laidLooks := .later }
def PrefixSameUptoCardSaid : Prop := Claim7.holds Tryd.pinned (.plain (OpenSpec.upto prefixSameSpec)) prefixSameUptoCard

/-- THE SECOND FORM's CARD OF 'waypointlaw04.PrefixOrder'. -/
def prefixOrderUptoCard : Claim7 := { stood := { row := prefixOrderUptoRow, standIns := [], harness := (true, "83c67fa187e2cca1a37564437a9d8fea164d1f11ddffe3fed510b0fcccb9ff3f"), looks := true }, kinds := [], alts := [], laidByText := true, laidKinds := [.data, .data, .data, .data, .sentinel, .sentinel, .pinned], laidTests := true, laidLooks := .later }
def PrefixOrderUptoCardSaid : Prop := Claim7.holds Tryd.pinned (.plain (OpenSpec.upto prefixOrderSpec)) prefixOrderUptoCard
end Rows
end Go.Proofs.YtbbjjjaclbkolaaDoor
