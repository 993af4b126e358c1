/-
  DERIVED. GIVEN WITH THE SEED: THE CARDS: each row of YtgebbomkinmenaaDoorRows.lean that lists a variable, with what it lists TIED to the program's text (the seventh form; the later family's looks); each row that meets fmt, with fmt's text TOLD by the authors' own Lean function (tested against real Go, not proved from fmt's source: count such statements apart). THE CARD IS WHAT COUNTS. Prove the row's statement (the work); the ties are given (YtgebbomkinmenaaDoorTie.lean); close each card by the builder's one call (the guide's Derived/Test/ToyasCard.lean, 'card_holds'). Laid BY PROGRAM, IN A SANDBOX (cutbox-door.mjs). By AI agents, Wed Nov 11 2026. No macro, syntax, notation, axiom, sorry.
-/
import Derived.Test.YtgebbomkinmenaaDoorRows
import GoSem.ClaimSeven
namespace Go.Proofs.YtgebbomkinmenaaDoor
namespace Rows

/-- THE TIED CARD OF 'laws.FnExactEncodeNet'. -/
def fnExactEncodeNetCard : Claim7 := { stood := { row := fnExactEncodeNetRow, standIns := [], harness := (true, "e23b361cd685286efe1cf11c77d01f9c7d39135e123608b1b1670af5de2df507"), looks := false }, kinds := [], alts := [], laidByText := true, laidKinds := [.data, .data, .data], laidTests := true, laidLooks := .later }
def FnExactEncodeNetCardSaid : Prop := Claim7.holds Tryd.pinned (.plain (OpenSpec.ofChange fnExactEncodeNetSpec)) fnExactEncodeNetCard

/-- THE TIED CARD OF 'laws.FnRoundTrip'. -/
def fnRoundTripCard : Claim7 := { stood := { row := fnRoundTripRow, standIns := [], harness := (true, "e23b361cd685286efe1cf11c77d01f9c7d39135e123608b1b1670af5de2df507"), looks := false }, kinds := [], alts := [], laidByText := true, laidKinds := [.data, .data, .data], laidTests := true, laidLooks := .later }
def FnRoundTripCardSaid : Prop := Claim7.holds Tryd.pinned (.plain (OpenSpec.ofChange fnRoundTripSpec)) fnRoundTripCard

/-- THE SECOND FORM's CARD OF 'laws.FnExactEncodeNet'. -/
def fnExactEncodeNetUptoCard : Claim7 := { stood := { row := fnExactEncodeNetUptoRow, standIns := [], harness := (true, "e23b361cd685286efe1cf11c77d01f9c7d39135e123608b1b1670af5de2df507"), looks := false }, kinds := [], alts := [], laidByText := true, laidKinds := [.data, .data, .data], laidTests := true, laidLooks := .later }
def FnExactEncodeNetUptoCardSaid : Prop := Claim7.holds Tryd.pinned (.plain (OpenSpec.upto fnExactEncodeNetSpec)) fnExactEncodeNetUptoCard

/-- THE SECOND FORM's CARD OF 'laws.FnRoundTrip'. -/
def fnRoundTripUptoCard : Claim7 := { stood := { row := fnRoundTripUptoRow, standIns := [], harness := (true, "e23b361cd685286efe1cf11c77d01f9c7d39135e123608b1b1670af5de2df507"), looks := false }, kinds := [], alts := [], laidByText := true, laidKinds := [.data, .data, .data], laidTests := true, laidLooks := .later }
def FnRoundTripUptoCardSaid : Prop := Claim7.holds Tryd.pinned (.plain (OpenSpec.upto fnRoundTripSpec)) fnRoundTripUptoCard
end Rows
end Go.Proofs.YtgebbomkinmenaaDoor
