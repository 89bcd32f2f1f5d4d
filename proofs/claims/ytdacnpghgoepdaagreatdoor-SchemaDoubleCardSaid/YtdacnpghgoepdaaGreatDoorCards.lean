/-
  DERIVED. GIVEN WITH THE SEED: THE CARDS: each row of YtdacnpghgoepdaaGreatDoorRows.lean that lists a variable, with what it lists TIED to the program's text (the seventh form; the later family's looks); each row that meets fmt, with fmt's text TOLD by the authors' own Lean function (tested against real Go, not proved from fmt's source: count such statements apart). THE CARD IS WHAT COUNTS. Prove the row's statement (the work); the ties are given (YtdacnpghgoepdaaGreatDoorTie.lean); close each card by the builder's one call (the guide's Derived/Test/ToyasCard.lean, 'card_holds'). Laid BY PROGRAM, IN A SANDBOX (cutbox-door.mjs). By AI agents, Wed Nov 11 2026. No macro, syntax, notation, axiom, sorry.
-/
import Derived.Test.YtdacnpghgoepdaaGreatDoorRows
import GoSem.ClaimSeven
namespace Go.Proofs.YtdacnpghgoepdaaGreatDoor
namespace Rows

/-- THE TIED CARD OF 'chancerylaw6.SchemaDouble'. -/
def schemaDoubleCard : Claim7 := { stood := { row := schemaDoubleRow, standIns := [], harness := (true, "281a3701bc94dfcee9d8a3584b3d064e961c461974edca6f3fd0cd98c617fd4b"), looks := true }, kinds := [], alts := [], laidByText := true, laidKinds := [.data, .pinned], laidTests := true, laidLooks := .later }
def SchemaDoubleCardSaid : Prop := Claim7.holds Tryz.pinned (.plain (OpenSpec.ofChange schemaDoubleSpec)) schemaDoubleCard

/-- THE TIED CARD OF 'chancerylaw19.ConfigOnce'. -/
def configOnceCard : Claim7 := { stood := { row := configOnceRow, standIns := [], harness := (true, "281a3701bc94dfcee9d8a3584b3d064e961c461974edca6f3fd0cd98c617fd4b"), looks := true }, kinds := [], alts := [], laidByText := true, laidKinds := [.data, .data, .data, .data, .sentinel, .sentinel, .pinned], laidTests := true, laidLooks := .later }
def ConfigOnceCardSaid : Prop := Claim7.holds Tryz.pinned (.plain (OpenSpec.ofChange configOnceSpec)) configOnceCard

/-- THE TIED CARD OF 'chancerylaw19.ConfigNone'. -/
def configNoneCard : Claim7 := { stood := { row := configNoneRow, standIns := [], harness := (true, "281a3701bc94dfcee9d8a3584b3d064e961c461974edca6f3fd0cd98c617fd4b"), looks := true }, kinds := [], alts := [], laidByText := true, laidKinds := [.data, .data, .data, .data, .sentinel, .sentinel, .pinned], laidTests := true, laidLooks := .later }
def ConfigNoneCardSaid : Prop := Claim7.holds Tryz.pinned (.plain (OpenSpec.ofChange configNoneSpec)) configNoneCard

/-- THE SECOND FORM's CARD OF 'chancerylaw6.SchemaDouble'. -/
def schemaDoubleUptoCard : Claim7 := { stood := { row := schemaDoubleUptoRow, standIns := [], harness := (true, "281a3701bc94dfcee9d8a3584b3d064e961c461974edca6f3fd0cd98c617fd4b"), looks := true }, kinds := [], alts := [], laidByText := true, laidKinds := [.data, .pinned], laidTests := true, laidLooks := .later }
def SchemaDoubleUptoCardSaid : Prop := Claim7.holds Tryz.pinned (.plain (OpenSpec.upto schemaDoubleSpec)) schemaDoubleUptoCard

/-- THE SECOND FORM's CARD OF 'chancerylaw19.ConfigOnce'. -/
def configOnceUptoCard : Claim7 := { stood := { row := configOnceUptoRow, standIns := [], harness := (true, "281a3701bc94dfcee9d8a3584b3d064e961c461974edca6f3fd0cd98c617fd4b"), looks := true }, kinds := [], alts := [], laidByText := true, laidKinds := [.data, .data, .data, .data, .sentinel, .sentinel, .pinned], laidTests := true, laidLooks := .later }
def ConfigOnceUptoCardSaid : Prop := Claim7.holds Tryz.pinned (.plain (OpenSpec.upto configOnceSpec)) configOnceUptoCard

/-- THE SECOND FORM's CARD OF 'chancerylaw19.ConfigNone'. -/
def configNoneUptoCard : Claim7 := { stood := { row := configNoneUptoRow, standIns := [], harness := (true, "281a3701bc94dfcee9d8a3584b3d064e961c461974edca6f3fd0cd98c617fd4b"), looks := true }, kinds := [], alts := [], laidByText := true, laidKinds := [.data, .data, .data, .data, .sentinel, .sentinel, .pinned], laidTests := true, laidLooks := .later }
def ConfigNoneUptoCardSaid : Prop := Claim7.holds Tryz.pinned (.plain (OpenSpec.upto configNoneSpec)) configNoneUptoCard
end Rows
end Go.Proofs.YtdacnpghgoepdaaGreatDoor
