/-
  DERIVED. GIVEN WITH THE SEED: THE CARDS: each row of YtameamgamdaibaaDoorRows.lean that lists a variable, with what it lists TIED to the program's text (the seventh form; the later family's looks); each row that meets fmt, with fmt's text TOLD by the authors' own Lean function (tested against real Go, not proved from fmt's source: count such statements apart). THE CARD IS WHAT COUNTS. Prove the row's statement (the work); the ties are given (YtameamgamdaibaaDoorTie.lean); close each card by the builder's one call (the guide's Derived/Test/ToyasCard.lean, 'card_holds'). Laid BY PROGRAM, IN A SANDBOX (cutbox-door.mjs). By AI agents, Wed Nov 11 2026. No macro, syntax, notation, axiom, sorry.
-/
import Derived.Test.YtameamgamdaibaaDoorRows
import GoSem.ClaimSeven
namespace Go.Proofs.YtameamgamdaibaaDoor
namespace Rows

/-- THE TIED CARD OF 'envelopelaw13.ScriptKnown'. -/
def scriptKnownCard : Claim7 := { stood := { row := scriptKnownRow, standIns := [], harness := (true, "b0a1d3c9a00c4a5405099d95cdf10c9c19600b5f4f42062ac41acbd7102ca053"), looks := true }, kinds := [], alts := [], laidByText := true, laidKinds := [.data, .data, .data, .data, .sentinel, .sentinel, .pinned], laidTests := true, laidLooks := .later }
def ScriptKnownCardSaid : Prop := Claim7.holds Tryd.pinned (.plain (OpenSpec.ofChange scriptKnownSpec)) scriptKnownCard

/-- THE TIED CARD OF 'envelopelaw13.ScriptWrong'. -/
def scriptWrongCard : Claim7 := { stood := { row := scriptWrongRow, standIns := [], harness := (true, "b0a1d3c9a00c4a5405099d95cdf10c9c19600b5f4f42062ac41acbd7102ca053"), looks := true }, kinds := [], alts := [], laidByText := true, laidKinds := [.data, .data, .data, .data, .sentinel, .sentinel, .pinned], laidTests := true, laidLooks := .later }
def ScriptWrongCardSaid : Prop := Claim7.holds Tryd.pinned (.plain (OpenSpec.ofChange scriptWrongSpec)) scriptWrongCard

/-- THE TIED CARD OF 'envelopelaw13.ScriptLong'. -/
def scriptLongCard : Claim7 := { stood := { row := scriptLongRow, standIns := [], harness := (true, "b0a1d3c9a00c4a5405099d95cdf10c9c19600b5f4f42062ac41acbd7102ca053"), looks := true }, kinds := [], alts := [], laidByText := true, laidKinds := [.data, .data, .data, .data, .sentinel, .sentinel, .pinned], laidTests := true, laidLooks := .later }
def ScriptLongCardSaid : Prop := Claim7.holds Tryd.pinned (.plain (OpenSpec.ofChange scriptLongSpec)) scriptLongCard

/-- THE SECOND FORM's CARD OF 'envelopelaw13.ScriptKnown'. -/
def scriptKnownUptoCard : Claim7 := { stood := { row := scriptKnownUptoRow, standIns := [], harness := (true, "b0a1d3c9a00c4a5405099d95cdf10c9c19600b5f4f42062ac41acbd7102ca053"), looks := true }, kinds := [], alts := [], laidByText := true, laidKinds := [.data, .data, .data, .data, .sentinel, .sentinel, .pinned], laidTests := true, laidLooks := .later }
def ScriptKnownUptoCardSaid : Prop := Claim7.holds Tryd.pinned (.plain (OpenSpec.upto scriptKnownSpec)) scriptKnownUptoCard

/-- THE SECOND FORM's CARD OF 'envelopelaw13.ScriptWrong'. -/
def scriptWrongUptoCard : Claim7 := { stood := { row := scriptWrongUptoRow, standIns := [], harness := (true, "b0a1d3c9a00c4a5405099d95cdf10c9c19600b5f4f42062ac41acbd7102ca053"), looks := true }, kinds := [], alts := [], laidByText := true, laidKinds := [.data, .data, .data, .data, .sentinel, .sentinel, .pinned], laidTests := true, laidLooks := .later }
def ScriptWrongUptoCardSaid : Prop := Claim7.holds Tryd.pinned (.plain (OpenSpec.upto scriptWrongSpec)) scriptWrongUptoCard

/-- THE SECOND FORM's CARD OF 'envelopelaw13.ScriptLong'. -/
def scriptLongUptoCard : Claim7 := { stood := { row := scriptLongUptoRow, standIns := [], harness := (true, "b0a1d3c9a00c4a5405099d95cdf10c9c19600b5f4f42062ac41acbd7102ca053"), looks := true }, kinds := [], alts := [], laidByText := true, laidKinds := [.data, .data, .data, .data, .sentinel, .sentinel, .pinned], laidTests := true, laidLooks := .later }
def ScriptLongUptoCardSaid : Prop := Claim7.holds Tryd.pinned (.plain (OpenSpec.upto scriptLongSpec)) scriptLongUptoCard
end Rows
end Go.Proofs.YtameamgamdaibaaDoor
