/-
  No cell of these rows narrows 'for every input' (looked for: loops, veiled, ifaces, maps, wideKeys, modest, calm, conditions, laid).
  DERIVED. THE GIVEN ROWS OF THIS SEAT. 9 by the template 'for every input the law returns true; each argument reads behind the call as it read before'; 0 by the template 'total and deterministic' (their statements: YtpmdpbljgidllaaTotals.lean).
  GIVEN WITH THE SEED: the statements are not yours to turn. If you find one false, say at which input.
  Laid BY PROGRAM, IN A SANDBOX (cutbox-rows.mjs): the forced cells as the released guide's own fill.sh prints them over the translation 234f601ab0c32988… (all of the seat's roots in one cut). By AI agents, Wed Nov 11 2026. No macro, syntax, notation, axiom, sorry.
-/
import Derived.Test.YtpmdpbljgidllaaChecked
import GoSem.Claim
import GoSem.ClaimJoined
import GoSem.ClaimMapViews
import Derived.JoinedTies
import Derived.KernelRfl
namespace Go.Proofs.Ytpmdpbljgidllaa
/- THE CELL 'sum', in the pinned program and in every row, IS THE sha256 OF THE DUMP (.gsa) THAT YtpmdpbljgidllaaProg.lean LOADS. Nothing in Lean hashes anything: it is a label: what it is worth is what the hold of that sum in a sandbox is worth. -/
noncomputable def Try.pinned : Pinned := { name := "ytpmdpbljgidllaa", sum := "234f601ab0c32988cac5f16d3b846835d0047d2002e817672d1982fe56d70032", checked := Try.checked }
namespace Rows
def none {H : Type} : Left H := { results := [], args := [] }

/-- 'envelopelaw3.TapeChecks': WHATEVER THE INPUT: true; the input reads as it did. -/
def tapeChecksSpec : ChangeSpec := { name := "tapeChecks", fn := fun _ => fun
  | [d1, d2, d3, d4, d5, d6] => { results := [.lit (.bool true)], args := [d1, d2, d3, d4, d5, d6] }
  | _ => none }
def tapeChecksRow : OpenClaim := { program := "ytpmdpbljgidllaa", sum := "234f601ab0c32988cac5f16d3b846835d0047d2002e817672d1982fe56d70032", func := "envelope/envelopelaw3.TapeChecks", spec := "tapeChecks", inPlace := ["math.Float64bits", "math.Float64frombits"], unfollowed := true, recurses := true, apart := false }
def TapeChecksSaid : Prop := tapeChecksRow.holds Try.pinned (OpenSpec.ofChange tapeChecksSpec)

/-- ITS FALSE NEIGHBOUR: 'it returns false'. Refute it at one input. -/
def tapeChecksWrong : ChangeSpec := { name := "tapeChecks", fn := fun _ => fun
  | [d1, d2, d3, d4, d5, d6] => { results := [.lit (.bool false)], args := [d1, d2, d3, d4, d5, d6] }
  | _ => none }
def TapeChecksWrongFalsely : Prop := tapeChecksRow.holds Try.pinned (OpenSpec.ofChange tapeChecksWrong)

/-- 'envelopelaw3.TapeWider': WHATEVER THE INPUT: true; the input reads as it did. -/
def tapeWiderSpec : ChangeSpec := { name := "tapeWider", fn := fun _ => fun
  | [d1, d2, d3, d4, d5] => { results := [.lit (.bool true)], args := [d1, d2, d3, d4, d5] }
  | _ => none }
def tapeWiderRow : OpenClaim := { program := "ytpmdpbljgidllaa", sum := "234f601ab0c32988cac5f16d3b846835d0047d2002e817672d1982fe56d70032", func := "envelope/envelopelaw3.TapeWider", spec := "tapeWider", inPlace := ["math.Float64bits", "math.Float64frombits"], unfollowed := true, recurses := true, apart := false }
def TapeWiderSaid : Prop := tapeWiderRow.holds Try.pinned (OpenSpec.ofChange tapeWiderSpec)

/-- ITS FALSE NEIGHBOUR: 'it returns false'. Refute it at one input. -/
def tapeWiderWrong : ChangeSpec := { name := "tapeWider", fn := fun _ => fun
  | [d1, d2, d3, d4, d5] => { results := [.lit (.bool false)], args := [d1, d2, d3, d4, d5] }
  | _ => none }
def TapeWiderWrongFalsely : Prop := tapeWiderRow.holds Try.pinned (OpenSpec.ofChange tapeWiderWrong)

/-- 'envelopelaw3.TapeKnown': WHATEVER THE INPUT: true; the input reads as it did. -/
def tapeKnownSpec : ChangeSpec := { name := "tapeKnown", fn := fun _ => fun
  | [d] => { results := [.lit (.bool true)], args := [d] }
  | _ => none }
def tapeKnownRow : OpenClaim := { program := "ytpmdpbljgidllaa", sum := "234f601ab0c32988cac5f16d3b846835d0047d2002e817672d1982fe56d70032", func := "envelope/envelopelaw3.TapeKnown", spec := "tapeKnown", inPlace := ["math.Float64bits", "math.Float64frombits"], unfollowed := true, recurses := true, apart := false }
def TapeKnownSaid : Prop := tapeKnownRow.holds Try.pinned (OpenSpec.ofChange tapeKnownSpec)

/-- ITS FALSE NEIGHBOUR: 'it returns false'. Refute it at one input. -/
def tapeKnownWrong : ChangeSpec := { name := "tapeKnown", fn := fun _ => fun
  | [d] => { results := [.lit (.bool false)], args := [d] }
  | _ => none }
def TapeKnownWrongFalsely : Prop := tapeKnownRow.holds Try.pinned (OpenSpec.ofChange tapeKnownWrong)

/-- 'envelopelaw3.TapePoints': WHATEVER THE INPUT: true; the input reads as it did. -/
def tapePointsSpec : ChangeSpec := { name := "tapePoints", fn := fun _ => fun
  | [d1, d2, d3, d4] => { results := [.lit (.bool true)], args := [d1, d2, d3, d4] }
  | _ => none }
def tapePointsRow : OpenClaim := { program := "ytpmdpbljgidllaa", sum := "234f601ab0c32988cac5f16d3b846835d0047d2002e817672d1982fe56d70032", func := "envelope/envelopelaw3.TapePoints", spec := "tapePoints", inPlace := ["math.Float64bits", "math.Float64frombits"], unfollowed := true, recurses := true, apart := false }
def TapePointsSaid : Prop := tapePointsRow.holds Try.pinned (OpenSpec.ofChange tapePointsSpec)

/-- ITS FALSE NEIGHBOUR: 'it returns false'. Refute it at one input. -/
def tapePointsWrong : ChangeSpec := { name := "tapePoints", fn := fun _ => fun
  | [d1, d2, d3, d4] => { results := [.lit (.bool false)], args := [d1, d2, d3, d4] }
  | _ => none }
def TapePointsWrongFalsely : Prop := tapePointsRow.holds Try.pinned (OpenSpec.ofChange tapePointsWrong)

/-- 'envelopelaw3.TapeMore': WHATEVER THE INPUT: true; the input reads as it did. -/
def tapeMoreSpec : ChangeSpec := { name := "tapeMore", fn := fun _ => fun
  | [d1, d2, d3, d4, d5] => { results := [.lit (.bool true)], args := [d1, d2, d3, d4, d5] }
  | _ => none }
def tapeMoreRow : OpenClaim := { program := "ytpmdpbljgidllaa", sum := "234f601ab0c32988cac5f16d3b846835d0047d2002e817672d1982fe56d70032", func := "envelope/envelopelaw3.TapeMore", spec := "tapeMore", inPlace := ["math.Float64bits", "math.Float64frombits"], unfollowed := true, recurses := true, apart := false }
def TapeMoreSaid : Prop := tapeMoreRow.holds Try.pinned (OpenSpec.ofChange tapeMoreSpec)

/-- ITS FALSE NEIGHBOUR: 'it returns false'. Refute it at one input. -/
def tapeMoreWrong : ChangeSpec := { name := "tapeMore", fn := fun _ => fun
  | [d1, d2, d3, d4, d5] => { results := [.lit (.bool false)], args := [d1, d2, d3, d4, d5] }
  | _ => none }
def TapeMoreWrongFalsely : Prop := tapeMoreRow.holds Try.pinned (OpenSpec.ofChange tapeMoreWrong)

/-- 'envelopelaw3.TapeOwn': WHATEVER THE INPUT: true; the input reads as it did. -/
def tapeOwnSpec : ChangeSpec := { name := "tapeOwn", fn := fun _ => fun
  | [d1, d2, d3, d4] => { results := [.lit (.bool true)], args := [d1, d2, d3, d4] }
  | _ => none }
def tapeOwnRow : OpenClaim := { program := "ytpmdpbljgidllaa", sum := "234f601ab0c32988cac5f16d3b846835d0047d2002e817672d1982fe56d70032", func := "envelope/envelopelaw3.TapeOwn", spec := "tapeOwn", inPlace := ["math.Float64bits", "math.Float64frombits"], unfollowed := true, recurses := true, apart := false }
def TapeOwnSaid : Prop := tapeOwnRow.holds Try.pinned (OpenSpec.ofChange tapeOwnSpec)

/-- ITS FALSE NEIGHBOUR: 'it returns false'. Refute it at one input. -/
def tapeOwnWrong : ChangeSpec := { name := "tapeOwn", fn := fun _ => fun
  | [d1, d2, d3, d4] => { results := [.lit (.bool false)], args := [d1, d2, d3, d4] }
  | _ => none }
def TapeOwnWrongFalsely : Prop := tapeOwnRow.holds Try.pinned (OpenSpec.ofChange tapeOwnWrong)

/-- 'envelopelaw3.TapeSums': WHATEVER THE INPUT: true; the input reads as it did. -/
def tapeSumsSpec : ChangeSpec := { name := "tapeSums", fn := fun _ => fun
  | [d1, d2] => { results := [.lit (.bool true)], args := [d1, d2] }
  | _ => none }
def tapeSumsRow : OpenClaim := { program := "ytpmdpbljgidllaa", sum := "234f601ab0c32988cac5f16d3b846835d0047d2002e817672d1982fe56d70032", func := "envelope/envelopelaw3.TapeSums", spec := "tapeSums", inPlace := ["math.Float64bits", "math.Float64frombits"], unfollowed := true, recurses := true, apart := false }
def TapeSumsSaid : Prop := tapeSumsRow.holds Try.pinned (OpenSpec.ofChange tapeSumsSpec)

/-- ITS FALSE NEIGHBOUR: 'it returns false'. Refute it at one input. -/
def tapeSumsWrong : ChangeSpec := { name := "tapeSums", fn := fun _ => fun
  | [d1, d2] => { results := [.lit (.bool false)], args := [d1, d2] }
  | _ => none }
def TapeSumsWrongFalsely : Prop := tapeSumsRow.holds Try.pinned (OpenSpec.ofChange tapeSumsWrong)

/-- 'envelopelaw3.TapeHolds': WHATEVER THE INPUT: true; the input reads as it did. -/
def tapeHoldsSpec : ChangeSpec := { name := "tapeHolds", fn := fun _ => fun
  | [d1, d2, d3, d4] => { results := [.lit (.bool true)], args := [d1, d2, d3, d4] }
  | _ => none }
def tapeHoldsRow : OpenClaim := { program := "ytpmdpbljgidllaa", sum := "234f601ab0c32988cac5f16d3b846835d0047d2002e817672d1982fe56d70032", func := "envelope/envelopelaw3.TapeHolds", spec := "tapeHolds", inPlace := ["math.Float64bits", "math.Float64frombits", "math.archFloor", "math.archTrunc"], unfollowed := true, recurses := true, apart := false }
def TapeHoldsSaid : Prop := tapeHoldsRow.holds Try.pinned (OpenSpec.ofChange tapeHoldsSpec)

/-- ITS FALSE NEIGHBOUR: 'it returns false'. Refute it at one input. -/
def tapeHoldsWrong : ChangeSpec := { name := "tapeHolds", fn := fun _ => fun
  | [d1, d2, d3, d4] => { results := [.lit (.bool false)], args := [d1, d2, d3, d4] }
  | _ => none }
def TapeHoldsWrongFalsely : Prop := tapeHoldsRow.holds Try.pinned (OpenSpec.ofChange tapeHoldsWrong)

/-- 'envelopelaw3.TapeEvals': WHATEVER THE INPUT: true; the input reads as it did. -/
def tapeEvalsSpec : ChangeSpec := { name := "tapeEvals", fn := fun _ => fun
  | [d1, d2, d3, d4, d5, d6, d7] => { results := [.lit (.bool true)], args := [d1, d2, d3, d4, d5, d6, d7] }
  | _ => none }
def tapeEvalsRow : OpenClaim := { program := "ytpmdpbljgidllaa", sum := "234f601ab0c32988cac5f16d3b846835d0047d2002e817672d1982fe56d70032", func := "envelope/envelopelaw3.TapeEvals", spec := "tapeEvals", inPlace := ["math.Float64bits", "math.Float64frombits"], unfollowed := true, recurses := true, apart := false }
def TapeEvalsSaid : Prop := tapeEvalsRow.holds Try.pinned (OpenSpec.ofChange tapeEvalsSpec)

/-- ITS FALSE NEIGHBOUR: 'it returns false'. Refute it at one input. -/
def tapeEvalsWrong : ChangeSpec := { name := "tapeEvals", fn := fun _ => fun
  | [d1, d2, d3, d4, d5, d6, d7] => { results := [.lit (.bool false)], args := [d1, d2, d3, d4, d5, d6, d7] }
  | _ => none }
def TapeEvalsWrongFalsely : Prop := tapeEvalsRow.holds Try.pinned (OpenSpec.ofChange tapeEvalsWrong)

/- THE SECOND FORM. 'bulk': how many values and letters a reading holds, each counted each time it is reached (what is shared counts as often as it is met; a slice's spare places count too). A statement '..UptoSaid' is the law's where the arguments, and the package variables that the reading takes, are together of bulk at most 1048576: NARROWER than '..Said'. Prove '..Said' where nothing that the law and all that it calls make is longer than what came in: it says more and counts as full. Else prove '..UptoSaid'. A law counts once. -/
mutual
def uptoBulk {H : Type} : DataW H → Nat
  | .lit (.string bytes) => bytes.length + 1
  | .lit _ => 1
  | .nil => 1
  | .ptr d => uptoBulk d + 1
  | .slice elems spare => uptoBulkAll elems + uptoBulkAll spare + 1
  | .agg parts => uptoBulkAll parts + 1
  | .iface _ d => uptoBulk d + 1
  | .map entries => uptoBulkEntries entries + 1
  | .held _ => 1
def uptoBulkAll {H : Type} : List (DataW H) → Nat
  | [] => 0
  | d :: r => uptoBulk d + uptoBulkAll r
def uptoBulkEntries {H : Type} : List (Lit × DataW H) → Nat
  | [] => 0
  | x :: r => uptoBulkEntry x + uptoBulkEntries r
def uptoBulkEntry {H : Type} : Lit × DataW H → Nat
  | (.string bytes, d) => bytes.length + uptoBulk d + 1
  | (_, d) => uptoBulk d + 1
 end
def uptoSmall : (H : Type) → List (DataW H) → Bool := fun _ ds => decide (uptoBulkAll ds ≤ 1048576)
def OpenSpec.upto (s : _root_.Go.ChangeSpec) : _root_.Go.OpenSpec := { _root_.Go.OpenSpec.ofChange s with cond := some uptoSmall }

/-- 'envelopelaw3.TapeChecks', WHERE WHAT IT READS IS OF BULK AT MOST 1048576: true; the input reads as it did. -/
def tapeChecksUptoRow : OpenClaim := { program := "ytpmdpbljgidllaa", sum := "234f601ab0c32988cac5f16d3b846835d0047d2002e817672d1982fe56d70032", func := "envelope/envelopelaw3.TapeChecks", spec := "tapeChecks", inPlace := ["math.Float64bits", "math.Float64frombits"], unfollowed := true, recurses := true, apart := false, narrowed := true }
def TapeChecksUptoSaid : Prop := tapeChecksUptoRow.holds Try.pinned (OpenSpec.upto tapeChecksSpec)

/-- 'envelopelaw3.TapeWider', WHERE WHAT IT READS IS OF BULK AT MOST 1048576: true; the input reads as it did. -/
def tapeWiderUptoRow : OpenClaim := { program := "ytpmdpbljgidllaa", sum := "234f601ab0c32988cac5f16d3b846835d0047d2002e817672d1982fe56d70032", func := "envelope/envelopelaw3.TapeWider", spec := "tapeWider", inPlace := ["math.Float64bits", "math.Float64frombits"], unfollowed := true, recurses := true, apart := false, narrowed := true }
def TapeWiderUptoSaid : Prop := tapeWiderUptoRow.holds Try.pinned (OpenSpec.upto tapeWiderSpec)

/-- 'envelopelaw3.TapeKnown', WHERE WHAT IT READS IS OF BULK AT MOST 1048576: true; the input reads as it did. -/
def tapeKnownUptoRow : OpenClaim := { program := "ytpmdpbljgidllaa", sum := "234f601ab0c32988cac5f16d3b846835d0047d2002e817672d1982fe56d70032", func := "envelope/envelopelaw3.TapeKnown", spec := "tapeKnown", inPlace := ["math.Float64bits", "math.Float64frombits"], unfollowed := true, recurses := true, apart := false, narrowed := true }
def TapeKnownUptoSaid : Prop := tapeKnownUptoRow.holds Try.pinned (OpenSpec.upto tapeKnownSpec)

/-- 'envelopelaw3.TapePoints', WHERE WHAT IT READS IS OF BULK AT MOST 1048576: true; the input reads as it did. -/
def tapePointsUptoRow : OpenClaim := { program := "ytpmdpbljgidllaa", sum := "234f601ab0c32988cac5f16d3b846835d0047d2002e817672d1982fe56d70032", func := "envelope/envelopelaw3.TapePoints", spec := "tapePoints", inPlace := ["math.Float64bits", "math.Float64frombits"], unfollowed := true, recurses := true, apart := false, narrowed := true }
def TapePointsUptoSaid : Prop := tapePointsUptoRow.holds Try.pinned (OpenSpec.upto tapePointsSpec)

/-- 'envelopelaw3.TapeMore', WHERE WHAT IT READS IS OF BULK AT MOST 1048576: true; the input reads as it did. -/
def tapeMoreUptoRow : OpenClaim := { program := "ytpmdpbljgidllaa", sum := "234f601ab0c32988cac5f16d3b846835d0047d2002e817672d1982fe56d70032", func := "envelope/envelopelaw3.TapeMore", spec := "tapeMore", inPlace := ["math.Float64bits", "math.Float64frombits"], unfollowed := true, recurses := true, apart := false, narrowed := true }
def TapeMoreUptoSaid : Prop := tapeMoreUptoRow.holds Try.pinned (OpenSpec.upto tapeMoreSpec)

/-- 'envelopelaw3.TapeOwn', WHERE WHAT IT READS IS OF BULK AT MOST 1048576: true; the input reads as it did. -/
def tapeOwnUptoRow : OpenClaim := { program := "ytpmdpbljgidllaa", sum := "234f601ab0c32988cac5f16d3b846835d0047d2002e817672d1982fe56d70032", func := "envelope/envelopelaw3.TapeOwn", spec := "tapeOwn", inPlace := ["math.Float64bits", "math.Float64frombits"], unfollowed := true, recurses := true, apart := false, narrowed := true }
def TapeOwnUptoSaid : Prop := tapeOwnUptoRow.holds Try.pinned (OpenSpec.upto tapeOwnSpec)

/-- 'envelopelaw3.TapeSums', WHERE WHAT IT READS IS OF BULK AT MOST 1048576: true; the input reads as it did. -/
def tapeSumsUptoRow : OpenClaim := { program := "ytpmdpbljgidllaa", sum := "234f601ab0c32988cac5f16d3b846835d0047d2002e817672d1982fe56d70032", func := "envelope/envelopelaw3.TapeSums", spec := "tapeSums", inPlace := ["math.Float64bits", "math.Float64frombits"], unfollowed := true, recurses := true, apart := false, narrowed := true }
def TapeSumsUptoSaid : Prop := tapeSumsUptoRow.holds Try.pinned (OpenSpec.upto tapeSumsSpec)

/-- 'envelopelaw3.TapeHolds', WHERE WHAT IT READS IS OF BULK AT MOST 1048576: true; the input reads as it did. -/
def tapeHoldsUptoRow : OpenClaim := { program := "ytpmdpbljgidllaa", sum := "234f601ab0c32988cac5f16d3b846835d0047d2002e817672d1982fe56d70032", func := "envelope/envelopelaw3.TapeHolds", spec := "tapeHolds", inPlace := ["math.Float64bits", "math.Float64frombits", "math.archFloor", "math.archTrunc"], unfollowed := true, recurses := true, apart := false, narrowed := true }
def TapeHoldsUptoSaid : Prop := tapeHoldsUptoRow.holds Try.pinned (OpenSpec.upto tapeHoldsSpec)

/-- 'envelopelaw3.TapeEvals', WHERE WHAT IT READS IS OF BULK AT MOST 1048576: true; the input reads as it did. -/
def tapeEvalsUptoRow : OpenClaim := { program := "ytpmdpbljgidllaa", sum := "234f601ab0c32988cac5f16d3b846835d0047d2002e817672d1982fe56d70032", func := "envelope/envelopelaw3.TapeEvals", spec := "tapeEvals", inPlace := ["math.Float64bits", "math.Float64frombits"], unfollowed := true, recurses := true, apart := false, narrowed := true }
def TapeEvalsUptoSaid : Prop := tapeEvalsUptoRow.holds Try.pinned (OpenSpec.upto tapeEvalsSpec)

end Rows
end Go.Proofs.Ytpmdpbljgidllaa
