/-
  No cell of these rows narrows 'for every input' (looked for: loops, veiled, ifaces, maps, wideKeys, modest, calm, conditions, laid).
  DERIVED. THE GIVEN ROWS OF THIS SEAT. 9 by the template 'for every input the law returns true; each argument reads behind the call as it read before'; 0 by the template 'total and deterministic' (their statements: YtdlinjijccnaeaaTotals.lean).
  GIVEN WITH THE SEED: the statements are not yours to turn. If you find one false, say at which input.
  Laid BY PROGRAM, IN A SANDBOX (cutbox-rows.mjs): the forced cells as the released guide's own fill.sh prints them over the translation 18c52f11f6e90f0a… (all of the seat's roots in one cut). By AI agents, Wed Nov 11 2026. No macro, syntax, notation, axiom, sorry.
-/
import Derived.Test.YtdlinjijccnaeaaChecked
import GoSem.Claim
import GoSem.ClaimJoined
import GoSem.ClaimMapViews
import Derived.JoinedTies
import Derived.KernelRfl
namespace Go.Proofs.Ytdlinjijccnaeaa
/- THE CELL 'sum', in the pinned program and in every row, IS THE sha256 OF THE DUMP (.gsa) THAT YtdlinjijccnaeaaProg.lean LOADS. Nothing in Lean hashes anything: it is a label: what it is worth is what the hold of that sum in a sandbox is worth. -/
noncomputable def Try.pinned : Pinned := { name := "ytdlinjijccnaeaa", sum := "18c52f11f6e90f0ab766c7989913510047da7b93ceab689b19f3b75cf2bf297d", checked := Try.checked }
namespace Rows
def none {H : Type} : Left H := { results := [], args := [] }

/-- 'envelopelaw4.JacNorm': WHATEVER THE INPUT: true; the input reads as it did. -/
def jacNormSpec : ChangeSpec := { name := "jacNorm", fn := fun _ => fun
  | [d1, d2] => { results := [.lit (.bool true)], args := [d1, d2] }
  | _ => none }
def jacNormRow : OpenClaim := { program := "ytdlinjijccnaeaa", sum := "18c52f11f6e90f0ab766c7989913510047da7b93ceab689b19f3b75cf2bf297d", func := "envelope/envelopelaw4.JacNorm", spec := "jacNorm", inPlace := ["math.Float64frombits", "math.Float64bits"], unfollowed := true, recurses := true, apart := false }
def JacNormSaid : Prop := jacNormRow.holds Try.pinned (OpenSpec.ofChange jacNormSpec)

/-- ITS FALSE NEIGHBOUR: 'it returns false'. Refute it at one input. -/
def jacNormWrong : ChangeSpec := { name := "jacNorm", fn := fun _ => fun
  | [d1, d2] => { results := [.lit (.bool false)], args := [d1, d2] }
  | _ => none }
def JacNormWrongFalsely : Prop := jacNormRow.holds Try.pinned (OpenSpec.ofChange jacNormWrong)

/-- 'envelopelaw4.JacKnown': WHATEVER THE INPUT: true; the input reads as it did. -/
def jacKnownSpec : ChangeSpec := { name := "jacKnown", fn := fun _ => fun
  | [d] => { results := [.lit (.bool true)], args := [d] }
  | _ => none }
def jacKnownRow : OpenClaim := { program := "ytdlinjijccnaeaa", sum := "18c52f11f6e90f0ab766c7989913510047da7b93ceab689b19f3b75cf2bf297d", func := "envelope/envelopelaw4.JacKnown", spec := "jacKnown", inPlace := ["math.Float64frombits", "math.Float64bits"], unfollowed := true, recurses := true, apart := false }
def JacKnownSaid : Prop := jacKnownRow.holds Try.pinned (OpenSpec.ofChange jacKnownSpec)

/-- ITS FALSE NEIGHBOUR: 'it returns false'. Refute it at one input. -/
def jacKnownWrong : ChangeSpec := { name := "jacKnown", fn := fun _ => fun
  | [d] => { results := [.lit (.bool false)], args := [d] }
  | _ => none }
def JacKnownWrongFalsely : Prop := jacKnownRow.holds Try.pinned (OpenSpec.ofChange jacKnownWrong)

/-- 'envelopelaw4.JacSums': WHATEVER THE INPUT: true; the input reads as it did. -/
def jacSumsSpec : ChangeSpec := { name := "jacSums", fn := fun _ => fun
  | [d1, d2, d3, d4] => { results := [.lit (.bool true)], args := [d1, d2, d3, d4] }
  | _ => none }
def jacSumsRow : OpenClaim := { program := "ytdlinjijccnaeaa", sum := "18c52f11f6e90f0ab766c7989913510047da7b93ceab689b19f3b75cf2bf297d", func := "envelope/envelopelaw4.JacSums", spec := "jacSums", inPlace := ["math.Float64frombits", "math.Float64bits"], unfollowed := true, recurses := true, apart := false }
def JacSumsSaid : Prop := jacSumsRow.holds Try.pinned (OpenSpec.ofChange jacSumsSpec)

/-- ITS FALSE NEIGHBOUR: 'it returns false'. Refute it at one input. -/
def jacSumsWrong : ChangeSpec := { name := "jacSums", fn := fun _ => fun
  | [d1, d2, d3, d4] => { results := [.lit (.bool false)], args := [d1, d2, d3, d4] }
  | _ => none }
def JacSumsWrongFalsely : Prop := jacSumsRow.holds Try.pinned (OpenSpec.ofChange jacSumsWrong)

/-- 'envelopelaw4.JacLines': WHATEVER THE INPUT: true; the input reads as it did. -/
def jacLinesSpec : ChangeSpec := { name := "jacLines", fn := fun _ => fun
  | [d1, d2, d3] => { results := [.lit (.bool true)], args := [d1, d2, d3] }
  | _ => none }
def jacLinesRow : OpenClaim := { program := "ytdlinjijccnaeaa", sum := "18c52f11f6e90f0ab766c7989913510047da7b93ceab689b19f3b75cf2bf297d", func := "envelope/envelopelaw4.JacLines", spec := "jacLines", inPlace := ["math.Float64frombits", "math.Float64bits"], unfollowed := true, recurses := true, apart := false }
def JacLinesSaid : Prop := jacLinesRow.holds Try.pinned (OpenSpec.ofChange jacLinesSpec)

/-- ITS FALSE NEIGHBOUR: 'it returns false'. Refute it at one input. -/
def jacLinesWrong : ChangeSpec := { name := "jacLines", fn := fun _ => fun
  | [d1, d2, d3] => { results := [.lit (.bool false)], args := [d1, d2, d3] }
  | _ => none }
def JacLinesWrongFalsely : Prop := jacLinesRow.holds Try.pinned (OpenSpec.ofChange jacLinesWrong)

/-- 'envelopelaw4.JacTurns': WHATEVER THE INPUT: true; the input reads as it did. -/
def jacTurnsSpec : ChangeSpec := { name := "jacTurns", fn := fun _ => fun
  | [d1, d2, d3, d4] => { results := [.lit (.bool true)], args := [d1, d2, d3, d4] }
  | _ => none }
def jacTurnsRow : OpenClaim := { program := "ytdlinjijccnaeaa", sum := "18c52f11f6e90f0ab766c7989913510047da7b93ceab689b19f3b75cf2bf297d", func := "envelope/envelopelaw4.JacTurns", spec := "jacTurns", inPlace := ["math.Float64frombits", "math.Float64bits"], unfollowed := true, recurses := true, apart := false }
def JacTurnsSaid : Prop := jacTurnsRow.holds Try.pinned (OpenSpec.ofChange jacTurnsSpec)

/-- ITS FALSE NEIGHBOUR: 'it returns false'. Refute it at one input. -/
def jacTurnsWrong : ChangeSpec := { name := "jacTurns", fn := fun _ => fun
  | [d1, d2, d3, d4] => { results := [.lit (.bool false)], args := [d1, d2, d3, d4] }
  | _ => none }
def JacTurnsWrongFalsely : Prop := jacTurnsRow.holds Try.pinned (OpenSpec.ofChange jacTurnsWrong)

/-- 'envelopelaw4.JacOwn': WHATEVER THE INPUT: true; the input reads as it did. -/
def jacOwnSpec : ChangeSpec := { name := "jacOwn", fn := fun _ => fun
  | [d1, d2, d3, d4] => { results := [.lit (.bool true)], args := [d1, d2, d3, d4] }
  | _ => none }
def jacOwnRow : OpenClaim := { program := "ytdlinjijccnaeaa", sum := "18c52f11f6e90f0ab766c7989913510047da7b93ceab689b19f3b75cf2bf297d", func := "envelope/envelopelaw4.JacOwn", spec := "jacOwn", inPlace := ["math.Float64frombits", "math.Float64bits"], unfollowed := true, recurses := true, apart := false }
def JacOwnSaid : Prop := jacOwnRow.holds Try.pinned (OpenSpec.ofChange jacOwnSpec)

/-- ITS FALSE NEIGHBOUR: 'it returns false'. Refute it at one input. -/
def jacOwnWrong : ChangeSpec := { name := "jacOwn", fn := fun _ => fun
  | [d1, d2, d3, d4] => { results := [.lit (.bool false)], args := [d1, d2, d3, d4] }
  | _ => none }
def JacOwnWrongFalsely : Prop := jacOwnRow.holds Try.pinned (OpenSpec.ofChange jacOwnWrong)

/-- 'envelopelaw4.JacHolds': WHATEVER THE INPUT: true; the input reads as it did. -/
def jacHoldsSpec : ChangeSpec := { name := "jacHolds", fn := fun _ => fun
  | [d1, d2, d3, d4] => { results := [.lit (.bool true)], args := [d1, d2, d3, d4] }
  | _ => none }
def jacHoldsRow : OpenClaim := { program := "ytdlinjijccnaeaa", sum := "18c52f11f6e90f0ab766c7989913510047da7b93ceab689b19f3b75cf2bf297d", func := "envelope/envelopelaw4.JacHolds", spec := "jacHolds", inPlace := ["math.Float64frombits", "math.Float64bits", "math.archFloor", "math.archTrunc"], unfollowed := true, recurses := true, apart := false }
def JacHoldsSaid : Prop := jacHoldsRow.holds Try.pinned (OpenSpec.ofChange jacHoldsSpec)

/-- ITS FALSE NEIGHBOUR: 'it returns false'. Refute it at one input. -/
def jacHoldsWrong : ChangeSpec := { name := "jacHolds", fn := fun _ => fun
  | [d1, d2, d3, d4] => { results := [.lit (.bool false)], args := [d1, d2, d3, d4] }
  | _ => none }
def JacHoldsWrongFalsely : Prop := jacHoldsRow.holds Try.pinned (OpenSpec.ofChange jacHoldsWrong)

/-- 'envelopelaw4.JacAll': WHATEVER THE INPUT: true; the input reads as it did. -/
def jacAllSpec : ChangeSpec := { name := "jacAll", fn := fun _ => fun
  | [d1, d2, d3, d4, d5, d6, d7] => { results := [.lit (.bool true)], args := [d1, d2, d3, d4, d5, d6, d7] }
  | _ => none }
def jacAllRow : OpenClaim := { program := "ytdlinjijccnaeaa", sum := "18c52f11f6e90f0ab766c7989913510047da7b93ceab689b19f3b75cf2bf297d", func := "envelope/envelopelaw4.JacAll", spec := "jacAll", inPlace := ["math.Float64frombits", "math.Float64bits"], unfollowed := true, recurses := true, apart := false }
def JacAllSaid : Prop := jacAllRow.holds Try.pinned (OpenSpec.ofChange jacAllSpec)

/-- ITS FALSE NEIGHBOUR: 'it returns false'. Refute it at one input. -/
def jacAllWrong : ChangeSpec := { name := "jacAll", fn := fun _ => fun
  | [d1, d2, d3, d4, d5, d6, d7] => { results := [.lit (.bool false)], args := [d1, d2, d3, d4, d5, d6, d7] }
  | _ => none }
def JacAllWrongFalsely : Prop := jacAllRow.holds Try.pinned (OpenSpec.ofChange jacAllWrong)

/-- 'envelopelaw4.JacNorms': WHATEVER THE INPUT: true; the input reads as it did. -/
def jacNormsSpec : ChangeSpec := { name := "jacNorms", fn := fun _ => fun
  | [d1, d2, d3, d4] => { results := [.lit (.bool true)], args := [d1, d2, d3, d4] }
  | _ => none }
def jacNormsRow : OpenClaim := { program := "ytdlinjijccnaeaa", sum := "18c52f11f6e90f0ab766c7989913510047da7b93ceab689b19f3b75cf2bf297d", func := "envelope/envelopelaw4.JacNorms", spec := "jacNorms", inPlace := ["math.Float64frombits", "math.Float64bits"], unfollowed := true, recurses := true, apart := false }
def JacNormsSaid : Prop := jacNormsRow.holds Try.pinned (OpenSpec.ofChange jacNormsSpec)

/-- ITS FALSE NEIGHBOUR: 'it returns false'. Refute it at one input. -/
def jacNormsWrong : ChangeSpec := { name := "jacNorms", fn := fun _ => fun
  | [d1, d2, d3, d4] => { results := [.lit (.bool false)], args := [d1, d2, d3, d4] }
  | _ => none }
def JacNormsWrongFalsely : Prop := jacNormsRow.holds Try.pinned (OpenSpec.ofChange jacNormsWrong)

/- THE SECOND FORM. 'bulk': how many values and letters a reading holds, each counted each time it is reached (what is shared counts as often as it is met; a slice's spare places count too). A statement '..UptoSaid' is the law's where the arguments, and the package variables that the reading takes, are together of bulk at most 1048576: NARROWER than '..Said'. Prove '..Said' where nothing that the law and all that it calls make is longer than what came in: it says more and counts as full. Else prove '..UptoSaid'. A law counts once. -/
mutual
def uptoBulk {H : Type} : DataW H → Nat
  | .lit (.string bytes) => bytes.length + 1
  | .lit _ => 1
  | .nil => 1
  | .ptr d => uptoBulk d + 1
  | .slice elems spare => uptoBulkAll elems + uptoBulkAll spare + 1
  | .agg parts => uptoBulkAll parts + 1
  | .iface _ d => uptoBulk d + 1
  | .map entries => uptoBulkEntries entries + 1
  | .held _ => 1
def uptoBulkAll {H : Type} : List (DataW H) → Nat
  | [] => 0
  | d :: r => uptoBulk d + uptoBulkAll r
def uptoBulkEntries {H : Type} : List (Lit × DataW H) → Nat
  | [] => 0
  | x :: r => uptoBulkEntry x + uptoBulkEntries r
def uptoBulkEntry {H : Type} : Lit × DataW H → Nat
  | (.string bytes, d) => bytes.length + uptoBulk d + 1
  | (_, d) => uptoBulk d + 1
 end
def uptoSmall : (H : Type) → List (DataW H) → Bool := fun _ ds => decide (uptoBulkAll ds ≤ 1048576)
def OpenSpec.upto (s : _root_.Go.ChangeSpec) : _root_.Go.OpenSpec := { _root_.Go.OpenSpec.ofChange s with cond := some uptoSmall }

/-- 'envelopelaw4.JacNorm', WHERE WHAT IT READS IS OF BULK AT MOST 1048576: true; the input reads as it did. -/
def jacNormUptoRow : OpenClaim := { program := "ytdlinjijccnaeaa", sum := "18c52f11f6e90f0ab766c7989913510047da7b93ceab689b19f3b75cf2bf297d", func := "envelope/envelopelaw4.JacNorm", spec := "jacNorm", inPlace := ["math.Float64frombits", "math.Float64bits"], unfollowed := true, recurses := true, apart := false, narrowed := true }
def JacNormUptoSaid : Prop := jacNormUptoRow.holds Try.pinned (OpenSpec.upto jacNormSpec)

/-- 'envelopelaw4.JacKnown', WHERE WHAT IT READS IS OF BULK AT MOST 1048576: true; the input reads as it did. -/
def jacKnownUptoRow : OpenClaim := { program := "ytdlinjijccnaeaa", sum := "18c52f11f6e90f0ab766c7989913510047da7b93ceab689b19f3b75cf2bf297d", func := "envelope/envelopelaw4.JacKnown", spec := "jacKnown", inPlace := ["math.Float64frombits", "math.Float64bits"], unfollowed := true, recurses := true, apart := false, narrowed := true }
def JacKnownUptoSaid : Prop := jacKnownUptoRow.holds Try.pinned (OpenSpec.upto jacKnownSpec)

/-- 'envelopelaw4.JacSums', WHERE WHAT IT READS IS OF BULK AT MOST 1048576: true; the input reads as it did. -/
def jacSumsUptoRow : OpenClaim := { program := "ytdlinjijccnaeaa", sum := "18c52f11f6e90f0ab766c7989913510047da7b93ceab689b19f3b75cf2bf297d", func := "envelope/envelopelaw4.JacSums", spec := "jacSums", inPlace := ["math.Float64frombits", "math.Float64bits"], unfollowed := true, recurses := true, apart := false, narrowed := true }
def JacSumsUptoSaid : Prop := jacSumsUptoRow.holds Try.pinned (OpenSpec.upto jacSumsSpec)

/-- 'envelopelaw4.JacLines', WHERE WHAT IT READS IS OF BULK AT MOST 1048576: true; the input reads as it did. -/
def jacLinesUptoRow : OpenClaim := { program := "ytdlinjijccnaeaa", sum := "18c52f11f6e90f0ab766c7989913510047da7b93ceab689b19f3b75cf2bf297d", func := "envelope/envelopelaw4.JacLines", spec := "jacLines", inPlace := ["math.Float64frombits", "math.Float64bits"], unfollowed := true, recurses := true, apart := false, narrowed := true }
def JacLinesUptoSaid : Prop := jacLinesUptoRow.holds Try.pinned (OpenSpec.upto jacLinesSpec)

/-- 'envelopelaw4.JacTurns', WHERE WHAT IT READS IS OF BULK AT MOST 1048576: true; the input reads as it did. -/
def jacTurnsUptoRow : OpenClaim := { program := "ytdlinjijccnaeaa", sum := "18c52f11f6e90f0ab766c7989913510047da7b93ceab689b19f3b75cf2bf297d", func := "envelope/envelopelaw4.JacTurns", spec := "jacTurns", inPlace := ["math.Float64frombits", "math.Float64bits"], unfollowed := true, recurses := true, apart := false, narrowed := true }
def JacTurnsUptoSaid : Prop := jacTurnsUptoRow.holds Try.pinned (OpenSpec.upto jacTurnsSpec)

/-- 'envelopelaw4.JacOwn', WHERE WHAT IT READS IS OF BULK AT MOST 1048576: true; the input reads as it did. -/
def jacOwnUptoRow : OpenClaim := { program := "ytdlinjijccnaeaa", sum := "18c52f11f6e90f0ab766c7989913510047da7b93ceab689b19f3b75cf2bf297d", func := "envelope/envelopelaw4.JacOwn", spec := "jacOwn", inPlace := ["math.Float64frombits", "math.Float64bits"], unfollowed := true, recurses := true, apart := false, narrowed := true }
def JacOwnUptoSaid : Prop := jacOwnUptoRow.holds Try.pinned (OpenSpec.upto jacOwnSpec)

/-- 'envelopelaw4.JacHolds', WHERE WHAT IT READS IS OF BULK AT MOST 1048576: true; the input reads as it did. -/
def jacHoldsUptoRow : OpenClaim := { program := "ytdlinjijccnaeaa", sum := "18c52f11f6e90f0ab766c7989913510047da7b93ceab689b19f3b75cf2bf297d", func := "envelope/envelopelaw4.JacHolds", spec := "jacHolds", inPlace := ["math.Float64frombits", "math.Float64bits", "math.archFloor", "math.archTrunc"], unfollowed := true, recurses := true, apart := false, narrowed := true }
def JacHoldsUptoSaid : Prop := jacHoldsUptoRow.holds Try.pinned (OpenSpec.upto jacHoldsSpec)

/-- 'envelopelaw4.JacAll', WHERE WHAT IT READS IS OF BULK AT MOST 1048576: true; the input reads as it did. -/
def jacAllUptoRow : OpenClaim := { program := "ytdlinjijccnaeaa", sum := "18c52f11f6e90f0ab766c7989913510047da7b93ceab689b19f3b75cf2bf297d", func := "envelope/envelopelaw4.JacAll", spec := "jacAll", inPlace := ["math.Float64frombits", "math.Float64bits"], unfollowed := true, recurses := true, apart := false, narrowed := true }
def JacAllUptoSaid : Prop := jacAllUptoRow.holds Try.pinned (OpenSpec.upto jacAllSpec)

/-- 'envelopelaw4.JacNorms', WHERE WHAT IT READS IS OF BULK AT MOST 1048576: true; the input reads as it did. -/
def jacNormsUptoRow : OpenClaim := { program := "ytdlinjijccnaeaa", sum := "18c52f11f6e90f0ab766c7989913510047da7b93ceab689b19f3b75cf2bf297d", func := "envelope/envelopelaw4.JacNorms", spec := "jacNorms", inPlace := ["math.Float64frombits", "math.Float64bits"], unfollowed := true, recurses := true, apart := false, narrowed := true }
def JacNormsUptoSaid : Prop := jacNormsUptoRow.holds Try.pinned (OpenSpec.upto jacNormsSpec)

end Rows
end Go.Proofs.Ytdlinjijccnaeaa
