/-
  No cell of these rows narrows 'for every input' (looked for: loops, veiled, ifaces, maps, wideKeys, modest, calm, conditions, laid).
  DERIVED. THE GIVEN ROWS OF THIS SEAT. 12 by the template 'for every input the law returns true; each argument reads behind the call as it read before'; 0 by the template 'total and deterministic' (their statements: YtnbbmihlokajaaaTotals.lean).
  GIVEN WITH THE SEED: the statements are not yours to turn. If you find one false, say at which input.
  Laid BY PROGRAM, IN A SANDBOX (cutbox-rows.mjs): the forced cells as the released guide's own fill.sh prints them over the translation 6b47192fa3ab5ef6… (all of the seat's roots in one cut). By AI agents, Wed Nov 11 2026. No macro, syntax, notation, axiom, sorry.
-/
import Derived.Test.YtnbbmihlokajaaaChecked
import GoSem.Claim
import GoSem.ClaimJoined
import GoSem.ClaimMapViews
import Derived.JoinedTies
import Derived.KernelRfl
namespace Go.Proofs.Ytnbbmihlokajaaa
/- THE CELL 'sum', in the pinned program and in every row, IS THE sha256 OF THE DUMP (.gsa) THAT YtnbbmihlokajaaaProg.lean LOADS. Nothing in Lean hashes anything: it is a label: what it is worth is what the hold of that sum in a sandbox is worth. -/
noncomputable def Try.pinned : Pinned := { name := "ytnbbmihlokajaaa", sum := "6b47192fa3ab5ef6024a113c3153fc777501b16f7fd2e506931651ef5613a7b9", checked := Try.checked }
namespace Rows
def none {H : Type} : Left H := { results := [], args := [] }

/-- 'envelopelaw5.ModelRanges': WHATEVER THE INPUT: true; the input reads as it did. -/
def modelRangesSpec : ChangeSpec := { name := "modelRanges", fn := fun _ => fun
  | [d1, d2, d3] => { results := [.lit (.bool true)], args := [d1, d2, d3] }
  | _ => none }
def modelRangesRow : OpenClaim := { program := "ytnbbmihlokajaaa", sum := "6b47192fa3ab5ef6024a113c3153fc777501b16f7fd2e506931651ef5613a7b9", func := "envelope/envelopelaw5.ModelRanges", spec := "modelRanges", inPlace := ["math.Float64frombits", "math.Float64bits"], unfollowed := true, recurses := true, apart := false }
def ModelRangesSaid : Prop := modelRangesRow.holds Try.pinned (OpenSpec.ofChange modelRangesSpec)

/-- ITS FALSE NEIGHBOUR: 'it returns false'. Refute it at one input. -/
def modelRangesWrong : ChangeSpec := { name := "modelRanges", fn := fun _ => fun
  | [d1, d2, d3] => { results := [.lit (.bool false)], args := [d1, d2, d3] }
  | _ => none }
def ModelRangesWrongFalsely : Prop := modelRangesRow.holds Try.pinned (OpenSpec.ofChange modelRangesWrong)

/-- 'envelopelaw5.ModelOwn': WHATEVER THE INPUT: true; the input reads as it did. -/
def modelOwnSpec : ChangeSpec := { name := "modelOwn", fn := fun _ => fun
  | [d] => { results := [.lit (.bool true)], args := [d] }
  | _ => none }
def modelOwnRow : OpenClaim := { program := "ytnbbmihlokajaaa", sum := "6b47192fa3ab5ef6024a113c3153fc777501b16f7fd2e506931651ef5613a7b9", func := "envelope/envelopelaw5.ModelOwn", spec := "modelOwn", inPlace := ["math.Float64frombits", "math.Float64bits"], unfollowed := true, recurses := true, apart := false }
def ModelOwnSaid : Prop := modelOwnRow.holds Try.pinned (OpenSpec.ofChange modelOwnSpec)

/-- ITS FALSE NEIGHBOUR: 'it returns false'. Refute it at one input. -/
def modelOwnWrong : ChangeSpec := { name := "modelOwn", fn := fun _ => fun
  | [d] => { results := [.lit (.bool false)], args := [d] }
  | _ => none }
def ModelOwnWrongFalsely : Prop := modelOwnRow.holds Try.pinned (OpenSpec.ofChange modelOwnWrong)

/-- 'envelopelaw5.ModelLine': WHATEVER THE INPUT: true; the input reads as it did. -/
def modelLineSpec : ChangeSpec := { name := "modelLine", fn := fun _ => fun
  | [d1, d2] => { results := [.lit (.bool true)], args := [d1, d2] }
  | _ => none }
def modelLineRow : OpenClaim := { program := "ytnbbmihlokajaaa", sum := "6b47192fa3ab5ef6024a113c3153fc777501b16f7fd2e506931651ef5613a7b9", func := "envelope/envelopelaw5.ModelLine", spec := "modelLine", inPlace := ["math.Float64frombits", "math.Float64bits"], unfollowed := true, recurses := true, apart := false }
def ModelLineSaid : Prop := modelLineRow.holds Try.pinned (OpenSpec.ofChange modelLineSpec)

/-- ITS FALSE NEIGHBOUR: 'it returns false'. Refute it at one input. -/
def modelLineWrong : ChangeSpec := { name := "modelLine", fn := fun _ => fun
  | [d1, d2] => { results := [.lit (.bool false)], args := [d1, d2] }
  | _ => none }
def ModelLineWrongFalsely : Prop := modelLineRow.holds Try.pinned (OpenSpec.ofChange modelLineWrong)

/-- 'envelopelaw5.ModelHolds': WHATEVER THE INPUT: true; the input reads as it did. -/
def modelHoldsSpec : ChangeSpec := { name := "modelHolds", fn := fun _ => fun
  | [d1, d2, d3, d4] => { results := [.lit (.bool true)], args := [d1, d2, d3, d4] }
  | _ => none }
def modelHoldsRow : OpenClaim := { program := "ytnbbmihlokajaaa", sum := "6b47192fa3ab5ef6024a113c3153fc777501b16f7fd2e506931651ef5613a7b9", func := "envelope/envelopelaw5.ModelHolds", spec := "modelHolds", inPlace := ["math.Float64frombits", "math.Float64bits"], unfollowed := true, recurses := true, apart := false }
def ModelHoldsSaid : Prop := modelHoldsRow.holds Try.pinned (OpenSpec.ofChange modelHoldsSpec)

/-- ITS FALSE NEIGHBOUR: 'it returns false'. Refute it at one input. -/
def modelHoldsWrong : ChangeSpec := { name := "modelHolds", fn := fun _ => fun
  | [d1, d2, d3, d4] => { results := [.lit (.bool false)], args := [d1, d2, d3, d4] }
  | _ => none }
def ModelHoldsWrongFalsely : Prop := modelHoldsRow.holds Try.pinned (OpenSpec.ofChange modelHoldsWrong)

/-- 'envelopelaw5.ModelTurns': WHATEVER THE INPUT: true; the input reads as it did. -/
def modelTurnsSpec : ChangeSpec := { name := "modelTurns", fn := fun _ => fun
  | [d1, d2, d3, d4] => { results := [.lit (.bool true)], args := [d1, d2, d3, d4] }
  | _ => none }
def modelTurnsRow : OpenClaim := { program := "ytnbbmihlokajaaa", sum := "6b47192fa3ab5ef6024a113c3153fc777501b16f7fd2e506931651ef5613a7b9", func := "envelope/envelopelaw5.ModelTurns", spec := "modelTurns", inPlace := ["math.Float64frombits", "math.Float64bits"], unfollowed := true, recurses := true, apart := false }
def ModelTurnsSaid : Prop := modelTurnsRow.holds Try.pinned (OpenSpec.ofChange modelTurnsSpec)

/-- ITS FALSE NEIGHBOUR: 'it returns false'. Refute it at one input. -/
def modelTurnsWrong : ChangeSpec := { name := "modelTurns", fn := fun _ => fun
  | [d1, d2, d3, d4] => { results := [.lit (.bool false)], args := [d1, d2, d3, d4] }
  | _ => none }
def ModelTurnsWrongFalsely : Prop := modelTurnsRow.holds Try.pinned (OpenSpec.ofChange modelTurnsWrong)

/-- 'envelopelaw5.ModelSquares': WHATEVER THE INPUT: true; the input reads as it did. -/
def modelSquaresSpec : ChangeSpec := { name := "modelSquares", fn := fun _ => fun
  | [d1, d2] => { results := [.lit (.bool true)], args := [d1, d2] }
  | _ => none }
def modelSquaresRow : OpenClaim := { program := "ytnbbmihlokajaaa", sum := "6b47192fa3ab5ef6024a113c3153fc777501b16f7fd2e506931651ef5613a7b9", func := "envelope/envelopelaw5.ModelSquares", spec := "modelSquares", inPlace := ["math.Float64frombits", "math.Float64bits"], unfollowed := true, recurses := true, apart := false }
def ModelSquaresSaid : Prop := modelSquaresRow.holds Try.pinned (OpenSpec.ofChange modelSquaresSpec)

/-- ITS FALSE NEIGHBOUR: 'it returns false'. Refute it at one input. -/
def modelSquaresWrong : ChangeSpec := { name := "modelSquares", fn := fun _ => fun
  | [d1, d2] => { results := [.lit (.bool false)], args := [d1, d2] }
  | _ => none }
def ModelSquaresWrongFalsely : Prop := modelSquaresRow.holds Try.pinned (OpenSpec.ofChange modelSquaresWrong)

/-- 'envelopelaw5.ModelAll': WHATEVER THE INPUT: true; the input reads as it did. -/
def modelAllSpec : ChangeSpec := { name := "modelAll", fn := fun _ => fun
  | [d1, d2, d3, d4, d5] => { results := [.lit (.bool true)], args := [d1, d2, d3, d4, d5] }
  | _ => none }
def modelAllRow : OpenClaim := { program := "ytnbbmihlokajaaa", sum := "6b47192fa3ab5ef6024a113c3153fc777501b16f7fd2e506931651ef5613a7b9", func := "envelope/envelopelaw5.ModelAll", spec := "modelAll", inPlace := ["math.Float64frombits", "math.Float64bits"], unfollowed := true, recurses := true, apart := false }
def ModelAllSaid : Prop := modelAllRow.holds Try.pinned (OpenSpec.ofChange modelAllSpec)

/-- ITS FALSE NEIGHBOUR: 'it returns false'. Refute it at one input. -/
def modelAllWrong : ChangeSpec := { name := "modelAll", fn := fun _ => fun
  | [d1, d2, d3, d4, d5] => { results := [.lit (.bool false)], args := [d1, d2, d3, d4, d5] }
  | _ => none }
def ModelAllWrongFalsely : Prop := modelAllRow.holds Try.pinned (OpenSpec.ofChange modelAllWrong)

/-- 'envelopelaw5.ModelDivides': WHATEVER THE INPUT: true; the input reads as it did. -/
def modelDividesSpec : ChangeSpec := { name := "modelDivides", fn := fun _ => fun
  | [d1, d2, d3] => { results := [.lit (.bool true)], args := [d1, d2, d3] }
  | _ => none }
def modelDividesRow : OpenClaim := { program := "ytnbbmihlokajaaa", sum := "6b47192fa3ab5ef6024a113c3153fc777501b16f7fd2e506931651ef5613a7b9", func := "envelope/envelopelaw5.ModelDivides", spec := "modelDivides", inPlace := ["math.Float64frombits", "math.Float64bits"], unfollowed := true, recurses := true, apart := false }
def ModelDividesSaid : Prop := modelDividesRow.holds Try.pinned (OpenSpec.ofChange modelDividesSpec)

/-- ITS FALSE NEIGHBOUR: 'it returns false'. Refute it at one input. -/
def modelDividesWrong : ChangeSpec := { name := "modelDivides", fn := fun _ => fun
  | [d1, d2, d3] => { results := [.lit (.bool false)], args := [d1, d2, d3] }
  | _ => none }
def ModelDividesWrongFalsely : Prop := modelDividesRow.holds Try.pinned (OpenSpec.ofChange modelDividesWrong)

/-- 'envelopelaw5.ModelWhole': WHATEVER THE INPUT: true; the input reads as it did. -/
def modelWholeSpec : ChangeSpec := { name := "modelWhole", fn := fun _ => fun
  | [d1, d2, d3, d4] => { results := [.lit (.bool true)], args := [d1, d2, d3, d4] }
  | _ => none }
def modelWholeRow : OpenClaim := { program := "ytnbbmihlokajaaa", sum := "6b47192fa3ab5ef6024a113c3153fc777501b16f7fd2e506931651ef5613a7b9", func := "envelope/envelopelaw5.ModelWhole", spec := "modelWhole", inPlace := ["math.Float64frombits", "math.Float64bits"], unfollowed := true, recurses := true, apart := false }
def ModelWholeSaid : Prop := modelWholeRow.holds Try.pinned (OpenSpec.ofChange modelWholeSpec)

/-- ITS FALSE NEIGHBOUR: 'it returns false'. Refute it at one input. -/
def modelWholeWrong : ChangeSpec := { name := "modelWhole", fn := fun _ => fun
  | [d1, d2, d3, d4] => { results := [.lit (.bool false)], args := [d1, d2, d3, d4] }
  | _ => none }
def ModelWholeWrongFalsely : Prop := modelWholeRow.holds Try.pinned (OpenSpec.ofChange modelWholeWrong)

/-- 'envelopelaw5.ModelInverse': WHATEVER THE INPUT: true; the input reads as it did. -/
def modelInverseSpec : ChangeSpec := { name := "modelInverse", fn := fun _ => fun
  | [d1, d2] => { results := [.lit (.bool true)], args := [d1, d2] }
  | _ => none }
def modelInverseRow : OpenClaim := { program := "ytnbbmihlokajaaa", sum := "6b47192fa3ab5ef6024a113c3153fc777501b16f7fd2e506931651ef5613a7b9", func := "envelope/envelopelaw5.ModelInverse", spec := "modelInverse", inPlace := ["math.Float64frombits", "math.Float64bits"], unfollowed := true, recurses := true, apart := false }
def ModelInverseSaid : Prop := modelInverseRow.holds Try.pinned (OpenSpec.ofChange modelInverseSpec)

/-- ITS FALSE NEIGHBOUR: 'it returns false'. Refute it at one input. -/
def modelInverseWrong : ChangeSpec := { name := "modelInverse", fn := fun _ => fun
  | [d1, d2] => { results := [.lit (.bool false)], args := [d1, d2] }
  | _ => none }
def ModelInverseWrongFalsely : Prop := modelInverseRow.holds Try.pinned (OpenSpec.ofChange modelInverseWrong)

/-- 'envelopelaw5.ModelEvals': WHATEVER THE INPUT: true; the input reads as it did. -/
def modelEvalsSpec : ChangeSpec := { name := "modelEvals", fn := fun _ => fun
  | [d1, d2, d3, d4, d5, d6] => { results := [.lit (.bool true)], args := [d1, d2, d3, d4, d5, d6] }
  | _ => none }
def modelEvalsRow : OpenClaim := { program := "ytnbbmihlokajaaa", sum := "6b47192fa3ab5ef6024a113c3153fc777501b16f7fd2e506931651ef5613a7b9", func := "envelope/envelopelaw5.ModelEvals", spec := "modelEvals", inPlace := ["math.Float64frombits", "math.Float64bits"], unfollowed := true, recurses := true, apart := false }
def ModelEvalsSaid : Prop := modelEvalsRow.holds Try.pinned (OpenSpec.ofChange modelEvalsSpec)

/-- ITS FALSE NEIGHBOUR: 'it returns false'. Refute it at one input. -/
def modelEvalsWrong : ChangeSpec := { name := "modelEvals", fn := fun _ => fun
  | [d1, d2, d3, d4, d5, d6] => { results := [.lit (.bool false)], args := [d1, d2, d3, d4, d5, d6] }
  | _ => none }
def ModelEvalsWrongFalsely : Prop := modelEvalsRow.holds Try.pinned (OpenSpec.ofChange modelEvalsWrong)

/-- 'envelopelaw5.ModelPoints': WHATEVER THE INPUT: true; the input reads as it did. -/
def modelPointsSpec : ChangeSpec := { name := "modelPoints", fn := fun _ => fun
  | [d1, d2, d3] => { results := [.lit (.bool true)], args := [d1, d2, d3] }
  | _ => none }
def modelPointsRow : OpenClaim := { program := "ytnbbmihlokajaaa", sum := "6b47192fa3ab5ef6024a113c3153fc777501b16f7fd2e506931651ef5613a7b9", func := "envelope/envelopelaw5.ModelPoints", spec := "modelPoints", inPlace := ["math.Float64frombits", "math.Float64bits", "math.archFloor", "math.archTrunc"], unfollowed := true, recurses := true, apart := false }
def ModelPointsSaid : Prop := modelPointsRow.holds Try.pinned (OpenSpec.ofChange modelPointsSpec)

/-- ITS FALSE NEIGHBOUR: 'it returns false'. Refute it at one input. -/
def modelPointsWrong : ChangeSpec := { name := "modelPoints", fn := fun _ => fun
  | [d1, d2, d3] => { results := [.lit (.bool false)], args := [d1, d2, d3] }
  | _ => none }
def ModelPointsWrongFalsely : Prop := modelPointsRow.holds Try.pinned (OpenSpec.ofChange modelPointsWrong)

/- THE SECOND FORM. 'bulk': how many values and letters a reading holds, each counted each time it is reached (what is shared counts as often as it is met; a slice's spare places count too). A statement '..UptoSaid' is the law's where the arguments, and the package variables that the reading takes, are together of bulk at most 1048576: NARROWER than '..Said'. Prove '..Said' where nothing that the law and all that it calls make is longer than what came in: it says more and counts as full. Else prove '..UptoSaid'. A law counts once. -/
mutual
def uptoBulk {H : Type} : DataW H → Nat
  | .lit (.string bytes) => bytes.length + 1
  | .lit _ => 1
  | .nil => 1
  | .ptr d => uptoBulk d + 1
  | .slice elems spare => uptoBulkAll elems + uptoBulkAll spare + 1
  | .agg parts => uptoBulkAll parts + 1
  | .iface _ d => uptoBulk d + 1
  | .map entries => uptoBulkEntries entries + 1
  | .held _ => 1
def uptoBulkAll {H : Type} : List (DataW H) → Nat
  | [] => 0
  | d :: r => uptoBulk d + uptoBulkAll r
def uptoBulkEntries {H : Type} : List (Lit × DataW H) → Nat
  | [] => 0
  | x :: r => uptoBulkEntry x + uptoBulkEntries r
def uptoBulkEntry {H : Type} : Lit × DataW H → Nat
  | (.string bytes, d) => bytes.length + uptoBulk d + 1
  | (_, d) => uptoBulk d + 1
 end
def uptoSmall : (H : Type) → List (DataW H) → Bool := fun _ ds => decide (uptoBulkAll ds ≤ 1048576)
def OpenSpec.upto (s : _root_.Go.ChangeSpec) : _root_.Go.OpenSpec := { _root_.Go.OpenSpec.ofChange s with cond := some uptoSmall }

/-- 'envelopelaw5.ModelRanges', WHERE WHAT IT READS IS OF BULK AT MOST 1048576: true; the input reads as it did. -/
def modelRangesUptoRow : OpenClaim := { program := "ytnbbmihlokajaaa", sum := "6b47192fa3ab5ef6024a113c3153fc777501b16f7fd2e506931651ef5613a7b9", func := "envelope/envelopelaw5.ModelRanges", spec := "modelRanges", inPlace := ["math.Float64frombits", "math.Float64bits"], unfollowed := true, recurses := true, apart := false, narrowed := true }
def ModelRangesUptoSaid : Prop := modelRangesUptoRow.holds Try.pinned (OpenSpec.upto modelRangesSpec)

/-- 'envelopelaw5.ModelOwn', WHERE WHAT IT READS IS OF BULK AT MOST 1048576: true; the input reads as it did. -/
def modelOwnUptoRow : OpenClaim := { program := "ytnbbmihlokajaaa", sum := "6b47192fa3ab5ef6024a113c3153fc777501b16f7fd2e506931651ef5613a7b9", func := "envelope/envelopelaw5.ModelOwn", spec := "modelOwn", inPlace := ["math.Float64frombits", "math.Float64bits"], unfollowed := true, recurses := true, apart := false, narrowed := true }
def ModelOwnUptoSaid : Prop := modelOwnUptoRow.holds Try.pinned (OpenSpec.upto modelOwnSpec)

/-- 'envelopelaw5.ModelLine', WHERE WHAT IT READS IS OF BULK AT MOST 1048576: true; the input reads as it did. -/
def modelLineUptoRow : OpenClaim := { program := "ytnbbmihlokajaaa", sum := "6b47192fa3ab5ef6024a113c3153fc777501b16f7fd2e506931651ef5613a7b9", func := "envelope/envelopelaw5.ModelLine", spec := "modelLine", inPlace := ["math.Float64frombits", "math.Float64bits"], unfollowed := true, recurses := true, apart := false, narrowed := true }
def ModelLineUptoSaid : Prop := modelLineUptoRow.holds Try.pinned (OpenSpec.upto modelLineSpec)

/-- 'envelopelaw5.ModelHolds', WHERE WHAT IT READS IS OF BULK AT MOST 1048576: true; the input reads as it did. -/
def modelHoldsUptoRow : OpenClaim := { program := "ytnbbmihlokajaaa", sum := "6b47192fa3ab5ef6024a113c3153fc777501b16f7fd2e506931651ef5613a7b9", func := "envelope/envelopelaw5.ModelHolds", spec := "modelHolds", inPlace := ["math.Float64frombits", "math.Float64bits"], unfollowed := true, recurses := true, apart := false, narrowed := true }
def ModelHoldsUptoSaid : Prop := modelHoldsUptoRow.holds Try.pinned (OpenSpec.upto modelHoldsSpec)

/-- 'envelopelaw5.ModelTurns', WHERE WHAT IT READS IS OF BULK AT MOST 1048576: true; the input reads as it did. -/
def modelTurnsUptoRow : OpenClaim := { program := "ytnbbmihlokajaaa", sum := "6b47192fa3ab5ef6024a113c3153fc777501b16f7fd2e506931651ef5613a7b9", func := "envelope/envelopelaw5.ModelTurns", spec := "modelTurns", inPlace := ["math.Float64frombits", "math.Float64bits"], unfollowed := true, recurses := true, apart := false, narrowed := true }
def ModelTurnsUptoSaid : Prop := modelTurnsUptoRow.holds Try.pinned (OpenSpec.upto modelTurnsSpec)

/-- 'envelopelaw5.ModelSquares', WHERE WHAT IT READS IS OF BULK AT MOST 1048576: true; the input reads as it did. -/
def modelSquaresUptoRow : OpenClaim := { program := "ytnbbmihlokajaaa", sum := "6b47192fa3ab5ef6024a113c3153fc777501b16f7fd2e506931651ef5613a7b9", func := "envelope/envelopelaw5.ModelSquares", spec := "modelSquares", inPlace := ["math.Float64frombits", "math.Float64bits"], unfollowed := true, recurses := true, apart := false, narrowed := true }
def ModelSquaresUptoSaid : Prop := modelSquaresUptoRow.holds Try.pinned (OpenSpec.upto modelSquaresSpec)

/-- 'envelopelaw5.ModelAll', WHERE WHAT IT READS IS OF BULK AT MOST 1048576: true; the input reads as it did. -/
def modelAllUptoRow : OpenClaim := { program := "ytnbbmihlokajaaa", sum := "6b47192fa3ab5ef6024a113c3153fc777501b16f7fd2e506931651ef5613a7b9", func := "envelope/envelopelaw5.ModelAll", spec := "modelAll", inPlace := ["math.Float64frombits", "math.Float64bits"], unfollowed := true, recurses := true, apart := false, narrowed := true }
def ModelAllUptoSaid : Prop := modelAllUptoRow.holds Try.pinned (OpenSpec.upto modelAllSpec)

/-- 'envelopelaw5.ModelDivides', WHERE WHAT IT READS IS OF BULK AT MOST 1048576: true; the input reads as it did. -/
def modelDividesUptoRow : OpenClaim := { program := "ytnbbmihlokajaaa", sum := "6b47192fa3ab5ef6024a113c3153fc777501b16f7fd2e506931651ef5613a7b9", func := "envelope/envelopelaw5.ModelDivides", spec := "modelDivides", inPlace := ["math.Float64frombits", "math.Float64bits"], unfollowed := true, recurses := true, apart := false, narrowed := true }
def ModelDividesUptoSaid : Prop := modelDividesUptoRow.holds Try.pinned (OpenSpec.upto modelDividesSpec)

/-- 'envelopelaw5.ModelWhole', WHERE WHAT IT READS IS OF BULK AT MOST 1048576: true; the input reads as it did. -/
def modelWholeUptoRow : OpenClaim := { program := "ytnbbmihlokajaaa", sum := "6b47192fa3ab5ef6024a113c3153fc777501b16f7fd2e506931651ef5613a7b9", func := "envelope/envelopelaw5.ModelWhole", spec := "modelWhole", inPlace := ["math.Float64frombits", "math.Float64bits"], unfollowed := true, recurses := true, apart := false, narrowed := true }
def ModelWholeUptoSaid : Prop := modelWholeUptoRow.holds Try.pinned (OpenSpec.upto modelWholeSpec)

/-- 'envelopelaw5.ModelInverse', WHERE WHAT IT READS IS OF BULK AT MOST 1048576: true; the input reads as it did. -/
def modelInverseUptoRow : OpenClaim := { program := "ytnbbmihlokajaaa", sum := "6b47192fa3ab5ef6024a113c3153fc777501b16f7fd2e506931651ef5613a7b9", func := "envelope/envelopelaw5.ModelInverse", spec := "modelInverse", inPlace := ["math.Float64frombits", "math.Float64bits"], unfollowed := true, recurses := true, apart := false, narrowed := true }
def ModelInverseUptoSaid : Prop := modelInverseUptoRow.holds Try.pinned (OpenSpec.upto modelInverseSpec)

/-- 'envelopelaw5.ModelEvals', WHERE WHAT IT READS IS OF BULK AT MOST 1048576: true; the input reads as it did. -/
def modelEvalsUptoRow : OpenClaim := { program := "ytnbbmihlokajaaa", sum := "6b47192fa3ab5ef6024a113c3153fc777501b16f7fd2e506931651ef5613a7b9", func := "envelope/envelopelaw5.ModelEvals", spec := "modelEvals", inPlace := ["math.Float64frombits", "math.Float64bits"], unfollowed := true, recurses := true, apart := false, narrowed := true }
def ModelEvalsUptoSaid : Prop := modelEvalsUptoRow.holds Try.pinned (OpenSpec.upto modelEvalsSpec)

/-- 'envelopelaw5.ModelPoints', WHERE WHAT IT READS IS OF BULK AT MOST 1048576: true; the input reads as it did. -/
def modelPointsUptoRow : OpenClaim := { program := "ytnbbmihlokajaaa", sum := "6b47192fa3ab5ef6024a113c3153fc777501b16f7fd2e506931651ef5613a7b9", func := "envelope/envelopelaw5.ModelPoints", spec := "modelPoints", inPlace := ["math.Float64frombits", "math.Float64bits", "math.archFloor", "math.archTrunc"], unfollowed := true, recurses := true, apart := false, narrowed := true }
def ModelPointsUptoSaid : Prop := modelPointsUptoRow.holds Try.pinned (OpenSpec.upto modelPointsSpec)

end Rows
end Go.Proofs.Ytnbbmihlokajaaa
