/-
  No cell of these rows narrows 'for every input' (looked for: loops, veiled, ifaces, maps, wideKeys, modest, calm, conditions, laid).
  DERIVED. THE GIVEN ROWS OF THIS SEAT. 13 by the template 'for every input the law returns true; each argument reads behind the call as it read before'; 0 by the template 'total and deterministic' (their statements: YthajhpilfbijdaaTotals.lean).
  GIVEN WITH THE SEED: the statements are not yours to turn. If you find one false, say at which input.
  Laid BY PROGRAM, IN A SANDBOX (cutbox-rows.mjs): the forced cells as the released guide's own fill.sh prints them over the translation 303adadfecac7086… (all of the seat's roots in one cut). By AI agents, Wed Nov 11 2026. No macro, syntax, notation, axiom, sorry.
-/
import Derived.Test.YthajhpilfbijdaaChecked
import GoSem.Claim
import GoSem.ClaimJoined
import GoSem.ClaimMapViews
import Derived.JoinedTies
import Derived.KernelRfl
namespace Go.Proofs.Ythajhpilfbijdaa
/- THE CELL 'sum', in the pinned program and in every row, IS THE sha256 OF THE DUMP (.gsa) THAT YthajhpilfbijdaaProg.lean LOADS. Nothing in Lean hashes anything: it is a label: what it is worth is what the hold of that sum in a sandbox is worth. -/
noncomputable def Try.pinned : Pinned := { name := "ythajhpilfbijdaa", sum := "303adadfecac7086bc75e346f4d849fb25be8fe15bf61e604de3c24871eb6e31", checked := Try.checked }
namespace Rows
def none {H : Type} : Left H := { results := [], args := [] }

/-- 'envelopelaw2.IvHolds': WHATEVER THE INPUT: true; the input reads as it did. -/
def ivHoldsSpec : ChangeSpec := { name := "ivHolds", fn := fun _ => fun
  | [d1, d2, d3, d4, d5, d6] => { results := [.lit (.bool true)], args := [d1, d2, d3, d4, d5, d6] }
  | _ => none }
def ivHoldsRow : OpenClaim := { program := "ythajhpilfbijdaa", sum := "303adadfecac7086bc75e346f4d849fb25be8fe15bf61e604de3c24871eb6e31", func := "envelope/envelopelaw2.IvHolds", spec := "ivHolds", inPlace := ["math.Float64frombits", "math.Float64bits"], unfollowed := true, recurses := true, apart := false }
def IvHoldsSaid : Prop := ivHoldsRow.holds Try.pinned (OpenSpec.ofChange ivHoldsSpec)

/-- ITS FALSE NEIGHBOUR: 'it returns false'. Refute it at one input. -/
def ivHoldsWrong : ChangeSpec := { name := "ivHolds", fn := fun _ => fun
  | [d1, d2, d3, d4, d5, d6] => { results := [.lit (.bool false)], args := [d1, d2, d3, d4, d5, d6] }
  | _ => none }
def IvHoldsWrongFalsely : Prop := ivHoldsRow.holds Try.pinned (OpenSpec.ofChange ivHoldsWrong)

/-- 'envelopelaw2.IvExp': WHATEVER THE INPUT: true; the input reads as it did. -/
def ivExpSpec : ChangeSpec := { name := "ivExp", fn := fun _ => fun
  | [d1, d2] => { results := [.lit (.bool true)], args := [d1, d2] }
  | _ => none }
def ivExpRow : OpenClaim := { program := "ythajhpilfbijdaa", sum := "303adadfecac7086bc75e346f4d849fb25be8fe15bf61e604de3c24871eb6e31", func := "envelope/envelopelaw2.IvExp", spec := "ivExp", inPlace := ["math.Float64frombits", "math.Float64bits"], unfollowed := true, recurses := true, apart := false }
def IvExpSaid : Prop := ivExpRow.holds Try.pinned (OpenSpec.ofChange ivExpSpec)

/-- ITS FALSE NEIGHBOUR: 'it returns false'. Refute it at one input. -/
def ivExpWrong : ChangeSpec := { name := "ivExp", fn := fun _ => fun
  | [d1, d2] => { results := [.lit (.bool false)], args := [d1, d2] }
  | _ => none }
def IvExpWrongFalsely : Prop := ivExpRow.holds Try.pinned (OpenSpec.ofChange ivExpWrong)

/-- 'envelopelaw2.IvRare': WHATEVER THE INPUT: true; the input reads as it did. -/
def ivRareSpec : ChangeSpec := { name := "ivRare", fn := fun _ => fun
  | [d1, d2, d3, d4] => { results := [.lit (.bool true)], args := [d1, d2, d3, d4] }
  | _ => none }
def ivRareRow : OpenClaim := { program := "ythajhpilfbijdaa", sum := "303adadfecac7086bc75e346f4d849fb25be8fe15bf61e604de3c24871eb6e31", func := "envelope/envelopelaw2.IvRare", spec := "ivRare", inPlace := ["math.Float64frombits", "math.Float64bits"], unfollowed := true, recurses := true, apart := false }
def IvRareSaid : Prop := ivRareRow.holds Try.pinned (OpenSpec.ofChange ivRareSpec)

/-- ITS FALSE NEIGHBOUR: 'it returns false'. Refute it at one input. -/
def ivRareWrong : ChangeSpec := { name := "ivRare", fn := fun _ => fun
  | [d1, d2, d3, d4] => { results := [.lit (.bool false)], args := [d1, d2, d3, d4] }
  | _ => none }
def IvRareWrongFalsely : Prop := ivRareRow.holds Try.pinned (OpenSpec.ofChange ivRareWrong)

/-- 'envelopelaw2.IvMany': WHATEVER THE INPUT: true; the input reads as it did. -/
def ivManySpec : ChangeSpec := { name := "ivMany", fn := fun _ => fun
  | [d] => { results := [.lit (.bool true)], args := [d] }
  | _ => none }
def ivManyRow : OpenClaim := { program := "ythajhpilfbijdaa", sum := "303adadfecac7086bc75e346f4d849fb25be8fe15bf61e604de3c24871eb6e31", func := "envelope/envelopelaw2.IvMany", spec := "ivMany", inPlace := ["math.Float64frombits", "math.Float64bits"], unfollowed := true, recurses := true, apart := false }
def IvManySaid : Prop := ivManyRow.holds Try.pinned (OpenSpec.ofChange ivManySpec)

/-- ITS FALSE NEIGHBOUR: 'it returns false'. Refute it at one input. -/
def ivManyWrong : ChangeSpec := { name := "ivMany", fn := fun _ => fun
  | [d] => { results := [.lit (.bool false)], args := [d] }
  | _ => none }
def IvManyWrongFalsely : Prop := ivManyRow.holds Try.pinned (OpenSpec.ofChange ivManyWrong)

/-- 'envelopelaw2.IvKnown': WHATEVER THE INPUT: true; the input reads as it did. -/
def ivKnownSpec : ChangeSpec := { name := "ivKnown", fn := fun _ => fun
  | [d] => { results := [.lit (.bool true)], args := [d] }
  | _ => none }
def ivKnownRow : OpenClaim := { program := "ythajhpilfbijdaa", sum := "303adadfecac7086bc75e346f4d849fb25be8fe15bf61e604de3c24871eb6e31", func := "envelope/envelopelaw2.IvKnown", spec := "ivKnown", inPlace := ["math.Float64frombits", "math.Float64bits"], unfollowed := true, recurses := true, apart := false }
def IvKnownSaid : Prop := ivKnownRow.holds Try.pinned (OpenSpec.ofChange ivKnownSpec)

/-- ITS FALSE NEIGHBOUR: 'it returns false'. Refute it at one input. -/
def ivKnownWrong : ChangeSpec := { name := "ivKnown", fn := fun _ => fun
  | [d] => { results := [.lit (.bool false)], args := [d] }
  | _ => none }
def IvKnownWrongFalsely : Prop := ivKnownRow.holds Try.pinned (OpenSpec.ofChange ivKnownWrong)

/-- 'envelopelaw2.IvMags': WHATEVER THE INPUT: true; the input reads as it did. -/
def ivMagsSpec : ChangeSpec := { name := "ivMags", fn := fun _ => fun
  | [d1, d2, d3, d4, d5, d6] => { results := [.lit (.bool true)], args := [d1, d2, d3, d4, d5, d6] }
  | _ => none }
def ivMagsRow : OpenClaim := { program := "ythajhpilfbijdaa", sum := "303adadfecac7086bc75e346f4d849fb25be8fe15bf61e604de3c24871eb6e31", func := "envelope/envelopelaw2.IvMags", spec := "ivMags", inPlace := ["math.Float64frombits", "math.Float64bits"], unfollowed := true, recurses := true, apart := false }
def IvMagsSaid : Prop := ivMagsRow.holds Try.pinned (OpenSpec.ofChange ivMagsSpec)

/-- ITS FALSE NEIGHBOUR: 'it returns false'. Refute it at one input. -/
def ivMagsWrong : ChangeSpec := { name := "ivMags", fn := fun _ => fun
  | [d1, d2, d3, d4, d5, d6] => { results := [.lit (.bool false)], args := [d1, d2, d3, d4, d5, d6] }
  | _ => none }
def IvMagsWrongFalsely : Prop := ivMagsRow.holds Try.pinned (OpenSpec.ofChange ivMagsWrong)

/-- 'envelopelaw2.IvBack': WHATEVER THE INPUT: true; the input reads as it did. -/
def ivBackSpec : ChangeSpec := { name := "ivBack", fn := fun _ => fun
  | [d1, d2, d3, d4, d5, d6] => { results := [.lit (.bool true)], args := [d1, d2, d3, d4, d5, d6] }
  | _ => none }
def ivBackRow : OpenClaim := { program := "ythajhpilfbijdaa", sum := "303adadfecac7086bc75e346f4d849fb25be8fe15bf61e604de3c24871eb6e31", func := "envelope/envelopelaw2.IvBack", spec := "ivBack", inPlace := ["math.Float64frombits", "math.Float64bits"], unfollowed := true, recurses := true, apart := false }
def IvBackSaid : Prop := ivBackRow.holds Try.pinned (OpenSpec.ofChange ivBackSpec)

/-- ITS FALSE NEIGHBOUR: 'it returns false'. Refute it at one input. -/
def ivBackWrong : ChangeSpec := { name := "ivBack", fn := fun _ => fun
  | [d1, d2, d3, d4, d5, d6] => { results := [.lit (.bool false)], args := [d1, d2, d3, d4, d5, d6] }
  | _ => none }
def IvBackWrongFalsely : Prop := ivBackRow.holds Try.pinned (OpenSpec.ofChange ivBackWrong)

/-- 'envelopelaw2.IvWithin': WHATEVER THE INPUT: true; the input reads as it did. -/
def ivWithinSpec : ChangeSpec := { name := "ivWithin", fn := fun _ => fun
  | [d1, d2, d3, d4, d5, d6, d7] => { results := [.lit (.bool true)], args := [d1, d2, d3, d4, d5, d6, d7] }
  | _ => none }
def ivWithinRow : OpenClaim := { program := "ythajhpilfbijdaa", sum := "303adadfecac7086bc75e346f4d849fb25be8fe15bf61e604de3c24871eb6e31", func := "envelope/envelopelaw2.IvWithin", spec := "ivWithin", inPlace := ["math.Float64frombits", "math.Float64bits"], unfollowed := true, recurses := true, apart := false }
def IvWithinSaid : Prop := ivWithinRow.holds Try.pinned (OpenSpec.ofChange ivWithinSpec)

/-- ITS FALSE NEIGHBOUR: 'it returns false'. Refute it at one input. -/
def ivWithinWrong : ChangeSpec := { name := "ivWithin", fn := fun _ => fun
  | [d1, d2, d3, d4, d5, d6, d7] => { results := [.lit (.bool false)], args := [d1, d2, d3, d4, d5, d6, d7] }
  | _ => none }
def IvWithinWrongFalsely : Prop := ivWithinRow.holds Try.pinned (OpenSpec.ofChange ivWithinWrong)

/-- 'envelopelaw2.IvTurns': WHATEVER THE INPUT: true; the input reads as it did. -/
def ivTurnsSpec : ChangeSpec := { name := "ivTurns", fn := fun _ => fun
  | [d1, d2, d3, d4, d5, d6] => { results := [.lit (.bool true)], args := [d1, d2, d3, d4, d5, d6] }
  | _ => none }
def ivTurnsRow : OpenClaim := { program := "ythajhpilfbijdaa", sum := "303adadfecac7086bc75e346f4d849fb25be8fe15bf61e604de3c24871eb6e31", func := "envelope/envelopelaw2.IvTurns", spec := "ivTurns", inPlace := ["math.Float64frombits", "math.Float64bits"], unfollowed := true, recurses := true, apart := false }
def IvTurnsSaid : Prop := ivTurnsRow.holds Try.pinned (OpenSpec.ofChange ivTurnsSpec)

/-- ITS FALSE NEIGHBOUR: 'it returns false'. Refute it at one input. -/
def ivTurnsWrong : ChangeSpec := { name := "ivTurns", fn := fun _ => fun
  | [d1, d2, d3, d4, d5, d6] => { results := [.lit (.bool false)], args := [d1, d2, d3, d4, d5, d6] }
  | _ => none }
def IvTurnsWrongFalsely : Prop := ivTurnsRow.holds Try.pinned (OpenSpec.ofChange ivTurnsWrong)

/-- 'envelopelaw2.IvAll': WHATEVER THE INPUT: true; the input reads as it did. -/
def ivAllSpec : ChangeSpec := { name := "ivAll", fn := fun _ => fun
  | [d1, d2, d3, d4, d5, d6, d7, d8] => { results := [.lit (.bool true)], args := [d1, d2, d3, d4, d5, d6, d7, d8] }
  | _ => none }
def ivAllRow : OpenClaim := { program := "ythajhpilfbijdaa", sum := "303adadfecac7086bc75e346f4d849fb25be8fe15bf61e604de3c24871eb6e31", func := "envelope/envelopelaw2.IvAll", spec := "ivAll", inPlace := ["math.Float64frombits", "math.Float64bits"], unfollowed := true, recurses := true, apart := false }
def IvAllSaid : Prop := ivAllRow.holds Try.pinned (OpenSpec.ofChange ivAllSpec)

/-- ITS FALSE NEIGHBOUR: 'it returns false'. Refute it at one input. -/
def ivAllWrong : ChangeSpec := { name := "ivAll", fn := fun _ => fun
  | [d1, d2, d3, d4, d5, d6, d7, d8] => { results := [.lit (.bool false)], args := [d1, d2, d3, d4, d5, d6, d7, d8] }
  | _ => none }
def IvAllWrongFalsely : Prop := ivAllRow.holds Try.pinned (OpenSpec.ofChange ivAllWrong)

/-- 'envelopelaw2.IvWider': WHATEVER THE INPUT: true; the input reads as it did. -/
def ivWiderSpec : ChangeSpec := { name := "ivWider", fn := fun _ => fun
  | [d1, d2, d3, d4, d5, d6, d7] => { results := [.lit (.bool true)], args := [d1, d2, d3, d4, d5, d6, d7] }
  | _ => none }
def ivWiderRow : OpenClaim := { program := "ythajhpilfbijdaa", sum := "303adadfecac7086bc75e346f4d849fb25be8fe15bf61e604de3c24871eb6e31", func := "envelope/envelopelaw2.IvWider", spec := "ivWider", inPlace := ["math.Float64frombits", "math.Float64bits"], unfollowed := true, recurses := true, apart := false }
def IvWiderSaid : Prop := ivWiderRow.holds Try.pinned (OpenSpec.ofChange ivWiderSpec)

/-- ITS FALSE NEIGHBOUR: 'it returns false'. Refute it at one input. -/
def ivWiderWrong : ChangeSpec := { name := "ivWider", fn := fun _ => fun
  | [d1, d2, d3, d4, d5, d6, d7] => { results := [.lit (.bool false)], args := [d1, d2, d3, d4, d5, d6, d7] }
  | _ => none }
def IvWiderWrongFalsely : Prop := ivWiderRow.holds Try.pinned (OpenSpec.ofChange ivWiderWrong)

/-- 'envelopelaw2.IvJoins': WHATEVER THE INPUT: true; the input reads as it did. -/
def ivJoinsSpec : ChangeSpec := { name := "ivJoins", fn := fun _ => fun
  | [d1, d2, d3, d4, d5, d6, d7] => { results := [.lit (.bool true)], args := [d1, d2, d3, d4, d5, d6, d7] }
  | _ => none }
def ivJoinsRow : OpenClaim := { program := "ythajhpilfbijdaa", sum := "303adadfecac7086bc75e346f4d849fb25be8fe15bf61e604de3c24871eb6e31", func := "envelope/envelopelaw2.IvJoins", spec := "ivJoins", inPlace := ["math.Float64frombits", "math.Float64bits"], unfollowed := true, recurses := true, apart := false }
def IvJoinsSaid : Prop := ivJoinsRow.holds Try.pinned (OpenSpec.ofChange ivJoinsSpec)

/-- ITS FALSE NEIGHBOUR: 'it returns false'. Refute it at one input. -/
def ivJoinsWrong : ChangeSpec := { name := "ivJoins", fn := fun _ => fun
  | [d1, d2, d3, d4, d5, d6, d7] => { results := [.lit (.bool false)], args := [d1, d2, d3, d4, d5, d6, d7] }
  | _ => none }
def IvJoinsWrongFalsely : Prop := ivJoinsRow.holds Try.pinned (OpenSpec.ofChange ivJoinsWrong)

/-- 'envelopelaw2.IvWhole': WHATEVER THE INPUT: true; the input reads as it did. -/
def ivWholeSpec : ChangeSpec := { name := "ivWhole", fn := fun _ => fun
  | [d1, d2, d3] => { results := [.lit (.bool true)], args := [d1, d2, d3] }
  | _ => none }
def ivWholeRow : OpenClaim := { program := "ythajhpilfbijdaa", sum := "303adadfecac7086bc75e346f4d849fb25be8fe15bf61e604de3c24871eb6e31", func := "envelope/envelopelaw2.IvWhole", spec := "ivWhole", inPlace := ["math.Float64frombits", "math.Float64bits"], unfollowed := true, recurses := true, apart := false }
def IvWholeSaid : Prop := ivWholeRow.holds Try.pinned (OpenSpec.ofChange ivWholeSpec)

/-- ITS FALSE NEIGHBOUR: 'it returns false'. Refute it at one input. -/
def ivWholeWrong : ChangeSpec := { name := "ivWhole", fn := fun _ => fun
  | [d1, d2, d3] => { results := [.lit (.bool false)], args := [d1, d2, d3] }
  | _ => none }
def IvWholeWrongFalsely : Prop := ivWholeRow.holds Try.pinned (OpenSpec.ofChange ivWholeWrong)

/- THE SECOND FORM. 'bulk': how many values and letters a reading holds, each counted each time it is reached (what is shared counts as often as it is met; a slice's spare places count too). A statement '..UptoSaid' is the law's where the arguments, and the package variables that the reading takes, are together of bulk at most 1048576: NARROWER than '..Said'. Prove '..Said' where nothing that the law and all that it calls make is longer than what came in: it says more and counts as full. Else prove '..UptoSaid'. A law counts once. -/
mutual
def uptoBulk {H : Type} : DataW H → Nat
  | .lit (.string bytes) => bytes.length + 1
  | .lit _ => 1
  | .nil => 1
  | .ptr d => uptoBulk d + 1
  | .slice elems spare => uptoBulkAll elems + uptoBulkAll spare + 1
  | .agg parts => uptoBulkAll parts + 1
  | .iface _ d => uptoBulk d + 1
  | .map entries => uptoBulkEntries entries + 1
  | .held _ => 1
def uptoBulkAll {H : Type} : List (DataW H) → Nat
  | [] => 0
  | d :: r => uptoBulk d + uptoBulkAll r
def uptoBulkEntries {H : Type} : List (Lit × DataW H) → Nat
  | [] => 0
  | x :: r => uptoBulkEntry x + uptoBulkEntries r
def uptoBulkEntry {H : Type} : Lit × DataW H → Nat
  | (.string bytes, d) => bytes.length + uptoBulk d + 1
  | (_, d) => uptoBulk d + 1
 end
def uptoSmall : (H : Type) → List (DataW H) → Bool := fun _ ds => decide (uptoBulkAll ds ≤ 1048576)
def OpenSpec.upto (s : _root_.Go.ChangeSpec) : _root_.Go.OpenSpec := { _root_.Go.OpenSpec.ofChange s with cond := some uptoSmall }

/-- 'envelopelaw2.IvHolds', WHERE WHAT IT READS IS OF BULK AT MOST 1048576: true; the input reads as it did. -/
def ivHoldsUptoRow : OpenClaim := { program := "ythajhpilfbijdaa", sum := "303adadfecac7086bc75e346f4d849fb25be8fe15bf61e604de3c24871eb6e31", func := "envelope/envelopelaw2.IvHolds", spec := "ivHolds", inPlace := ["math.Float64frombits", "math.Float64bits"], unfollowed := true, recurses := true, apart := false, narrowed := true }
def IvHoldsUptoSaid : Prop := ivHoldsUptoRow.holds Try.pinned (OpenSpec.upto ivHoldsSpec)

/-- 'envelopelaw2.IvExp', WHERE WHAT IT READS IS OF BULK AT MOST 1048576: true; the input reads as it did. -/
def ivExpUptoRow : OpenClaim := { program := "ythajhpilfbijdaa", sum := "303adadfecac7086bc75e346f4d849fb25be8fe15bf61e604de3c24871eb6e31", func := "envelope/envelopelaw2.IvExp", spec := "ivExp", inPlace := ["math.Float64frombits", "math.Float64bits"], unfollowed := true, recurses := true, apart := false, narrowed := true }
def IvExpUptoSaid : Prop := ivExpUptoRow.holds Try.pinned (OpenSpec.upto ivExpSpec)

/-- 'envelopelaw2.IvRare', WHERE WHAT IT READS IS OF BULK AT MOST 1048576: true; the input reads as it did. -/
def ivRareUptoRow : OpenClaim := { program := "ythajhpilfbijdaa", sum := "303adadfecac7086bc75e346f4d849fb25be8fe15bf61e604de3c24871eb6e31", func := "envelope/envelopelaw2.IvRare", spec := "ivRare", inPlace := ["math.Float64frombits", "math.Float64bits"], unfollowed := true, recurses := true, apart := false, narrowed := true }
def IvRareUptoSaid : Prop := ivRareUptoRow.holds Try.pinned (OpenSpec.upto ivRareSpec)

/-- 'envelopelaw2.IvMany', WHERE WHAT IT READS IS OF BULK AT MOST 1048576: true; the input reads as it did. -/
def ivManyUptoRow : OpenClaim := { program := "ythajhpilfbijdaa", sum := "303adadfecac7086bc75e346f4d849fb25be8fe15bf61e604de3c24871eb6e31", func := "envelope/envelopelaw2.IvMany", spec := "ivMany", inPlace := ["math.Float64frombits", "math.Float64bits"], unfollowed := true, recurses := true, apart := false, narrowed := true }
def IvManyUptoSaid : Prop := ivManyUptoRow.holds Try.pinned (OpenSpec.upto ivManySpec)

/-- 'envelopelaw2.IvKnown', WHERE WHAT IT READS IS OF BULK AT MOST 1048576: true; the input reads as it did. -/
def ivKnownUptoRow : OpenClaim := { program := "ythajhpilfbijdaa", sum := "303adadfecac7086bc75e346f4d849fb25be8fe15bf61e604de3c24871eb6e31", func := "envelope/envelopelaw2.IvKnown", spec := "ivKnown", inPlace := ["math.Float64frombits", "math.Float64bits"], unfollowed := true, recurses := true, apart := false, narrowed := true }
def IvKnownUptoSaid : Prop := ivKnownUptoRow.holds Try.pinned (OpenSpec.upto ivKnownSpec)

/-- 'envelopelaw2.IvMags', WHERE WHAT IT READS IS OF BULK AT MOST 1048576: true; the input reads as it did. -/
def ivMagsUptoRow : OpenClaim := { program := "ythajhpilfbijdaa", sum := "303adadfecac7086bc75e346f4d849fb25be8fe15bf61e604de3c24871eb6e31", func := "envelope/envelopelaw2.IvMags", spec := "ivMags", inPlace := ["math.Float64frombits", "math.Float64bits"], unfollowed := true, recurses := true, apart := false, narrowed := true }
def IvMagsUptoSaid : Prop := ivMagsUptoRow.holds Try.pinned (OpenSpec.upto ivMagsSpec)

/-- 'envelopelaw2.IvBack', WHERE WHAT IT READS IS OF BULK AT MOST 1048576: true; the input reads as it did. -/
def ivBackUptoRow : OpenClaim := { program := "ythajhpilfbijdaa", sum := "303adadfecac7086bc75e346f4d849fb25be8fe15bf61e604de3c24871eb6e31", func := "envelope/envelopelaw2.IvBack", spec := "ivBack", inPlace := ["math.Float64frombits", "math.Float64bits"], unfollowed := true, recurses := true, apart := false, narrowed := true }
def IvBackUptoSaid : Prop := ivBackUptoRow.holds Try.pinned (OpenSpec.upto ivBackSpec)

/-- 'envelopelaw2.IvWithin', WHERE WHAT IT READS IS OF BULK AT MOST 1048576: true; the input reads as it did. -/
def ivWithinUptoRow : OpenClaim := { program := "ythajhpilfbijdaa", sum := "303adadfecac7086bc75e346f4d849fb25be8fe15bf61e604de3c24871eb6e31", func := "envelope/envelopelaw2.IvWithin", spec := "ivWithin", inPlace := ["math.Float64frombits", "math.Float64bits"], unfollowed := true, recurses := true, apart := false, narrowed := true }
def IvWithinUptoSaid : Prop := ivWithinUptoRow.holds Try.pinned (OpenSpec.upto ivWithinSpec)

/-- 'envelopelaw2.IvTurns', WHERE WHAT IT READS IS OF BULK AT MOST 1048576: true; the input reads as it did. -/
def ivTurnsUptoRow : OpenClaim := { program := "ythajhpilfbijdaa", sum := "303adadfecac7086bc75e346f4d849fb25be8fe15bf61e604de3c24871eb6e31", func := "envelope/envelopelaw2.IvTurns", spec := "ivTurns", inPlace := ["math.Float64frombits", "math.Float64bits"], unfollowed := true, recurses := true, apart := false, narrowed := true }
def IvTurnsUptoSaid : Prop := ivTurnsUptoRow.holds Try.pinned (OpenSpec.upto ivTurnsSpec)

/-- 'envelopelaw2.IvAll', WHERE WHAT IT READS IS OF BULK AT MOST 1048576: true; the input reads as it did. -/
def ivAllUptoRow : OpenClaim := { program := "ythajhpilfbijdaa", sum := "303adadfecac7086bc75e346f4d849fb25be8fe15bf61e604de3c24871eb6e31", func := "envelope/envelopelaw2.IvAll", spec := "ivAll", inPlace := ["math.Float64frombits", "math.Float64bits"], unfollowed := true, recurses := true, apart := false, narrowed := true }
def IvAllUptoSaid : Prop := ivAllUptoRow.holds Try.pinned (OpenSpec.upto ivAllSpec)

/-- 'envelopelaw2.IvWider', WHERE WHAT IT READS IS OF BULK AT MOST 1048576: true; the input reads as it did. -/
def ivWiderUptoRow : OpenClaim := { program := "ythajhpilfbijdaa", sum := "303adadfecac7086bc75e346f4d849fb25be8fe15bf61e604de3c24871eb6e31", func := "envelope/envelopelaw2.IvWider", spec := "ivWider", inPlace := ["math.Float64frombits", "math.Float64bits"], unfollowed := true, recurses := true, apart := false, narrowed := true }
def IvWiderUptoSaid : Prop := ivWiderUptoRow.holds Try.pinned (OpenSpec.upto ivWiderSpec)

/-- 'envelopelaw2.IvJoins', WHERE WHAT IT READS IS OF BULK AT MOST 1048576: true; the input reads as it did. -/
def ivJoinsUptoRow : OpenClaim := { program := "ythajhpilfbijdaa", sum := "303adadfecac7086bc75e346f4d849fb25be8fe15bf61e604de3c24871eb6e31", func := "envelope/envelopelaw2.IvJoins", spec := "ivJoins", inPlace := ["math.Float64frombits", "math.Float64bits"], unfollowed := true, recurses := true, apart := false, narrowed := true }
def IvJoinsUptoSaid : Prop := ivJoinsUptoRow.holds Try.pinned (OpenSpec.upto ivJoinsSpec)

/-- 'envelopelaw2.IvWhole', WHERE WHAT IT READS IS OF BULK AT MOST 1048576: true; the input reads as it did. -/
def ivWholeUptoRow : OpenClaim := { program := "ythajhpilfbijdaa", sum := "303adadfecac7086bc75e346f4d849fb25be8fe15bf61e604de3c24871eb6e31", func := "envelope/envelopelaw2.IvWhole", spec := "ivWhole", inPlace := ["math.Float64frombits", "math.Float64bits"], unfollowed := true, recurses := true, apart := false, narrowed := true }
def IvWholeUptoSaid : Prop := ivWholeUptoRow.holds Try.pinned (OpenSpec.upto ivWholeSpec)

end Rows
end Go.Proofs.Ythajhpilfbijdaa
