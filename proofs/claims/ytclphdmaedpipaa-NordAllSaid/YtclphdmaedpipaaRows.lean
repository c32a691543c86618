/-
  No cell of these rows narrows 'for every input' (looked for: loops, veiled, ifaces, maps, wideKeys, modest, calm, conditions, laid).
  DERIVED. THE GIVEN ROWS OF THIS SEAT. 10 by the template 'for every input the law returns true; each argument reads behind the call as it read before'; 0 by the template 'total and deterministic' (their statements: YtclphdmaedpipaaTotals.lean).
  GIVEN WITH THE SEED: the statements are not yours to turn. If you find one false, say at which input.
  Laid BY PROGRAM, IN A SANDBOX (cutbox-rows.mjs): the forced cells as the released guide's own fill.sh prints them over the translation 04907c26e2651774… (all of the seat's roots in one cut). By AI agents, Wed Nov 11 2026. No macro, syntax, notation, axiom, sorry.
-/
import Derived.Test.YtclphdmaedpipaaChecked
import GoSem.Claim
import GoSem.ClaimJoined
import GoSem.ClaimMapViews
import Derived.JoinedTies
import Derived.KernelRfl
namespace Go.Proofs.Ytclphdmaedpipaa
/- THE CELL 'sum', in the pinned program and in every row, IS THE sha256 OF THE DUMP (.gsa) THAT YtclphdmaedpipaaProg.lean LOADS. Nothing in Lean hashes anything: it is a label: what it is worth is what the hold of that sum in a sandbox is worth. -/
noncomputable def Try.pinned : Pinned := { name := "ytclphdmaedpipaa", sum := "04907c26e26517743c0080fb3dfaba30297939e4e104399427ba234fb7ee8191", checked := Try.checked }
namespace Rows
def none {H : Type} : Left H := { results := [], args := [] }

/-- 'envelopelaw8.NordPredicts': WHATEVER THE INPUT: true; the input reads as it did. -/
def nordPredictsSpec : ChangeSpec := { name := "nordPredicts", fn := fun _ => fun
  | [d1, d2, d3, d4] => { results := [.lit (.bool true)], args := [d1, d2, d3, d4] }
  | _ => none }
def nordPredictsRow : OpenClaim := { program := "ytclphdmaedpipaa", sum := "04907c26e26517743c0080fb3dfaba30297939e4e104399427ba234fb7ee8191", func := "envelope/envelopelaw8.NordPredicts", spec := "nordPredicts", apart := false }
def NordPredictsSaid : Prop := nordPredictsRow.holds Try.pinned (OpenSpec.ofChange nordPredictsSpec)

/-- ITS FALSE NEIGHBOUR: 'it returns false'. Refute it at one input. -/
def nordPredictsWrong : ChangeSpec := { name := "nordPredicts", fn := fun _ => fun
  | [d1, d2, d3, d4] => { results := [.lit (.bool false)], args := [d1, d2, d3, d4] }
  | _ => none }
def NordPredictsWrongFalsely : Prop := nordPredictsRow.holds Try.pinned (OpenSpec.ofChange nordPredictsWrong)

/-- 'envelopelaw8.NordSums': WHATEVER THE INPUT: true; the input reads as it did. -/
def nordSumsSpec : ChangeSpec := { name := "nordSums", fn := fun _ => fun
  | [d1, d2, d3, d4, d5] => { results := [.lit (.bool true)], args := [d1, d2, d3, d4, d5] }
  | _ => none }
def nordSumsRow : OpenClaim := { program := "ytclphdmaedpipaa", sum := "04907c26e26517743c0080fb3dfaba30297939e4e104399427ba234fb7ee8191", func := "envelope/envelopelaw8.NordSums", spec := "nordSums", apart := false }
def NordSumsSaid : Prop := nordSumsRow.holds Try.pinned (OpenSpec.ofChange nordSumsSpec)

/-- ITS FALSE NEIGHBOUR: 'it returns false'. Refute it at one input. -/
def nordSumsWrong : ChangeSpec := { name := "nordSums", fn := fun _ => fun
  | [d1, d2, d3, d4, d5] => { results := [.lit (.bool false)], args := [d1, d2, d3, d4, d5] }
  | _ => none }
def NordSumsWrongFalsely : Prop := nordSumsRow.holds Try.pinned (OpenSpec.ofChange nordSumsWrong)

/-- 'envelopelaw8.NordTop': WHATEVER THE INPUT: true; the input reads as it did. -/
def nordTopSpec : ChangeSpec := { name := "nordTop", fn := fun _ => fun
  | [d1, d2, d3] => { results := [.lit (.bool true)], args := [d1, d2, d3] }
  | _ => none }
def nordTopRow : OpenClaim := { program := "ytclphdmaedpipaa", sum := "04907c26e26517743c0080fb3dfaba30297939e4e104399427ba234fb7ee8191", func := "envelope/envelopelaw8.NordTop", spec := "nordTop", apart := false }
def NordTopSaid : Prop := nordTopRow.holds Try.pinned (OpenSpec.ofChange nordTopSpec)

/-- ITS FALSE NEIGHBOUR: 'it returns false'. Refute it at one input. -/
def nordTopWrong : ChangeSpec := { name := "nordTop", fn := fun _ => fun
  | [d1, d2, d3] => { results := [.lit (.bool false)], args := [d1, d2, d3] }
  | _ => none }
def NordTopWrongFalsely : Prop := nordTopRow.holds Try.pinned (OpenSpec.ofChange nordTopWrong)

/-- 'envelopelaw8.NordCorrects': WHATEVER THE INPUT: true; the input reads as it did. -/
def nordCorrectsSpec : ChangeSpec := { name := "nordCorrects", fn := fun _ => fun
  | [d1, d2, d3, d4] => { results := [.lit (.bool true)], args := [d1, d2, d3, d4] }
  | _ => none }
def nordCorrectsRow : OpenClaim := { program := "ytclphdmaedpipaa", sum := "04907c26e26517743c0080fb3dfaba30297939e4e104399427ba234fb7ee8191", func := "envelope/envelopelaw8.NordCorrects", spec := "nordCorrects", inPlace := ["math.Float64bits", "math.Float64frombits"], unfollowed := true, recurses := true, apart := false }
def NordCorrectsSaid : Prop := nordCorrectsRow.holds Try.pinned (OpenSpec.ofChange nordCorrectsSpec)

/-- ITS FALSE NEIGHBOUR: 'it returns false'. Refute it at one input. -/
def nordCorrectsWrong : ChangeSpec := { name := "nordCorrects", fn := fun _ => fun
  | [d1, d2, d3, d4] => { results := [.lit (.bool false)], args := [d1, d2, d3, d4] }
  | _ => none }
def NordCorrectsWrongFalsely : Prop := nordCorrectsRow.holds Try.pinned (OpenSpec.ofChange nordCorrectsWrong)

/-- 'envelopelaw8.NordScales': WHATEVER THE INPUT: true; the input reads as it did. -/
def nordScalesSpec : ChangeSpec := { name := "nordScales", fn := fun _ => fun
  | [d1, d2, d3, d4, d5] => { results := [.lit (.bool true)], args := [d1, d2, d3, d4, d5] }
  | _ => none }
def nordScalesRow : OpenClaim := { program := "ytclphdmaedpipaa", sum := "04907c26e26517743c0080fb3dfaba30297939e4e104399427ba234fb7ee8191", func := "envelope/envelopelaw8.NordScales", spec := "nordScales", inPlace := ["math.Float64bits", "math.Float64frombits"], unfollowed := true, recurses := true, apart := false }
def NordScalesSaid : Prop := nordScalesRow.holds Try.pinned (OpenSpec.ofChange nordScalesSpec)

/-- ITS FALSE NEIGHBOUR: 'it returns false'. Refute it at one input. -/
def nordScalesWrong : ChangeSpec := { name := "nordScales", fn := fun _ => fun
  | [d1, d2, d3, d4, d5] => { results := [.lit (.bool false)], args := [d1, d2, d3, d4, d5] }
  | _ => none }
def NordScalesWrongFalsely : Prop := nordScalesRow.holds Try.pinned (OpenSpec.ofChange nordScalesWrong)

/-- 'envelopelaw8.NordOwn': WHATEVER THE INPUT: true; the input reads as it did. -/
def nordOwnSpec : ChangeSpec := { name := "nordOwn", fn := fun _ => fun
  | [d1, d2, d3, d4] => { results := [.lit (.bool true)], args := [d1, d2, d3, d4] }
  | _ => none }
def nordOwnRow : OpenClaim := { program := "ytclphdmaedpipaa", sum := "04907c26e26517743c0080fb3dfaba30297939e4e104399427ba234fb7ee8191", func := "envelope/envelopelaw8.NordOwn", spec := "nordOwn", inPlace := ["math.Float64bits", "math.Float64frombits"], unfollowed := true, recurses := true, apart := false }
def NordOwnSaid : Prop := nordOwnRow.holds Try.pinned (OpenSpec.ofChange nordOwnSpec)

/-- ITS FALSE NEIGHBOUR: 'it returns false'. Refute it at one input. -/
def nordOwnWrong : ChangeSpec := { name := "nordOwn", fn := fun _ => fun
  | [d1, d2, d3, d4] => { results := [.lit (.bool false)], args := [d1, d2, d3, d4] }
  | _ => none }
def NordOwnWrongFalsely : Prop := nordOwnRow.holds Try.pinned (OpenSpec.ofChange nordOwnWrong)

/-- 'envelopelaw8.NordKnown': WHATEVER THE INPUT: true; the input reads as it did. -/
def nordKnownSpec : ChangeSpec := { name := "nordKnown", fn := fun _ => fun
  | [d] => { results := [.lit (.bool true)], args := [d] }
  | _ => none }
def nordKnownRow : OpenClaim := { program := "ytclphdmaedpipaa", sum := "04907c26e26517743c0080fb3dfaba30297939e4e104399427ba234fb7ee8191", func := "envelope/envelopelaw8.NordKnown", spec := "nordKnown", inPlace := ["math.Float64bits", "math.Float64frombits"], unfollowed := true, recurses := true, apart := false }
def NordKnownSaid : Prop := nordKnownRow.holds Try.pinned (OpenSpec.ofChange nordKnownSpec)

/-- ITS FALSE NEIGHBOUR: 'it returns false'. Refute it at one input. -/
def nordKnownWrong : ChangeSpec := { name := "nordKnown", fn := fun _ => fun
  | [d] => { results := [.lit (.bool false)], args := [d] }
  | _ => none }
def NordKnownWrongFalsely : Prop := nordKnownRow.holds Try.pinned (OpenSpec.ofChange nordKnownWrong)

/-- 'envelopelaw8.NordNothing': WHATEVER THE INPUT: true; the input reads as it did. -/
def nordNothingSpec : ChangeSpec := { name := "nordNothing", fn := fun _ => fun
  | [d1, d2, d3, d4] => { results := [.lit (.bool true)], args := [d1, d2, d3, d4] }
  | _ => none }
def nordNothingRow : OpenClaim := { program := "ytclphdmaedpipaa", sum := "04907c26e26517743c0080fb3dfaba30297939e4e104399427ba234fb7ee8191", func := "envelope/envelopelaw8.NordNothing", spec := "nordNothing", inPlace := ["math.Float64bits", "math.Float64frombits"], unfollowed := true, recurses := true, apart := false }
def NordNothingSaid : Prop := nordNothingRow.holds Try.pinned (OpenSpec.ofChange nordNothingSpec)

/-- ITS FALSE NEIGHBOUR: 'it returns false'. Refute it at one input. -/
def nordNothingWrong : ChangeSpec := { name := "nordNothing", fn := fun _ => fun
  | [d1, d2, d3, d4] => { results := [.lit (.bool false)], args := [d1, d2, d3, d4] }
  | _ => none }
def NordNothingWrongFalsely : Prop := nordNothingRow.holds Try.pinned (OpenSpec.ofChange nordNothingWrong)

/-- 'envelopelaw8.NordStarts': WHATEVER THE INPUT: true; the input reads as it did. -/
def nordStartsSpec : ChangeSpec := { name := "nordStarts", fn := fun _ => fun
  | [d1, d2, d3, d4] => { results := [.lit (.bool true)], args := [d1, d2, d3, d4] }
  | _ => none }
def nordStartsRow : OpenClaim := { program := "ytclphdmaedpipaa", sum := "04907c26e26517743c0080fb3dfaba30297939e4e104399427ba234fb7ee8191", func := "envelope/envelopelaw8.NordStarts", spec := "nordStarts", inPlace := ["math.Float64bits", "math.Float64frombits"], unfollowed := true, recurses := true, apart := false }
def NordStartsSaid : Prop := nordStartsRow.holds Try.pinned (OpenSpec.ofChange nordStartsSpec)

/-- ITS FALSE NEIGHBOUR: 'it returns false'. Refute it at one input. -/
def nordStartsWrong : ChangeSpec := { name := "nordStarts", fn := fun _ => fun
  | [d1, d2, d3, d4] => { results := [.lit (.bool false)], args := [d1, d2, d3, d4] }
  | _ => none }
def NordStartsWrongFalsely : Prop := nordStartsRow.holds Try.pinned (OpenSpec.ofChange nordStartsWrong)

/-- 'envelopelaw8.NordAll': WHATEVER THE INPUT: true; the input reads as it did. -/
def nordAllSpec : ChangeSpec := { name := "nordAll", fn := fun _ => fun
  | [d1, d2, d3, d4, d5, d6, d7, d8] => { results := [.lit (.bool true)], args := [d1, d2, d3, d4, d5, d6, d7, d8] }
  | _ => none }
def nordAllRow : OpenClaim := { program := "ytclphdmaedpipaa", sum := "04907c26e26517743c0080fb3dfaba30297939e4e104399427ba234fb7ee8191", func := "envelope/envelopelaw8.NordAll", spec := "nordAll", inPlace := ["math.Float64bits", "math.Float64frombits"], unfollowed := true, recurses := true, apart := false }
def NordAllSaid : Prop := nordAllRow.holds Try.pinned (OpenSpec.ofChange nordAllSpec)

/-- ITS FALSE NEIGHBOUR: 'it returns false'. Refute it at one input. -/
def nordAllWrong : ChangeSpec := { name := "nordAll", fn := fun _ => fun
  | [d1, d2, d3, d4, d5, d6, d7, d8] => { results := [.lit (.bool false)], args := [d1, d2, d3, d4, d5, d6, d7, d8] }
  | _ => none }
def NordAllWrongFalsely : Prop := nordAllRow.holds Try.pinned (OpenSpec.ofChange nordAllWrong)

/- THE SECOND FORM. 'bulk': how many values and letters a reading holds, each counted each time it is reached (what is shared counts as often as it is met; a slice's spare places count too). A statement '..UptoSaid' is the law's where the arguments, and the package variables that the reading takes, are together of bulk at most 1048576: NARROWER than '..Said'. Prove '..Said' where nothing that the law and all that it calls make is longer than what came in: it says more and counts as full. Else prove '..UptoSaid'. A law counts once. -/
mutual
def uptoBulk {H : Type} : DataW H → Nat
  | .lit (.string bytes) => bytes.length + 1
  | .lit _ => 1
  | .nil => 1
  | .ptr d => uptoBulk d + 1
  | .slice elems spare => uptoBulkAll elems + uptoBulkAll spare + 1
  | .agg parts => uptoBulkAll parts + 1
  | .iface _ d => uptoBulk d + 1
  | .map entries => uptoBulkEntries entries + 1
  | .held _ => 1
def uptoBulkAll {H : Type} : List (DataW H) → Nat
  | [] => 0
  | d :: r => uptoBulk d + uptoBulkAll r
def uptoBulkEntries {H : Type} : List (Lit × DataW H) → Nat
  | [] => 0
  | x :: r => uptoBulkEntry x + uptoBulkEntries r
def uptoBulkEntry {H : Type} : Lit × DataW H → Nat
  | (.string bytes, d) => bytes.length + uptoBulk d + 1
  | (_, d) => uptoBulk d + 1
 end
def uptoSmall : (H : Type) → List (DataW H) → Bool := fun _ ds => decide (uptoBulkAll ds ≤ 1048576)
def OpenSpec.upto (s : _root_.Go.ChangeSpec) : _root_.Go.OpenSpec := { _root_.Go.OpenSpec.ofChange s with cond := some uptoSmall }

/-- 'envelopelaw8.NordPredicts', WHERE WHAT IT READS IS OF BULK AT MOST 1048576: true; the input reads as it did. -/
def nordPredictsUptoRow : OpenClaim := { program := "ytclphdmaedpipaa", sum := "04907c26e26517743c0080fb3dfaba30297939e4e104399427ba234fb7ee8191", func := "envelope/envelopelaw8.NordPredicts", spec := "nordPredicts", apart := false, narrowed := true }
def NordPredictsUptoSaid : Prop := nordPredictsUptoRow.holds Try.pinned (OpenSpec.upto nordPredictsSpec)

/-- 'envelopelaw8.NordSums', WHERE WHAT IT READS IS OF BULK AT MOST 1048576: true; the input reads as it did. -/
def nordSumsUptoRow : OpenClaim := { program := "ytclphdmaedpipaa", sum := "04907c26e26517743c0080fb3dfaba30297939e4e104399427ba234fb7ee8191", func := "envelope/envelopelaw8.NordSums", spec := "nordSums", apart := false, narrowed := true }
def NordSumsUptoSaid : Prop := nordSumsUptoRow.holds Try.pinned (OpenSpec.upto nordSumsSpec)

/-- 'envelopelaw8.NordTop', WHERE WHAT IT READS IS OF BULK AT MOST 1048576: true; the input reads as it did. -/
def nordTopUptoRow : OpenClaim := { program := "ytclphdmaedpipaa", sum := "04907c26e26517743c0080fb3dfaba30297939e4e104399427ba234fb7ee8191", func := "envelope/envelopelaw8.NordTop", spec := "nordTop", apart := false, narrowed := true }
def NordTopUptoSaid : Prop := nordTopUptoRow.holds Try.pinned (OpenSpec.upto nordTopSpec)

/-- 'envelopelaw8.NordCorrects', WHERE WHAT IT READS IS OF BULK AT MOST 1048576: true; the input reads as it did. -/
def nordCorrectsUptoRow : OpenClaim := { program := "ytclphdmaedpipaa", sum := "04907c26e26517743c0080fb3dfaba30297939e4e104399427ba234fb7ee8191", func := "envelope/envelopelaw8.NordCorrects", spec := "nordCorrects", inPlace := ["math.Float64bits", "math.Float64frombits"], unfollowed := true, recurses := true, apart := false, narrowed := true }
def NordCorrectsUptoSaid : Prop := nordCorrectsUptoRow.holds Try.pinned (OpenSpec.upto nordCorrectsSpec)

/-- 'envelopelaw8.NordScales', WHERE WHAT IT READS IS OF BULK AT MOST 1048576: true; the input reads as it did. -/
def nordScalesUptoRow : OpenClaim := { program := "ytclphdmaedpipaa", sum := "04907c26e26517743c0080fb3dfaba30297939e4e104399427ba234fb7ee8191", func := "envelope/envelopelaw8.NordScales", spec := "nordScales", inPlace := ["math.Float64bits", "math.Float64frombits"], unfollowed := true, recurses := true, apart := false, narrowed := true }
def NordScalesUptoSaid : Prop := nordScalesUptoRow.holds Try.pinned (OpenSpec.upto nordScalesSpec)

/-- 'envelopelaw8.NordOwn', WHERE WHAT IT READS IS OF BULK AT MOST 1048576: true; the input reads as it did. -/
def nordOwnUptoRow : OpenClaim := { program := "ytclphdmaedpipaa", sum := "04907c26e26517743c0080fb3dfaba30297939e4e104399427ba234fb7ee8191", func := "envelope/envelopelaw8.NordOwn", spec := "nordOwn", inPlace := ["math.Float64bits", "math.Float64frombits"], unfollowed := true, recurses := true, apart := false, narrowed := true }
def NordOwnUptoSaid : Prop := nordOwnUptoRow.holds Try.pinned (OpenSpec.upto nordOwnSpec)

/-- 'envelopelaw8.NordKnown', WHERE WHAT IT READS IS OF BULK AT MOST 1048576: true; the input reads as it did. -/
def nordKnownUptoRow : OpenClaim := { program := "ytclphdmaedpipaa", sum := "04907c26e26517743c0080fb3dfaba30297939e4e104399427ba234fb7ee8191", func := "envelope/envelopelaw8.NordKnown", spec := "nordKnown", inPlace := ["math.Float64bits", "math.Float64frombits"], unfollowed := true, recurses := true, apart := false, narrowed := true }
def NordKnownUptoSaid : Prop := nordKnownUptoRow.holds Try.pinned (OpenSpec.upto nordKnownSpec)

/-- 'envelopelaw8.NordNothing', WHERE WHAT IT READS IS OF BULK AT MOST 1048576: true; the input reads as it did. -/
def nordNothingUptoRow : OpenClaim := { program := "ytclphdmaedpipaa", sum := "04907c26e26517743c0080fb3dfaba30297939e4e104399427ba234fb7ee8191", func := "envelope/envelopelaw8.NordNothing", spec := "nordNothing", inPlace := ["math.Float64bits", "math.Float64frombits"], unfollowed := true, recurses := true, apart := false, narrowed := true }
def NordNothingUptoSaid : Prop := nordNothingUptoRow.holds Try.pinned (OpenSpec.upto nordNothingSpec)

/-- 'envelopelaw8.NordStarts', WHERE WHAT IT READS IS OF BULK AT MOST 1048576: true; the input reads as it did. -/
def nordStartsUptoRow : OpenClaim := { program := "ytclphdmaedpipaa", sum := "04907c26e26517743c0080fb3dfaba30297939e4e104399427ba234fb7ee8191", func := "envelope/envelopelaw8.NordStarts", spec := "nordStarts", inPlace := ["math.Float64bits", "math.Float64frombits"], unfollowed := true, recurses := true, apart := false, narrowed := true }
def NordStartsUptoSaid : Prop := nordStartsUptoRow.holds Try.pinned (OpenSpec.upto nordStartsSpec)

/-- 'envelopelaw8.NordAll', WHERE WHAT IT READS IS OF BULK AT MOST 1048576: true; the input reads as it did. -/
def nordAllUptoRow : OpenClaim := { program := "ytclphdmaedpipaa", sum := "04907c26e26517743c0080fb3dfaba30297939e4e104399427ba234fb7ee8191", func := "envelope/envelopelaw8.NordAll", spec := "nordAll", inPlace := ["math.Float64bits", "math.Float64frombits"], unfollowed := true, recurses := true, apart := false, narrowed := true }
def NordAllUptoSaid : Prop := nordAllUptoRow.holds Try.pinned (OpenSpec.upto nordAllSpec)

end Rows
end Go.Proofs.Ytclphdmaedpipaa
