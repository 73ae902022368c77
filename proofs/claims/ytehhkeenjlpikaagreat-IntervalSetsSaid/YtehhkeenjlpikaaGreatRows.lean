/-
  No cell of these rows narrows 'for every input' (looked for: loops, veiled, ifaces, maps, wideKeys, modest, calm, conditions, laid).
  DERIVED. THE GIVEN ROWS OF THIS SEAT. 5 by the template 'for every input the law returns true; each argument reads behind the call as it read before'; 0 by the template 'total and deterministic' (their statements: YtehhkeenjlpikaaGreatTotals.lean).
  GIVEN WITH THE SEED: the statements are not yours to turn. If you find one false, say at which input.
  Laid BY PROGRAM, IN A SANDBOX (cutbox-rows.mjs): the forced cells as the released guide's own fill.sh prints them over the translation c2dd95421d0c39e1… (all of the seat's roots in one cut). By AI agents, Wed Nov 11 2026. No macro, syntax, notation, axiom, sorry.
-/
import Derived.Test.YtehhkeenjlpikaaGreatChecked
import GoSem.Claim
import GoSem.ClaimJoined
import GoSem.ClaimMapViews
import Derived.JoinedTies
import Derived.KernelRfl
namespace Go.Proofs.YtehhkeenjlpikaaGreat
/- THE CELL 'sum', in the pinned program and in every row, IS THE sha256 OF THE DUMP (.gsa) THAT YtehhkeenjlpikaaGreatProg.lean LOADS. Nothing in Lean hashes anything: it is a label: what it is worth is what the hold of that sum in a sandbox is worth. -/
noncomputable def Tryz.pinned : Pinned := { name := "ytehhkeenjlpikaagreat", sum := "c2dd95421d0c39e1da97e205d04fc1f752cfc0a398bf515f0579c24e7096fe7a", checked := Tryz.checked }
namespace Rows
def none {H : Type} : Left H := { results := [], args := [] }

/-- 'cylinderlaw06.IntervalQuotients': WHATEVER THE INPUT: true; the input reads as it did. -/
def intervalQuotientsSpec : ChangeSpec := { name := "intervalQuotients", fn := fun _ => fun
  | [d1, d2] => { results := [.lit (.bool true)], args := [d1, d2] }
  | _ => none }
def intervalQuotientsRow : OpenClaim := { program := "ytehhkeenjlpikaagreat", sum := "c2dd95421d0c39e1da97e205d04fc1f752cfc0a398bf515f0579c24e7096fe7a", func := "cylinder/cylinderlaw06.IntervalQuotients", spec := "intervalQuotients", unfollowed := true, recurses := true, named := ["math/bits.overflowError"], apart := false }
def IntervalQuotientsSaid : Prop := intervalQuotientsRow.holds Tryz.pinned (OpenSpec.ofChange intervalQuotientsSpec)

/-- ITS FALSE NEIGHBOUR: 'it returns false'. Refute it at one input. -/
def intervalQuotientsWrong : ChangeSpec := { name := "intervalQuotients", fn := fun _ => fun
  | [d1, d2] => { results := [.lit (.bool false)], args := [d1, d2] }
  | _ => none }
def IntervalQuotientsWrongFalsely : Prop := intervalQuotientsRow.holds Tryz.pinned (OpenSpec.ofChange intervalQuotientsWrong)

/-- 'cylinderlaw06.IntervalEvals': WHATEVER THE INPUT: true; the input reads as it did. -/
def intervalEvalsSpec : ChangeSpec := { name := "intervalEvals", fn := fun _ => fun
  | [d1, d2, d3] => { results := [.lit (.bool true)], args := [d1, d2, d3] }
  | _ => none }
def intervalEvalsRow : OpenClaim := { program := "ytehhkeenjlpikaagreat", sum := "c2dd95421d0c39e1da97e205d04fc1f752cfc0a398bf515f0579c24e7096fe7a", func := "cylinder/cylinderlaw06.IntervalEvals", spec := "intervalEvals", unfollowed := true, recurses := true, named := ["math/bits.overflowError"], apart := false }
def IntervalEvalsSaid : Prop := intervalEvalsRow.holds Tryz.pinned (OpenSpec.ofChange intervalEvalsSpec)

/-- ITS FALSE NEIGHBOUR: 'it returns false'. Refute it at one input. -/
def intervalEvalsWrong : ChangeSpec := { name := "intervalEvals", fn := fun _ => fun
  | [d1, d2, d3] => { results := [.lit (.bool false)], args := [d1, d2, d3] }
  | _ => none }
def IntervalEvalsWrongFalsely : Prop := intervalEvalsRow.holds Tryz.pinned (OpenSpec.ofChange intervalEvalsWrong)

/-- 'cylinderlaw06.IntervalArithmetic': WHATEVER THE INPUT: true; the input reads as it did. -/
def intervalArithmeticSpec : ChangeSpec := { name := "intervalArithmetic", fn := fun _ => fun
  | [d1, d2, d3] => { results := [.lit (.bool true)], args := [d1, d2, d3] }
  | _ => none }
def intervalArithmeticRow : OpenClaim := { program := "ytehhkeenjlpikaagreat", sum := "c2dd95421d0c39e1da97e205d04fc1f752cfc0a398bf515f0579c24e7096fe7a", func := "cylinder/cylinderlaw06.IntervalArithmetic", spec := "intervalArithmetic", unfollowed := true, recurses := true, named := ["math/bits.overflowError"], apart := false }
def IntervalArithmeticSaid : Prop := intervalArithmeticRow.holds Tryz.pinned (OpenSpec.ofChange intervalArithmeticSpec)

/-- ITS FALSE NEIGHBOUR: 'it returns false'. Refute it at one input. -/
def intervalArithmeticWrong : ChangeSpec := { name := "intervalArithmetic", fn := fun _ => fun
  | [d1, d2, d3] => { results := [.lit (.bool false)], args := [d1, d2, d3] }
  | _ => none }
def IntervalArithmeticWrongFalsely : Prop := intervalArithmeticRow.holds Tryz.pinned (OpenSpec.ofChange intervalArithmeticWrong)

/-- 'cylinderlaw06.IntervalSets': WHATEVER THE INPUT: true; the input reads as it did. -/
def intervalSetsSpec : ChangeSpec := { name := "intervalSets", fn := fun _ => fun
  | [d1, d2, d3] => { results := [.lit (.bool true)], args := [d1, d2, d3] }
  | _ => none }
def intervalSetsRow : OpenClaim := { program := "ytehhkeenjlpikaagreat", sum := "c2dd95421d0c39e1da97e205d04fc1f752cfc0a398bf515f0579c24e7096fe7a", func := "cylinder/cylinderlaw06.IntervalSets", spec := "intervalSets", unfollowed := true, recurses := true, named := ["math/bits.overflowError"], apart := false }
def IntervalSetsSaid : Prop := intervalSetsRow.holds Tryz.pinned (OpenSpec.ofChange intervalSetsSpec)

/-- ITS FALSE NEIGHBOUR: 'it returns false'. Refute it at one input. -/
def intervalSetsWrong : ChangeSpec := { name := "intervalSets", fn := fun _ => fun
  | [d1, d2, d3] => { results := [.lit (.bool false)], args := [d1, d2, d3] }
  | _ => none }
def IntervalSetsWrongFalsely : Prop := intervalSetsRow.holds Tryz.pinned (OpenSpec.ofChange intervalSetsWrong)

/-- 'cylinderlaw06.IntervalPowers': WHATEVER THE INPUT: true; the input reads as it did. -/
def intervalPowersSpec : ChangeSpec := { name := "intervalPowers", fn := fun _ => fun
  | [d1, d2] => { results := [.lit (.bool true)], args := [d1, d2] }
  | _ => none }
def intervalPowersRow : OpenClaim := { program := "ytehhkeenjlpikaagreat", sum := "c2dd95421d0c39e1da97e205d04fc1f752cfc0a398bf515f0579c24e7096fe7a", func := "cylinder/cylinderlaw06.IntervalPowers", spec := "intervalPowers", unfollowed := true, recurses := true, named := ["math/bits.overflowError"], apart := false }
def IntervalPowersSaid : Prop := intervalPowersRow.holds Tryz.pinned (OpenSpec.ofChange intervalPowersSpec)

/-- ITS FALSE NEIGHBOUR: 'it returns false'. Refute it at one input. -/
def intervalPowersWrong : ChangeSpec := { name := "intervalPowers", fn := fun _ => fun
  | [d1, d2] => { results := [.lit (.bool false)], args := [d1, d2] }
  | _ => none }
def IntervalPowersWrongFalsely : Prop := intervalPowersRow.holds Tryz.pinned (OpenSpec.ofChange intervalPowersWrong)

/- THE SECOND FORM. 'bulk': how many values and letters a reading holds, each counted each time it is reached (what is shared counts as often as it is met; a slice's spare places count too). A statement '..UptoSaid' is the law's where the arguments, and the package variables that the reading takes, are together of bulk at most 1048576: NARROWER than '..Said'. Prove '..Said' where nothing that the law and all that it calls make is longer than what came in: it says more and counts as full. Else prove '..UptoSaid'. A law counts once. -/
mutual
def uptoBulk {H : Type} : DataW H → Nat
  | .lit (.string bytes) => bytes.length + 1
  | .lit _ => 1
  | .nil => 1
  | .ptr d => uptoBulk d + 1
  | .slice elems spare => uptoBulkAll elems + uptoBulkAll spare + 1
  | .agg parts => uptoBulkAll parts + 1
  | .iface _ d => uptoBulk d + 1
  | .map entries => uptoBulkEntries entries + 1
  | .held _ => 1
def uptoBulkAll {H : Type} : List (DataW H) → Nat
  | [] => 0
  | d :: r => uptoBulk d + uptoBulkAll r
def uptoBulkEntries {H : Type} : List (Lit × DataW H) → Nat
  | [] => 0
  | x :: r => uptoBulkEntry x + uptoBulkEntries r
def uptoBulkEntry {H : Type} : Lit × DataW H → Nat
  | (.string bytes, d) => bytes.length + uptoBulk d + 1
  | (_, d) => uptoBulk d + 1
 end
def uptoSmall : (H : Type) → List (DataW H) → Bool := fun _ ds => decide (uptoBulkAll ds ≤ 1048576)
def OpenSpec.upto (s : _root_.Go.ChangeSpec) : _root_.Go.OpenSpec := { _root_.Go.OpenSpec.ofChange s with cond := some uptoSmall }

/-- 'cylinderlaw06.IntervalQuotients', WHERE WHAT IT READS IS OF BULK AT MOST 1048576: true; the input reads as it did. -/
def intervalQuotientsUptoRow : OpenClaim := { program := "ytehhkeenjlpikaagreat", sum := "c2dd95421d0c39e1da97e205d04fc1f752cfc0a398bf515f0579c24e7096fe7a", func := "cylinder/cylinderlaw06.IntervalQuotients", spec := "intervalQuotients", unfollowed := true, recurses := true, named := ["math/bits.overflowError"], apart := false, narrowed := true }
def IntervalQuotientsUptoSaid : Prop := intervalQuotientsUptoRow.holds Tryz.pinned (OpenSpec.upto intervalQuotientsSpec)

/-- 'cylinderlaw06.IntervalEvals', WHERE WHAT IT READS IS OF BULK AT MOST 1048576: true; the input reads as it did. -/
def intervalEvalsUptoRow : OpenClaim := { program := "ytehhkeenjlpikaagreat", sum := "c2dd95421d0c39e1da97e205d04fc1f752cfc0a398bf515f0579c24e7096fe7a", func := "cylinder/cylinderlaw06.IntervalEvals", spec := "intervalEvals", unfollowed := true, recurses := true, named := ["math/bits.overflowError"], apart := false, narrowed := true }
def IntervalEvalsUptoSaid : Prop := intervalEvalsUptoRow.holds Tryz.pinned (OpenSpec.upto intervalEvalsSpec)

/-- 'cylinderlaw06.IntervalArithmetic', WHERE WHAT IT READS IS OF BULK AT MOST 1048576: true; the input reads as it did. -/
def intervalArithmeticUptoRow : OpenClaim := { program := "ytehhkeenjlpikaagreat", sum := "c2dd95421d0c39e1da97e205d04fc1f752cfc0a398bf515f0579c24e7096fe7a", func := "cylinder/cylinderlaw06.IntervalArithmetic", spec := "intervalArithmetic", unfollowed := true, recurses := true, named := ["math/bits.overflowError"], apart := false, narrowed := true }
def IntervalArithmeticUptoSaid : Prop := intervalArithmeticUptoRow.holds Tryz.pinned (OpenSpec.upto intervalArithmeticSpec)

/-- 'cylinderlaw06.IntervalSets', WHERE WHAT IT READS IS OF BULK AT MOST 1048576: true; the input reads as it did. -/
def intervalSetsUptoRow : OpenClaim := { program := "ytehhkeenjlpikaagreat", sum := "c2dd95421d0c39e1da97e205d04fc1f752cfc0a398bf515f0579c24e7096fe7a", func := "cylinder/cylinderlaw06.IntervalSets", spec := "intervalSets", unfollowed := true, recurses := true, named := ["math/bits.overflowError"], apart := false, narrowed := true }
def IntervalSetsUptoSaid : Prop := intervalSetsUptoRow.holds Tryz.pinned (OpenSpec.upto intervalSetsSpec)

/-- 'cylinderlaw06.IntervalPowers', WHERE WHAT IT READS IS OF BULK AT MOST 1048576: true; the input reads as it did. -/
def intervalPowersUptoRow : OpenClaim := { program := "ytehhkeenjlpikaagreat", sum := "c2dd95421d0c39e1da97e205d04fc1f752cfc0a398bf515f0579c24e7096fe7a", func := "cylinder/cylinderlaw06.IntervalPowers", spec := "intervalPowers", unfollowed := true, recurses := true, named := ["math/bits.overflowError"], apart := false, narrowed := true }
def IntervalPowersUptoSaid : Prop := intervalPowersUptoRow.holds Tryz.pinned (OpenSpec.upto intervalPowersSpec)

end Rows
end Go.Proofs.YtehhkeenjlpikaaGreat
