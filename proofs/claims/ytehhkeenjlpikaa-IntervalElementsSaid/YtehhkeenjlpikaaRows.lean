/-
  No cell of these rows narrows 'for every input' (looked for: loops, veiled, ifaces, maps, wideKeys, modest, calm, conditions, laid).
  DERIVED. THE GIVEN ROWS OF THIS SEAT. 3 by the template 'for every input the law returns true; each argument reads behind the call as it read before'; 0 by the template 'total and deterministic' (their statements: YtehhkeenjlpikaaTotals.lean).
  GIVEN WITH THE SEED: the statements are not yours to turn. If you find one false, say at which input.
  Laid BY PROGRAM, IN A SANDBOX (cutbox-rows.mjs): the forced cells as the released guide's own fill.sh prints them over the translation 62551a4b83f5b2bc… (all of the seat's roots in one cut). By AI agents, Wed Nov 11 2026. No macro, syntax, notation, axiom, sorry.
-/
import Derived.Test.YtehhkeenjlpikaaChecked
import GoSem.Claim
import GoSem.ClaimJoined
import GoSem.ClaimMapViews
import Derived.JoinedTies
import Derived.KernelRfl
namespace Go.Proofs.Ytehhkeenjlpikaa
/- THE CELL 'sum', in the pinned program and in every row, IS THE sha256 OF THE DUMP (.gsa) THAT YtehhkeenjlpikaaProg.lean LOADS. Nothing in Lean hashes anything: it is a label: what it is worth is what the hold of that sum in a sandbox is worth. -/
noncomputable def Try.pinned : Pinned := { name := "ytehhkeenjlpikaa", sum := "62551a4b83f5b2bcffb327ea82df2dccdf25df986160efb3650dac6e4ef67ff2", checked := Try.checked }
namespace Rows
def none {H : Type} : Left H := { results := [], args := [] }

/-- 'cylinderlaw06.IntervalElements': WHATEVER THE INPUT: true; the input reads as it did. -/
def intervalElementsSpec : ChangeSpec := { name := "intervalElements", fn := fun _ => fun
  | [d1, d2, d3] => { results := [.lit (.bool true)], args := [d1, d2, d3] }
  | _ => none }
def intervalElementsRow : OpenClaim := { program := "ytehhkeenjlpikaa", sum := "62551a4b83f5b2bcffb327ea82df2dccdf25df986160efb3650dac6e4ef67ff2", func := "cylinder/cylinderlaw06.IntervalElements", spec := "intervalElements", unfollowed := true, recurses := true, named := ["math/bits.overflowError"], apart := false }
def IntervalElementsSaid : Prop := intervalElementsRow.holds Try.pinned (OpenSpec.ofChange intervalElementsSpec)

/-- ITS FALSE NEIGHBOUR: 'it returns false'. Refute it at one input. -/
def intervalElementsWrong : ChangeSpec := { name := "intervalElements", fn := fun _ => fun
  | [d1, d2, d3] => { results := [.lit (.bool false)], args := [d1, d2, d3] }
  | _ => none }
def IntervalElementsWrongFalsely : Prop := intervalElementsRow.holds Try.pinned (OpenSpec.ofChange intervalElementsWrong)

/-- 'cylinderlaw06.IntervalRules': WHATEVER THE INPUT: true; the input reads as it did. -/
def intervalRulesSpec : ChangeSpec := { name := "intervalRules", fn := fun _ => fun
  | [d1, d2, d3] => { results := [.lit (.bool true)], args := [d1, d2, d3] }
  | _ => none }
def intervalRulesRow : OpenClaim := { program := "ytehhkeenjlpikaa", sum := "62551a4b83f5b2bcffb327ea82df2dccdf25df986160efb3650dac6e4ef67ff2", func := "cylinder/cylinderlaw06.IntervalRules", spec := "intervalRules", unfollowed := true, recurses := true, named := ["math/bits.overflowError"], apart := false }
def IntervalRulesSaid : Prop := intervalRulesRow.holds Try.pinned (OpenSpec.ofChange intervalRulesSpec)

/-- ITS FALSE NEIGHBOUR: 'it returns false'. Refute it at one input. -/
def intervalRulesWrong : ChangeSpec := { name := "intervalRules", fn := fun _ => fun
  | [d1, d2, d3] => { results := [.lit (.bool false)], args := [d1, d2, d3] }
  | _ => none }
def IntervalRulesWrongFalsely : Prop := intervalRulesRow.holds Try.pinned (OpenSpec.ofChange intervalRulesWrong)

/-- 'cylinderlaw06.IntervalMonotonic': WHATEVER THE INPUT: true; the input reads as it did. -/
def intervalMonotonicSpec : ChangeSpec := { name := "intervalMonotonic", fn := fun _ => fun
  | [d1, d2, d3] => { results := [.lit (.bool true)], args := [d1, d2, d3] }
  | _ => none }
def intervalMonotonicRow : OpenClaim := { program := "ytehhkeenjlpikaa", sum := "62551a4b83f5b2bcffb327ea82df2dccdf25df986160efb3650dac6e4ef67ff2", func := "cylinder/cylinderlaw06.IntervalMonotonic", spec := "intervalMonotonic", unfollowed := true, recurses := true, named := ["math/bits.overflowError"], apart := false }
def IntervalMonotonicSaid : Prop := intervalMonotonicRow.holds Try.pinned (OpenSpec.ofChange intervalMonotonicSpec)

/-- ITS FALSE NEIGHBOUR: 'it returns false'. Refute it at one input. -/
def intervalMonotonicWrong : ChangeSpec := { name := "intervalMonotonic", fn := fun _ => fun
  | [d1, d2, d3] => { results := [.lit (.bool false)], args := [d1, d2, d3] }
  | _ => none }
def IntervalMonotonicWrongFalsely : Prop := intervalMonotonicRow.holds Try.pinned (OpenSpec.ofChange intervalMonotonicWrong)

/- THE SECOND FORM. 'bulk': how many values and letters a reading holds, each counted each time it is reached (what is shared counts as often as it is met; a slice's spare places count too). A statement '..UptoSaid' is the law's where the arguments, and the package variables that the reading takes, are together of bulk at most 1048576: NARROWER than '..Said'. Prove '..Said' where nothing that the law and all that it calls make is longer than what came in: it says more and counts as full. Else prove '..UptoSaid'. A law counts once. -/
mutual
def uptoBulk {H : Type} : DataW H → Nat
  | .lit (.string bytes) => bytes.length + 1
  | .lit _ => 1
  | .nil => 1
  | .ptr d => uptoBulk d + 1
  | .slice elems spare => uptoBulkAll elems + uptoBulkAll spare + 1
  | .agg parts => uptoBulkAll parts + 1
  | .iface _ d => uptoBulk d + 1
  | .map entries => uptoBulkEntries entries + 1
  | .held _ => 1
def uptoBulkAll {H : Type} : List (DataW H) → Nat
  | [] => 0
  | d :: r => uptoBulk d + uptoBulkAll r
def uptoBulkEntries {H : Type} : List (Lit × DataW H) → Nat
  | [] => 0
  | x :: r => uptoBulkEntry x + uptoBulkEntries r
def uptoBulkEntry {H : Type} : Lit × DataW H → Nat
  | (.string bytes, d) => bytes.length + uptoBulk d + 1
  | (_, d) => uptoBulk d + 1
 end
def uptoSmall : (H : Type) → List (DataW H) → Bool := fun _ ds => decide (uptoBulkAll ds ≤ 1048576)
def OpenSpec.upto (s : _root_.Go.ChangeSpec) : _root_.Go.OpenSpec := { _root_.Go.OpenSpec.ofChange s with cond := some uptoSmall }

/-- 'cylinderlaw06.IntervalElements', WHERE WHAT IT READS IS OF BULK AT MOST 1048576: true; the input reads as it did. -/
def intervalElementsUptoRow : OpenClaim := { program := "ytehhkeenjlpikaa", sum := "62551a4b83f5b2bcffb327ea82df2dccdf25df986160efb3650dac6e4ef67ff2", func := "cylinder/cylinderlaw06.IntervalElements", spec := "intervalElements", unfollowed := true, recurses := true, named := ["math/bits.overflowError"], apart := false, narrowed := true }
def IntervalElementsUptoSaid : Prop := intervalElementsUptoRow.holds Try.pinned (OpenSpec.upto intervalElementsSpec)

/-- 'cylinderlaw06.IntervalRules', WHERE WHAT IT READS IS OF BULK AT MOST 1048576: true; the input reads as it did. -/
def intervalRulesUptoRow : OpenClaim := { program := "ytehhkeenjlpikaa", sum := "62551a4b83f5b2bcffb327ea82df2dccdf25df986160efb3650dac6e4ef67ff2", func := "cylinder/cylinderlaw06.IntervalRules", spec := "intervalRules", unfollowed := true, recurses := true, named := ["math/bits.overflowError"], apart := false, narrowed := true }
def IntervalRulesUptoSaid : Prop := intervalRulesUptoRow.holds Try.pinned (OpenSpec.upto intervalRulesSpec)

/-- 'cylinderlaw06.IntervalMonotonic', WHERE WHAT IT READS IS OF BULK AT MOST 1048576: true; the input reads as it did. -/
def intervalMonotonicUptoRow : OpenClaim := { program := "ytehhkeenjlpikaa", sum := "62551a4b83f5b2bcffb327ea82df2dccdf25df986160efb3650dac6e4ef67ff2", func := "cylinder/cylinderlaw06.IntervalMonotonic", spec := "intervalMonotonic", unfollowed := true, recurses := true, named := ["math/bits.overflowError"], apart := false, narrowed := true }
def IntervalMonotonicUptoSaid : Prop := intervalMonotonicUptoRow.holds Try.pinned (OpenSpec.upto intervalMonotonicSpec)

end Rows
end Go.Proofs.Ytehhkeenjlpikaa
