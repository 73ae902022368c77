/-
  No cell of these rows narrows 'for every input' (looked for: loops, veiled, ifaces, maps, wideKeys, modest, calm, conditions, laid).
  DERIVED. THE GIVEN ROWS OF THIS SEAT. 8 by the template 'for every input the law returns true; each argument reads behind the call as it read before'; 0 by the template 'total and deterministic' (their statements: YtjhknnioefipmaaTotals.lean).
  GIVEN WITH THE SEED: the statements are not yours to turn. If you find one false, say at which input.
  Laid BY PROGRAM, IN A SANDBOX (cutbox-rows.mjs): the forced cells as the released guide's own fill.sh prints them over the translation c89985bdc6818332… (all of the seat's roots in one cut). By AI agents, Wed Nov 11 2026. No macro, syntax, notation, axiom, sorry.
-/
import Derived.Test.YtjhknnioefipmaaChecked
import GoSem.Claim
import GoSem.ClaimJoined
import GoSem.ClaimMapViews
import Derived.JoinedTies
import Derived.KernelRfl
namespace Go.Proofs.Ytjhknnioefipmaa
/- THE CELL 'sum', in the pinned program and in every row, IS THE sha256 OF THE DUMP (.gsa) THAT YtjhknnioefipmaaProg.lean LOADS. Nothing in Lean hashes anything: it is a label: what it is worth is what the hold of that sum in a sandbox is worth. -/
noncomputable def Try.pinned : Pinned := { name := "ytjhknnioefipmaa", sum := "c89985bdc6818332cadcd05de836c0af981a6689ad176ec4b1c1b74923c15e2c", checked := Try.checked }
namespace Rows
def none {H : Type} : Left H := { results := [], args := [] }

/-- 'cylinderlaw04.DecimalFormats': WHATEVER THE INPUT: true; the input reads as it did. -/
def decimalFormatsSpec : ChangeSpec := { name := "decimalFormats", fn := fun _ => fun
  | [d] => { results := [.lit (.bool true)], args := [d] }
  | _ => none }
def decimalFormatsRow : OpenClaim := { program := "ytjhknnioefipmaa", sum := "c89985bdc6818332cadcd05de836c0af981a6689ad176ec4b1c1b74923c15e2c", func := "cylinder/cylinderlaw04.DecimalFormats", spec := "decimalFormats", named := ["math/bits.overflowError"], apart := false }
def DecimalFormatsSaid : Prop := decimalFormatsRow.holds Try.pinned (OpenSpec.ofChange decimalFormatsSpec)

/-- ITS FALSE NEIGHBOUR: 'it returns false'. Refute it at one input. -/
def decimalFormatsWrong : ChangeSpec := { name := "decimalFormats", fn := fun _ => fun
  | [d] => { results := [.lit (.bool false)], args := [d] }
  | _ => none }
def DecimalFormatsWrongFalsely : Prop := decimalFormatsRow.holds Try.pinned (OpenSpec.ofChange decimalFormatsWrong)

/-- 'cylinderlaw04.DecimalOrder': WHATEVER THE INPUT: true; the input reads as it did. -/
def decimalOrderSpec : ChangeSpec := { name := "decimalOrder", fn := fun _ => fun
  | [d1, d2] => { results := [.lit (.bool true)], args := [d1, d2] }
  | _ => none }
def decimalOrderRow : OpenClaim := { program := "ytjhknnioefipmaa", sum := "c89985bdc6818332cadcd05de836c0af981a6689ad176ec4b1c1b74923c15e2c", func := "cylinder/cylinderlaw04.DecimalOrder", spec := "decimalOrder", named := ["math/bits.overflowError"], apart := false }
def DecimalOrderSaid : Prop := decimalOrderRow.holds Try.pinned (OpenSpec.ofChange decimalOrderSpec)

/-- ITS FALSE NEIGHBOUR: 'it returns false'. Refute it at one input. -/
def decimalOrderWrong : ChangeSpec := { name := "decimalOrder", fn := fun _ => fun
  | [d1, d2] => { results := [.lit (.bool false)], args := [d1, d2] }
  | _ => none }
def DecimalOrderWrongFalsely : Prop := decimalOrderRow.holds Try.pinned (OpenSpec.ofChange decimalOrderWrong)

/-- 'cylinderlaw04.DecimalParses': WHATEVER THE INPUT: true; the input reads as it did. -/
def decimalParsesSpec : ChangeSpec := { name := "decimalParses", fn := fun _ => fun
  | [d] => { results := [.lit (.bool true)], args := [d] }
  | _ => none }
def decimalParsesRow : OpenClaim := { program := "ytjhknnioefipmaa", sum := "c89985bdc6818332cadcd05de836c0af981a6689ad176ec4b1c1b74923c15e2c", func := "cylinder/cylinderlaw04.DecimalParses", spec := "decimalParses", named := ["math/bits.overflowError"], apart := false }
def DecimalParsesSaid : Prop := decimalParsesRow.holds Try.pinned (OpenSpec.ofChange decimalParsesSpec)

/-- ITS FALSE NEIGHBOUR: 'it returns false'. Refute it at one input. -/
def decimalParsesWrong : ChangeSpec := { name := "decimalParses", fn := fun _ => fun
  | [d] => { results := [.lit (.bool false)], args := [d] }
  | _ => none }
def DecimalParsesWrongFalsely : Prop := decimalParsesRow.holds Try.pinned (OpenSpec.ofChange decimalParsesWrong)

/-- 'cylinderlaw04.DecimalReads': WHATEVER THE INPUT: true; the input reads as it did. -/
def decimalReadsSpec : ChangeSpec := { name := "decimalReads", fn := fun _ => fun
  | [d1, d2] => { results := [.lit (.bool true)], args := [d1, d2] }
  | _ => none }
def decimalReadsRow : OpenClaim := { program := "ytjhknnioefipmaa", sum := "c89985bdc6818332cadcd05de836c0af981a6689ad176ec4b1c1b74923c15e2c", func := "cylinder/cylinderlaw04.DecimalReads", spec := "decimalReads", named := ["math/bits.overflowError"], apart := false }
def DecimalReadsSaid : Prop := decimalReadsRow.holds Try.pinned (OpenSpec.ofChange decimalReadsSpec)

/-- ITS FALSE NEIGHBOUR: 'it returns false'. Refute it at one input. -/
def decimalReadsWrong : ChangeSpec := { name := "decimalReads", fn := fun _ => fun
  | [d1, d2] => { results := [.lit (.bool false)], args := [d1, d2] }
  | _ => none }
def DecimalReadsWrongFalsely : Prop := decimalReadsRow.holds Try.pinned (OpenSpec.ofChange decimalReadsWrong)

/-- 'cylinderlaw04.DecimalPrefix': WHATEVER THE INPUT: true; the input reads as it did. -/
def decimalPrefixSpec : ChangeSpec := { name := "decimalPrefix", fn := fun _ => fun
  | [d] => { results := [.lit (.bool true)], args := [d] }
  | _ => none }
def decimalPrefixRow : OpenClaim := { program := "ytjhknnioefipmaa", sum := "c89985bdc6818332cadcd05de836c0af981a6689ad176ec4b1c1b74923c15e2c", func := "cylinder/cylinderlaw04.DecimalPrefix", spec := "decimalPrefix", named := ["math/bits.overflowError"], apart := false }
def DecimalPrefixSaid : Prop := decimalPrefixRow.holds Try.pinned (OpenSpec.ofChange decimalPrefixSpec)

/-- ITS FALSE NEIGHBOUR: 'it returns false'. Refute it at one input. -/
def decimalPrefixWrong : ChangeSpec := { name := "decimalPrefix", fn := fun _ => fun
  | [d] => { results := [.lit (.bool false)], args := [d] }
  | _ => none }
def DecimalPrefixWrongFalsely : Prop := decimalPrefixRow.holds Try.pinned (OpenSpec.ofChange decimalPrefixWrong)

/-- 'cylinderlaw04.DecimalBack': WHATEVER THE INPUT: true; the input reads as it did. -/
def decimalBackSpec : ChangeSpec := { name := "decimalBack", fn := fun _ => fun
  | [d1, d2] => { results := [.lit (.bool true)], args := [d1, d2] }
  | _ => none }
def decimalBackRow : OpenClaim := { program := "ytjhknnioefipmaa", sum := "c89985bdc6818332cadcd05de836c0af981a6689ad176ec4b1c1b74923c15e2c", func := "cylinder/cylinderlaw04.DecimalBack", spec := "decimalBack", named := ["math/bits.overflowError"], apart := false }
def DecimalBackSaid : Prop := decimalBackRow.holds Try.pinned (OpenSpec.ofChange decimalBackSpec)

/-- ITS FALSE NEIGHBOUR: 'it returns false'. Refute it at one input. -/
def decimalBackWrong : ChangeSpec := { name := "decimalBack", fn := fun _ => fun
  | [d1, d2] => { results := [.lit (.bool false)], args := [d1, d2] }
  | _ => none }
def DecimalBackWrongFalsely : Prop := decimalBackRow.holds Try.pinned (OpenSpec.ofChange decimalBackWrong)

/-- 'cylinderlaw04.DecimalBases': WHATEVER THE INPUT: true; the input reads as it did. -/
def decimalBasesSpec : ChangeSpec := { name := "decimalBases", fn := fun _ => fun
  | [d1, d2] => { results := [.lit (.bool true)], args := [d1, d2] }
  | _ => none }
def decimalBasesRow : OpenClaim := { program := "ytjhknnioefipmaa", sum := "c89985bdc6818332cadcd05de836c0af981a6689ad176ec4b1c1b74923c15e2c", func := "cylinder/cylinderlaw04.DecimalBases", spec := "decimalBases", named := ["math/bits.overflowError"], apart := false }
def DecimalBasesSaid : Prop := decimalBasesRow.holds Try.pinned (OpenSpec.ofChange decimalBasesSpec)

/-- ITS FALSE NEIGHBOUR: 'it returns false'. Refute it at one input. -/
def decimalBasesWrong : ChangeSpec := { name := "decimalBases", fn := fun _ => fun
  | [d1, d2] => { results := [.lit (.bool false)], args := [d1, d2] }
  | _ => none }
def DecimalBasesWrongFalsely : Prop := decimalBasesRow.holds Try.pinned (OpenSpec.ofChange decimalBasesWrong)

/-- 'cylinderlaw04.DecimalAppends': WHATEVER THE INPUT: true; the input reads as it did. -/
def decimalAppendsSpec : ChangeSpec := { name := "decimalAppends", fn := fun _ => fun
  | [d1, d2] => { results := [.lit (.bool true)], args := [d1, d2] }
  | _ => none }
def decimalAppendsRow : OpenClaim := { program := "ytjhknnioefipmaa", sum := "c89985bdc6818332cadcd05de836c0af981a6689ad176ec4b1c1b74923c15e2c", func := "cylinder/cylinderlaw04.DecimalAppends", spec := "decimalAppends", unfollowed := true, recurses := true, named := ["math/bits.overflowError"], apart := false }
def DecimalAppendsSaid : Prop := decimalAppendsRow.holds Try.pinned (OpenSpec.ofChange decimalAppendsSpec)

/-- ITS FALSE NEIGHBOUR: 'it returns false'. Refute it at one input. -/
def decimalAppendsWrong : ChangeSpec := { name := "decimalAppends", fn := fun _ => fun
  | [d1, d2] => { results := [.lit (.bool false)], args := [d1, d2] }
  | _ => none }
def DecimalAppendsWrongFalsely : Prop := decimalAppendsRow.holds Try.pinned (OpenSpec.ofChange decimalAppendsWrong)

/- THE SECOND FORM. 'bulk': how many values and letters a reading holds, each counted each time it is reached (what is shared counts as often as it is met; a slice's spare places count too). A statement '..UptoSaid' is the law's where the arguments, and the package variables that the reading takes, are together of bulk at most 1048576: NARROWER than '..Said'. Prove '..Said' where nothing that the law and all that it calls make is longer than what came in: it says more and counts as full. Else prove '..UptoSaid'. A law counts once. -/
mutual
def uptoBulk {H : Type} : DataW H → Nat
  | .lit (.string bytes) => bytes.length + 1
  | .lit _ => 1
  | .nil => 1
  | .ptr d => uptoBulk d + 1
  | .slice elems spare => uptoBulkAll elems + uptoBulkAll spare + 1
  | .agg parts => uptoBulkAll parts + 1
  | .iface _ d => uptoBulk d + 1
  | .map entries => uptoBulkEntries entries + 1
  | .held _ => 1
def uptoBulkAll {H : Type} : List (DataW H) → Nat
  | [] => 0
  | d :: r => uptoBulk d + uptoBulkAll r
def uptoBulkEntries {H : Type} : List (Lit × DataW H) → Nat
  | [] => 0
  | x :: r => uptoBulkEntry x + uptoBulkEntries r
def uptoBulkEntry {H : Type} : Lit × DataW H → Nat
  | (.string bytes, d) => bytes.length + uptoBulk d + 1
  | (_, d) => uptoBulk d + 1
 end
def uptoSmall : (H : Type) → List (DataW H) → Bool := fun _ ds => decide (uptoBulkAll ds ≤ 1048576)
def OpenSpec.upto (s : _root_.Go.ChangeSpec) : _root_.Go.OpenSpec := { _root_.Go.OpenSpec.ofChange s with cond := some uptoSmall }

/-- 'cylinderlaw04.DecimalFormats', WHERE WHAT IT READS IS OF BULK AT MOST 1048576: true; the input reads as it did. -/
def decimalFormatsUptoRow : OpenClaim := { program := "ytjhknnioefipmaa", sum := "c89985bdc6818332cadcd05de836c0af981a6689ad176ec4b1c1b74923c15e2c", func := "cylinder/cylinderlaw04.DecimalFormats", spec := "decimalFormats", named := ["math/bits.overflowError"], apart := false, narrowed := true }
def DecimalFormatsUptoSaid : Prop := decimalFormatsUptoRow.holds Try.pinned (OpenSpec.upto decimalFormatsSpec)

/-- 'cylinderlaw04.DecimalOrder', WHERE WHAT IT READS IS OF BULK AT MOST 1048576: true; the input reads as it did. -/
def decimalOrderUptoRow : OpenClaim := { program := "ytjhknnioefipmaa", sum := "c89985bdc6818332cadcd05de836c0af981a6689ad176ec4b1c1b74923c15e2c", func := "cylinder/cylinderlaw04.DecimalOrder", spec := "decimalOrder", named := ["math/bits.overflowError"], apart := false, narrowed := true }
def DecimalOrderUptoSaid : Prop := decimalOrderUptoRow.holds Try.pinned (OpenSpec.upto decimalOrderSpec)

/-- 'cylinderlaw04.DecimalParses', WHERE WHAT IT READS IS OF BULK AT MOST 1048576: true; the input reads as it did. -/
def decimalParsesUptoRow : OpenClaim := { program := "ytjhknnioefipmaa", sum := "c89985bdc6818332cadcd05de836c0af981a6689ad176ec4b1c1b74923c15e2c", func := "cylinder/cylinderlaw04.DecimalParses", spec := "decimalParses", named := ["math/bits.overflowError"], apart := false, narrowed := true }
def DecimalParsesUptoSaid : Prop := decimalParsesUptoRow.holds Try.pinned (OpenSpec.upto decimalParsesSpec)

/-- 'cylinderlaw04.DecimalReads', WHERE WHAT IT READS IS OF BULK AT MOST 1048576: true; the input reads as it did. -/
def decimalReadsUptoRow : OpenClaim := { program := "ytjhknnioefipmaa", sum := "c89985bdc6818332cadcd05de836c0af981a6689ad176ec4b1c1b74923c15e2c", func := "cylinder/cylinderlaw04.DecimalReads", spec := "decimalReads", named := ["math/bits.overflowError"], apart := false, narrowed := true }
def DecimalReadsUptoSaid : Prop := decimalReadsUptoRow.holds Try.pinned (OpenSpec.upto decimalReadsSpec)

/-- 'cylinderlaw04.DecimalPrefix', WHERE WHAT IT READS IS OF BULK AT MOST 1048576: true; the input reads as it did. -/
def decimalPrefixUptoRow : OpenClaim := { program := "ytjhknnioefipmaa", sum := "c89985bdc6818332cadcd05de836c0af981a6689ad176ec4b1c1b74923c15e2c", func := "cylinder/cylinderlaw04.DecimalPrefix", spec := "decimalPrefix", named := ["math/bits.overflowError"], apart := false, narrowed := true }
def DecimalPrefixUptoSaid : Prop := decimalPrefixUptoRow.holds Try.pinned (OpenSpec.upto decimalPrefixSpec)

/-- 'cylinderlaw04.DecimalBack', WHERE WHAT IT READS IS OF BULK AT MOST 1048576: true; the input reads as it did. -/
def decimalBackUptoRow : OpenClaim := { program := "ytjhknnioefipmaa", sum := "c89985bdc6818332cadcd05de836c0af981a6689ad176ec4b1c1b74923c15e2c", func := "cylinder/cylinderlaw04.DecimalBack", spec := "decimalBack", named := ["math/bits.overflowError"], apart := false, narrowed := true }
def DecimalBackUptoSaid : Prop := decimalBackUptoRow.holds Try.pinned (OpenSpec.upto decimalBackSpec)

/-- 'cylinderlaw04.DecimalBases', WHERE WHAT IT READS IS OF BULK AT MOST 1048576: true; the input reads as it did. -/
def decimalBasesUptoRow : OpenClaim := { program := "ytjhknnioefipmaa", sum := "c89985bdc6818332cadcd05de836c0af981a6689ad176ec4b1c1b74923c15e2c", func := "cylinder/cylinderlaw04.DecimalBases", spec := "decimalBases", named := ["math/bits.overflowError"], apart := false, narrowed := true }
def DecimalBasesUptoSaid : Prop := decimalBasesUptoRow.holds Try.pinned (OpenSpec.upto decimalBasesSpec)

/-- 'cylinderlaw04.DecimalAppends', WHERE WHAT IT READS IS OF BULK AT MOST 1048576: true; the input reads as it did. -/
def decimalAppendsUptoRow : OpenClaim := { program := "ytjhknnioefipmaa", sum := "c89985bdc6818332cadcd05de836c0af981a6689ad176ec4b1c1b74923c15e2c", func := "cylinder/cylinderlaw04.DecimalAppends", spec := "decimalAppends", unfollowed := true, recurses := true, named := ["math/bits.overflowError"], apart := false, narrowed := true }
def DecimalAppendsUptoSaid : Prop := decimalAppendsUptoRow.holds Try.pinned (OpenSpec.upto decimalAppendsSpec)

end Rows
end Go.Proofs.Ytjhknnioefipmaa
