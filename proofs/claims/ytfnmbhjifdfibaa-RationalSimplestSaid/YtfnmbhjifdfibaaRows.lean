/-
  No cell of these rows narrows 'for every input' (looked for: loops, veiled, ifaces, maps, wideKeys, modest, calm, conditions, laid).
  DERIVED. THE GIVEN ROWS OF THIS SEAT. 9 by the template 'for every input the law returns true; each argument reads behind the call as it read before'; 0 by the template 'total and deterministic' (their statements: YtfnmbhjifdfibaaTotals.lean).
  GIVEN WITH THE SEED: the statements are not yours to turn. If you find one false, say at which input.
  Laid BY PROGRAM, IN A SANDBOX (cutbox-rows.mjs): the forced cells as the released guide's own fill.sh prints them over the translation 57003e8f94b41d73… (all of the seat's roots in one cut). By AI agents, Wed Nov 11 2026. No macro, syntax, notation, axiom, sorry.
-/
import Derived.Test.YtfnmbhjifdfibaaChecked
import GoSem.Claim
import GoSem.ClaimJoined
import GoSem.ClaimMapViews
import Derived.JoinedTies
import Derived.KernelRfl
namespace Go.Proofs.Ytfnmbhjifdfibaa
/- THE CELL 'sum', in the pinned program and in every row, IS THE sha256 OF THE DUMP (.gsa) THAT YtfnmbhjifdfibaaProg.lean LOADS. Nothing in Lean hashes anything: it is a label: what it is worth is what the hold of that sum in a sandbox is worth. -/
noncomputable def Try.pinned : Pinned := { name := "ytfnmbhjifdfibaa", sum := "57003e8f94b41d731e0b742bdce26d930ebc3d83a420f142a536eb42bc04b198", checked := Try.checked }
namespace Rows
def none {H : Type} : Left H := { results := [], args := [] }

/-- 'cylinderlaw05.RationalDecimals': WHATEVER THE INPUT: true; the input reads as it did. -/
def rationalDecimalsSpec : ChangeSpec := { name := "rationalDecimals", fn := fun _ => fun
  | [d1, d2] => { results := [.lit (.bool true)], args := [d1, d2] }
  | _ => none }
def rationalDecimalsRow : OpenClaim := { program := "ytfnmbhjifdfibaa", sum := "57003e8f94b41d731e0b742bdce26d930ebc3d83a420f142a536eb42bc04b198", func := "cylinder/cylinderlaw05.RationalDecimals", spec := "rationalDecimals", inPlace := ["internal/abi.NoEscape", "internal/bytealg.MakeNoZero"], unfollowed := true, recurses := true, named := ["math/bits.overflowError"], apart := false }
def RationalDecimalsSaid : Prop := rationalDecimalsRow.holds Try.pinned (OpenSpec.ofChange rationalDecimalsSpec)

/-- ITS FALSE NEIGHBOUR: 'it returns false'. Refute it at one input. -/
def rationalDecimalsWrong : ChangeSpec := { name := "rationalDecimals", fn := fun _ => fun
  | [d1, d2] => { results := [.lit (.bool false)], args := [d1, d2] }
  | _ => none }
def RationalDecimalsWrongFalsely : Prop := rationalDecimalsRow.holds Try.pinned (OpenSpec.ofChange rationalDecimalsWrong)

/-- 'cylinderlaw05.RationalMakes': WHATEVER THE INPUT: true; the input reads as it did. -/
def rationalMakesSpec : ChangeSpec := { name := "rationalMakes", fn := fun _ => fun
  | [d1, d2] => { results := [.lit (.bool true)], args := [d1, d2] }
  | _ => none }
def rationalMakesRow : OpenClaim := { program := "ytfnmbhjifdfibaa", sum := "57003e8f94b41d731e0b742bdce26d930ebc3d83a420f142a536eb42bc04b198", func := "cylinder/cylinderlaw05.RationalMakes", spec := "rationalMakes", unfollowed := true, recurses := true, named := ["math/bits.overflowError"], apart := false }
def RationalMakesSaid : Prop := rationalMakesRow.holds Try.pinned (OpenSpec.ofChange rationalMakesSpec)

/-- ITS FALSE NEIGHBOUR: 'it returns false'. Refute it at one input. -/
def rationalMakesWrong : ChangeSpec := { name := "rationalMakes", fn := fun _ => fun
  | [d1, d2] => { results := [.lit (.bool false)], args := [d1, d2] }
  | _ => none }
def RationalMakesWrongFalsely : Prop := rationalMakesRow.holds Try.pinned (OpenSpec.ofChange rationalMakesWrong)

/-- 'cylinderlaw05.RationalQuotients': WHATEVER THE INPUT: true; the input reads as it did. -/
def rationalQuotientsSpec : ChangeSpec := { name := "rationalQuotients", fn := fun _ => fun
  | [d1, d2] => { results := [.lit (.bool true)], args := [d1, d2] }
  | _ => none }
def rationalQuotientsRow : OpenClaim := { program := "ytfnmbhjifdfibaa", sum := "57003e8f94b41d731e0b742bdce26d930ebc3d83a420f142a536eb42bc04b198", func := "cylinder/cylinderlaw05.RationalQuotients", spec := "rationalQuotients", unfollowed := true, recurses := true, named := ["math/bits.overflowError"], apart := false }
def RationalQuotientsSaid : Prop := rationalQuotientsRow.holds Try.pinned (OpenSpec.ofChange rationalQuotientsSpec)

/-- ITS FALSE NEIGHBOUR: 'it returns false'. Refute it at one input. -/
def rationalQuotientsWrong : ChangeSpec := { name := "rationalQuotients", fn := fun _ => fun
  | [d1, d2] => { results := [.lit (.bool false)], args := [d1, d2] }
  | _ => none }
def RationalQuotientsWrongFalsely : Prop := rationalQuotientsRow.holds Try.pinned (OpenSpec.ofChange rationalQuotientsWrong)

/-- 'cylinderlaw05.RationalField': WHATEVER THE INPUT: true; the input reads as it did. -/
def rationalFieldSpec : ChangeSpec := { name := "rationalField", fn := fun _ => fun
  | [d1, d2, d3] => { results := [.lit (.bool true)], args := [d1, d2, d3] }
  | _ => none }
def rationalFieldRow : OpenClaim := { program := "ytfnmbhjifdfibaa", sum := "57003e8f94b41d731e0b742bdce26d930ebc3d83a420f142a536eb42bc04b198", func := "cylinder/cylinderlaw05.RationalField", spec := "rationalField", unfollowed := true, recurses := true, named := ["math/bits.overflowError"], apart := false }
def RationalFieldSaid : Prop := rationalFieldRow.holds Try.pinned (OpenSpec.ofChange rationalFieldSpec)

/-- ITS FALSE NEIGHBOUR: 'it returns false'. Refute it at one input. -/
def rationalFieldWrong : ChangeSpec := { name := "rationalField", fn := fun _ => fun
  | [d1, d2, d3] => { results := [.lit (.bool false)], args := [d1, d2, d3] }
  | _ => none }
def RationalFieldWrongFalsely : Prop := rationalFieldRow.holds Try.pinned (OpenSpec.ofChange rationalFieldWrong)

/-- 'cylinderlaw05.RationalAdds': WHATEVER THE INPUT: true; the input reads as it did. -/
def rationalAddsSpec : ChangeSpec := { name := "rationalAdds", fn := fun _ => fun
  | [d1, d2] => { results := [.lit (.bool true)], args := [d1, d2] }
  | _ => none }
def rationalAddsRow : OpenClaim := { program := "ytfnmbhjifdfibaa", sum := "57003e8f94b41d731e0b742bdce26d930ebc3d83a420f142a536eb42bc04b198", func := "cylinder/cylinderlaw05.RationalAdds", spec := "rationalAdds", unfollowed := true, recurses := true, named := ["math/bits.overflowError"], apart := false }
def RationalAddsSaid : Prop := rationalAddsRow.holds Try.pinned (OpenSpec.ofChange rationalAddsSpec)

/-- ITS FALSE NEIGHBOUR: 'it returns false'. Refute it at one input. -/
def rationalAddsWrong : ChangeSpec := { name := "rationalAdds", fn := fun _ => fun
  | [d1, d2] => { results := [.lit (.bool false)], args := [d1, d2] }
  | _ => none }
def RationalAddsWrongFalsely : Prop := rationalAddsRow.holds Try.pinned (OpenSpec.ofChange rationalAddsWrong)

/-- 'cylinderlaw05.RationalPowers': WHATEVER THE INPUT: true; the input reads as it did. -/
def rationalPowersSpec : ChangeSpec := { name := "rationalPowers", fn := fun _ => fun
  | [d1, d2] => { results := [.lit (.bool true)], args := [d1, d2] }
  | _ => none }
def rationalPowersRow : OpenClaim := { program := "ytfnmbhjifdfibaa", sum := "57003e8f94b41d731e0b742bdce26d930ebc3d83a420f142a536eb42bc04b198", func := "cylinder/cylinderlaw05.RationalPowers", spec := "rationalPowers", unfollowed := true, recurses := true, named := ["math/bits.overflowError"], apart := false }
def RationalPowersSaid : Prop := rationalPowersRow.holds Try.pinned (OpenSpec.ofChange rationalPowersSpec)

/-- ITS FALSE NEIGHBOUR: 'it returns false'. Refute it at one input. -/
def rationalPowersWrong : ChangeSpec := { name := "rationalPowers", fn := fun _ => fun
  | [d1, d2] => { results := [.lit (.bool false)], args := [d1, d2] }
  | _ => none }
def RationalPowersWrongFalsely : Prop := rationalPowersRow.holds Try.pinned (OpenSpec.ofChange rationalPowersWrong)

/-- 'cylinderlaw05.RationalSimplest': WHATEVER THE INPUT: true; the input reads as it did. -/
def rationalSimplestSpec : ChangeSpec := { name := "rationalSimplest", fn := fun _ => fun
  | [d1, d2] => { results := [.lit (.bool true)], args := [d1, d2] }
  | _ => none }
def rationalSimplestRow : OpenClaim := { program := "ytfnmbhjifdfibaa", sum := "57003e8f94b41d731e0b742bdce26d930ebc3d83a420f142a536eb42bc04b198", func := "cylinder/cylinderlaw05.RationalSimplest", spec := "rationalSimplest", unfollowed := true, recurses := true, named := ["math/bits.overflowError"], apart := false }
def RationalSimplestSaid : Prop := rationalSimplestRow.holds Try.pinned (OpenSpec.ofChange rationalSimplestSpec)

/-- ITS FALSE NEIGHBOUR: 'it returns false'. Refute it at one input. -/
def rationalSimplestWrong : ChangeSpec := { name := "rationalSimplest", fn := fun _ => fun
  | [d1, d2] => { results := [.lit (.bool false)], args := [d1, d2] }
  | _ => none }
def RationalSimplestWrongFalsely : Prop := rationalSimplestRow.holds Try.pinned (OpenSpec.ofChange rationalSimplestWrong)

/-- 'cylinderlaw05.RationalNarrows': WHATEVER THE INPUT: true; the input reads as it did. -/
def rationalNarrowsSpec : ChangeSpec := { name := "rationalNarrows", fn := fun _ => fun
  | [d1, d2, d3] => { results := [.lit (.bool true)], args := [d1, d2, d3] }
  | _ => none }
def rationalNarrowsRow : OpenClaim := { program := "ytfnmbhjifdfibaa", sum := "57003e8f94b41d731e0b742bdce26d930ebc3d83a420f142a536eb42bc04b198", func := "cylinder/cylinderlaw05.RationalNarrows", spec := "rationalNarrows", unfollowed := true, recurses := true, named := ["math/bits.overflowError"], apart := false }
def RationalNarrowsSaid : Prop := rationalNarrowsRow.holds Try.pinned (OpenSpec.ofChange rationalNarrowsSpec)

/-- ITS FALSE NEIGHBOUR: 'it returns false'. Refute it at one input. -/
def rationalNarrowsWrong : ChangeSpec := { name := "rationalNarrows", fn := fun _ => fun
  | [d1, d2, d3] => { results := [.lit (.bool false)], args := [d1, d2, d3] }
  | _ => none }
def RationalNarrowsWrongFalsely : Prop := rationalNarrowsRow.holds Try.pinned (OpenSpec.ofChange rationalNarrowsWrong)

/-- 'cylinderlaw05.RationalTexts': WHATEVER THE INPUT: true; the input reads as it did. -/
def rationalTextsSpec : ChangeSpec := { name := "rationalTexts", fn := fun _ => fun
  | [d1, d2] => { results := [.lit (.bool true)], args := [d1, d2] }
  | _ => none }
def rationalTextsRow : OpenClaim := { program := "ytfnmbhjifdfibaa", sum := "57003e8f94b41d731e0b742bdce26d930ebc3d83a420f142a536eb42bc04b198", func := "cylinder/cylinderlaw05.RationalTexts", spec := "rationalTexts", inPlace := ["internal/bytealg.IndexByteString", "internal/bytealg.IndexString"], named := ["math/bits.overflowError", "internal/bytealg.MaxLen"], apart := false }
def RationalTextsSaid : Prop := rationalTextsRow.holds Try.pinned (OpenSpec.ofChange rationalTextsSpec)

/-- ITS FALSE NEIGHBOUR: 'it returns false'. Refute it at one input. -/
def rationalTextsWrong : ChangeSpec := { name := "rationalTexts", fn := fun _ => fun
  | [d1, d2] => { results := [.lit (.bool false)], args := [d1, d2] }
  | _ => none }
def RationalTextsWrongFalsely : Prop := rationalTextsRow.holds Try.pinned (OpenSpec.ofChange rationalTextsWrong)

/- THE SECOND FORM. 'bulk': how many values and letters a reading holds, each counted each time it is reached (what is shared counts as often as it is met; a slice's spare places count too). A statement '..UptoSaid' is the law's where the arguments, and the package variables that the reading takes, are together of bulk at most 1048576: NARROWER than '..Said'. Prove '..Said' where nothing that the law and all that it calls make is longer than what came in: it says more and counts as full. Else prove '..UptoSaid'. A law counts once. -/
mutual
def uptoBulk {H : Type} : DataW H → Nat
  | .lit (.string bytes) => bytes.length + 1
  | .lit _ => 1
  | .nil => 1
  | .ptr d => uptoBulk d + 1
  | .slice elems spare => uptoBulkAll elems + uptoBulkAll spare + 1
  | .agg parts => uptoBulkAll parts + 1
  | .iface _ d => uptoBulk d + 1
  | .map entries => uptoBulkEntries entries + 1
  | .held _ => 1
def uptoBulkAll {H : Type} : List (DataW H) → Nat
  | [] => 0
  | d :: r => uptoBulk d + uptoBulkAll r
def uptoBulkEntries {H : Type} : List (Lit × DataW H) → Nat
  | [] => 0
  | x :: r => uptoBulkEntry x + uptoBulkEntries r
def uptoBulkEntry {H : Type} : Lit × DataW H → Nat
  | (.string bytes, d) => bytes.length + uptoBulk d + 1
  | (_, d) => uptoBulk d + 1
 end
def uptoSmall : (H : Type) → List (DataW H) → Bool := fun _ ds => decide (uptoBulkAll ds ≤ 1048576)
def OpenSpec.upto (s : _root_.Go.ChangeSpec) : _root_.Go.OpenSpec := { _root_.Go.OpenSpec.ofChange s with cond := some uptoSmall }

/-- 'cylinderlaw05.RationalDecimals', WHERE WHAT IT READS IS OF BULK AT MOST 1048576: true; the input reads as it did. -/
def rationalDecimalsUptoRow : OpenClaim := { program := "ytfnmbhjifdfibaa", sum := "57003e8f94b41d731e0b742bdce26d930ebc3d83a420f142a536eb42bc04b198", func := "cylinder/cylinderlaw05.RationalDecimals", spec := "rationalDecimals", inPlace := ["internal/abi.NoEscape", "internal/bytealg.MakeNoZero"], unfollowed := true, recurses := true, named := ["math/bits.overflowError"], apart := false, narrowed := true }
def RationalDecimalsUptoSaid : Prop := rationalDecimalsUptoRow.holds Try.pinned (OpenSpec.upto rationalDecimalsSpec)

/-- 'cylinderlaw05.RationalMakes', WHERE WHAT IT READS IS OF BULK AT MOST 1048576: true; the input reads as it did. -/
def rationalMakesUptoRow : OpenClaim := { program := "ytfnmbhjifdfibaa", sum := "57003e8f94b41d731e0b742bdce26d930ebc3d83a420f142a536eb42bc04b198", func := "cylinder/cylinderlaw05.RationalMakes", spec := "rationalMakes", unfollowed := true, recurses := true, named := ["math/bits.overflowError"], apart := false, narrowed := true }
def RationalMakesUptoSaid : Prop := rationalMakesUptoRow.holds Try.pinned (OpenSpec.upto rationalMakesSpec)

/-- 'cylinderlaw05.RationalQuotients', WHERE WHAT IT READS IS OF BULK AT MOST 1048576: true; the input reads as it did. -/
def rationalQuotientsUptoRow : OpenClaim := { program := "ytfnmbhjifdfibaa", sum := "57003e8f94b41d731e0b742bdce26d930ebc3d83a420f142a536eb42bc04b198", func := "cylinder/cylinderlaw05.RationalQuotients", spec := "rationalQuotients", unfollowed := true, recurses := true, named := ["math/bits.overflowError"], apart := false, narrowed := true }
def RationalQuotientsUptoSaid : Prop := rationalQuotientsUptoRow.holds Try.pinned (OpenSpec.upto rationalQuotientsSpec)

/-- 'cylinderlaw05.RationalField', WHERE WHAT IT READS IS OF BULK AT MOST 1048576: true; the input reads as it did. -/
def rationalFieldUptoRow : OpenClaim := { program := "ytfnmbhjifdfibaa", sum := "57003e8f94b41d731e0b742bdce26d930ebc3d83a420f142a536eb42bc04b198", func := "cylinder/cylinderlaw05.RationalField", spec := "rationalField", unfollowed := true, recurses := true, named := ["math/bits.overflowError"], apart := false, narrowed := true }
def RationalFieldUptoSaid : Prop := rationalFieldUptoRow.holds Try.pinned (OpenSpec.upto rationalFieldSpec)

/-- 'cylinderlaw05.RationalAdds', WHERE WHAT IT READS IS OF BULK AT MOST 1048576: true; the input reads as it did. -/
def rationalAddsUptoRow : OpenClaim := { program := "ytfnmbhjifdfibaa", sum := "57003e8f94b41d731e0b742bdce26d930ebc3d83a420f142a536eb42bc04b198", func := "cylinder/cylinderlaw05.RationalAdds", spec := "rationalAdds", unfollowed := true, recurses := true, named := ["math/bits.overflowError"], apart := false, narrowed := true }
def RationalAddsUptoSaid : Prop := rationalAddsUptoRow.holds Try.pinned (OpenSpec.upto rationalAddsSpec)

/-- 'cylinderlaw05.RationalPowers', WHERE WHAT IT READS IS OF BULK AT MOST 1048576: true; the input reads as it did. -/
def rationalPowersUptoRow : OpenClaim := { program := "ytfnmbhjifdfibaa", sum := "57003e8f94b41d731e0b742bdce26d930ebc3d83a420f142a536eb42bc04b198", func := "cylinder/cylinderlaw05.RationalPowers", spec := "rationalPowers", unfollowed := true, recurses := true, named := ["math/bits.overflowError"], apart := false, narrowed := true }
def RationalPowersUptoSaid : Prop := rationalPowersUptoRow.holds Try.pinned (OpenSpec.upto rationalPowersSpec)

/-- 'cylinderlaw05.RationalSimplest', WHERE WHAT IT READS IS OF BULK AT MOST 1048576: true; the input reads as it did. -/
def rationalSimplestUptoRow : OpenClaim := { program := "ytfnmbhjifdfibaa", sum := "57003e8f94b41d731e0b742bdce26d930ebc3d83a420f142a536eb42bc04b198", func := "cylinder/cylinderlaw05.RationalSimplest", spec := "rationalSimplest", unfollowed := true, recurses := true, named := ["math/bits.overflowError"], apart := false, narrowed := true }
def RationalSimplestUptoSaid : Prop := rationalSimplestUptoRow.holds Try.pinned (OpenSpec.upto rationalSimplestSpec)

/-- 'cylinderlaw05.RationalNarrows', WHERE WHAT IT READS IS OF BULK AT MOST 1048576: true; the input reads as it did. -/
def rationalNarrowsUptoRow : OpenClaim := { program := "ytfnmbhjifdfibaa", sum := "57003e8f94b41d731e0b742bdce26d930ebc3d83a420f142a536eb42bc04b198", func := "cylinder/cylinderlaw05.RationalNarrows", spec := "rationalNarrows", unfollowed := true, recurses := true, named := ["math/bits.overflowError"], apart := false, narrowed := true }
def RationalNarrowsUptoSaid : Prop := rationalNarrowsUptoRow.holds Try.pinned (OpenSpec.upto rationalNarrowsSpec)

/-- 'cylinderlaw05.RationalTexts', WHERE WHAT IT READS IS OF BULK AT MOST 1048576: true; the input reads as it did. -/
def rationalTextsUptoRow : OpenClaim := { program := "ytfnmbhjifdfibaa", sum := "57003e8f94b41d731e0b742bdce26d930ebc3d83a420f142a536eb42bc04b198", func := "cylinder/cylinderlaw05.RationalTexts", spec := "rationalTexts", inPlace := ["internal/bytealg.IndexByteString", "internal/bytealg.IndexString"], named := ["math/bits.overflowError", "internal/bytealg.MaxLen"], apart := false, narrowed := true }
def RationalTextsUptoSaid : Prop := rationalTextsUptoRow.holds Try.pinned (OpenSpec.upto rationalTextsSpec)

end Rows
end Go.Proofs.Ytfnmbhjifdfibaa
