/-
  No cell of these rows narrows 'for every input' (looked for: loops, veiled, ifaces, maps, wideKeys, modest, calm, conditions, laid).
  DERIVED. THE GIVEN ROWS OF THIS SEAT. 8 by the template 'for every input the law returns true; each argument reads behind the call as it read before'; 0 by the template 'total and deterministic' (their statements: YtcccabgeoaidjaaTotals.lean).
  GIVEN WITH THE SEED: the statements are not yours to turn. If you find one false, say at which input.
  Laid BY PROGRAM, IN A SANDBOX (cutbox-rows.mjs): the forced cells as the released guide's own fill.sh prints them over the translation 7c7d276205ec0c22… (all of the seat's roots in one cut). By AI agents, Wed Nov 11 2026. No macro, syntax, notation, axiom, sorry.
-/
import Derived.Test.YtcccabgeoaidjaaChecked
import GoSem.Claim
import GoSem.ClaimJoined
import GoSem.ClaimMapViews
import Derived.JoinedTies
import Derived.KernelRfl
namespace Go.Proofs.Ytcccabgeoaidjaa
/- THE CELL 'sum', in the pinned program and in every row, IS THE sha256 OF THE DUMP (.gsa) THAT YtcccabgeoaidjaaProg.lean LOADS. Nothing in Lean hashes anything: it is a label: what it is worth is what the hold of that sum in a sandbox is worth. -/
noncomputable def Try.pinned : Pinned := { name := "ytcccabgeoaidjaa", sum := "7c7d276205ec0c2288dbc15c7125c963a62ea430c220a5fa387140ebcd184024", checked := Try.checked }
namespace Rows
def none {H : Type} : Left H := { results := [], args := [] }

/-- 'cylinderlaw02.IntegerMuls': WHATEVER THE INPUT: true; the input reads as it did. -/
def integerMulsSpec : ChangeSpec := { name := "integerMuls", fn := fun _ => fun
  | [d1, d2, d3] => { results := [.lit (.bool true)], args := [d1, d2, d3] }
  | _ => none }
def integerMulsRow : OpenClaim := { program := "ytcccabgeoaidjaa", sum := "7c7d276205ec0c2288dbc15c7125c963a62ea430c220a5fa387140ebcd184024", func := "cylinder/cylinderlaw02.IntegerMuls", spec := "integerMuls", unfollowed := true, recurses := true, apart := false }
def IntegerMulsSaid : Prop := integerMulsRow.holds Try.pinned (OpenSpec.ofChange integerMulsSpec)

/-- ITS FALSE NEIGHBOUR: 'it returns false'. Refute it at one input. -/
def integerMulsWrong : ChangeSpec := { name := "integerMuls", fn := fun _ => fun
  | [d1, d2, d3] => { results := [.lit (.bool false)], args := [d1, d2, d3] }
  | _ => none }
def IntegerMulsWrongFalsely : Prop := integerMulsRow.holds Try.pinned (OpenSpec.ofChange integerMulsWrong)

/-- 'cylinderlaw02.IntegerForms': WHATEVER THE INPUT: true; the input reads as it did. -/
def integerFormsSpec : ChangeSpec := { name := "integerForms", fn := fun _ => fun
  | [d] => { results := [.lit (.bool true)], args := [d] }
  | _ => none }
def integerFormsRow : OpenClaim := { program := "ytcccabgeoaidjaa", sum := "7c7d276205ec0c2288dbc15c7125c963a62ea430c220a5fa387140ebcd184024", func := "cylinder/cylinderlaw02.IntegerForms", spec := "integerForms", unfollowed := true, recurses := true, apart := false }
def IntegerFormsSaid : Prop := integerFormsRow.holds Try.pinned (OpenSpec.ofChange integerFormsSpec)

/-- ITS FALSE NEIGHBOUR: 'it returns false'. Refute it at one input. -/
def integerFormsWrong : ChangeSpec := { name := "integerForms", fn := fun _ => fun
  | [d] => { results := [.lit (.bool false)], args := [d] }
  | _ => none }
def IntegerFormsWrongFalsely : Prop := integerFormsRow.holds Try.pinned (OpenSpec.ofChange integerFormsWrong)

/-- 'cylinderlaw02.IntegerOrder': WHATEVER THE INPUT: true; the input reads as it did. -/
def integerOrderSpec : ChangeSpec := { name := "integerOrder", fn := fun _ => fun
  | [d1, d2, d3] => { results := [.lit (.bool true)], args := [d1, d2, d3] }
  | _ => none }
def integerOrderRow : OpenClaim := { program := "ytcccabgeoaidjaa", sum := "7c7d276205ec0c2288dbc15c7125c963a62ea430c220a5fa387140ebcd184024", func := "cylinder/cylinderlaw02.IntegerOrder", spec := "integerOrder", unfollowed := true, recurses := true, apart := false }
def IntegerOrderSaid : Prop := integerOrderRow.holds Try.pinned (OpenSpec.ofChange integerOrderSpec)

/-- ITS FALSE NEIGHBOUR: 'it returns false'. Refute it at one input. -/
def integerOrderWrong : ChangeSpec := { name := "integerOrder", fn := fun _ => fun
  | [d1, d2, d3] => { results := [.lit (.bool false)], args := [d1, d2, d3] }
  | _ => none }
def IntegerOrderWrongFalsely : Prop := integerOrderRow.holds Try.pinned (OpenSpec.ofChange integerOrderWrong)

/-- 'cylinderlaw02.IntegerRing': WHATEVER THE INPUT: true; the input reads as it did. -/
def integerRingSpec : ChangeSpec := { name := "integerRing", fn := fun _ => fun
  | [d1, d2, d3] => { results := [.lit (.bool true)], args := [d1, d2, d3] }
  | _ => none }
def integerRingRow : OpenClaim := { program := "ytcccabgeoaidjaa", sum := "7c7d276205ec0c2288dbc15c7125c963a62ea430c220a5fa387140ebcd184024", func := "cylinder/cylinderlaw02.IntegerRing", spec := "integerRing", unfollowed := true, recurses := true, apart := false }
def IntegerRingSaid : Prop := integerRingRow.holds Try.pinned (OpenSpec.ofChange integerRingSpec)

/-- ITS FALSE NEIGHBOUR: 'it returns false'. Refute it at one input. -/
def integerRingWrong : ChangeSpec := { name := "integerRing", fn := fun _ => fun
  | [d1, d2, d3] => { results := [.lit (.bool false)], args := [d1, d2, d3] }
  | _ => none }
def IntegerRingWrongFalsely : Prop := integerRingRow.holds Try.pinned (OpenSpec.ofChange integerRingWrong)

/-- 'cylinderlaw02.IntegerAdds': WHATEVER THE INPUT: true; the input reads as it did. -/
def integerAddsSpec : ChangeSpec := { name := "integerAdds", fn := fun _ => fun
  | [d1, d2] => { results := [.lit (.bool true)], args := [d1, d2] }
  | _ => none }
def integerAddsRow : OpenClaim := { program := "ytcccabgeoaidjaa", sum := "7c7d276205ec0c2288dbc15c7125c963a62ea430c220a5fa387140ebcd184024", func := "cylinder/cylinderlaw02.IntegerAdds", spec := "integerAdds", unfollowed := true, recurses := true, apart := false }
def IntegerAddsSaid : Prop := integerAddsRow.holds Try.pinned (OpenSpec.ofChange integerAddsSpec)

/-- ITS FALSE NEIGHBOUR: 'it returns false'. Refute it at one input. -/
def integerAddsWrong : ChangeSpec := { name := "integerAdds", fn := fun _ => fun
  | [d1, d2] => { results := [.lit (.bool false)], args := [d1, d2] }
  | _ => none }
def IntegerAddsWrongFalsely : Prop := integerAddsRow.holds Try.pinned (OpenSpec.ofChange integerAddsWrong)

/-- 'cylinderlaw02.IntegerWords': WHATEVER THE INPUT: true; the input reads as it did. -/
def integerWordsSpec : ChangeSpec := { name := "integerWords", fn := fun _ => fun
  | [d1, d2, d3] => { results := [.lit (.bool true)], args := [d1, d2, d3] }
  | _ => none }
def integerWordsRow : OpenClaim := { program := "ytcccabgeoaidjaa", sum := "7c7d276205ec0c2288dbc15c7125c963a62ea430c220a5fa387140ebcd184024", func := "cylinder/cylinderlaw02.IntegerWords", spec := "integerWords", unfollowed := true, recurses := true, apart := false }
def IntegerWordsSaid : Prop := integerWordsRow.holds Try.pinned (OpenSpec.ofChange integerWordsSpec)

/-- ITS FALSE NEIGHBOUR: 'it returns false'. Refute it at one input. -/
def integerWordsWrong : ChangeSpec := { name := "integerWords", fn := fun _ => fun
  | [d1, d2, d3] => { results := [.lit (.bool false)], args := [d1, d2, d3] }
  | _ => none }
def IntegerWordsWrongFalsely : Prop := integerWordsRow.holds Try.pinned (OpenSpec.ofChange integerWordsWrong)

/-- 'cylinderlaw02.IntegerLists': WHATEVER THE INPUT: true; the input reads as it did. -/
def integerListsSpec : ChangeSpec := { name := "integerLists", fn := fun _ => fun
  | [d] => { results := [.lit (.bool true)], args := [d] }
  | _ => none }
def integerListsRow : OpenClaim := { program := "ytcccabgeoaidjaa", sum := "7c7d276205ec0c2288dbc15c7125c963a62ea430c220a5fa387140ebcd184024", func := "cylinder/cylinderlaw02.IntegerLists", spec := "integerLists", unfollowed := true, recurses := true, apart := false }
def IntegerListsSaid : Prop := integerListsRow.holds Try.pinned (OpenSpec.ofChange integerListsSpec)

/-- ITS FALSE NEIGHBOUR: 'it returns false'. Refute it at one input. -/
def integerListsWrong : ChangeSpec := { name := "integerLists", fn := fun _ => fun
  | [d] => { results := [.lit (.bool false)], args := [d] }
  | _ => none }
def IntegerListsWrongFalsely : Prop := integerListsRow.holds Try.pinned (OpenSpec.ofChange integerListsWrong)

/-- 'cylinderlaw02.IntegerKeeps': WHATEVER THE INPUT: true; the input reads as it did. -/
def integerKeepsSpec : ChangeSpec := { name := "integerKeeps", fn := fun _ => fun
  | [d1, d2] => { results := [.lit (.bool true)], args := [d1, d2] }
  | _ => none }
def integerKeepsRow : OpenClaim := { program := "ytcccabgeoaidjaa", sum := "7c7d276205ec0c2288dbc15c7125c963a62ea430c220a5fa387140ebcd184024", func := "cylinder/cylinderlaw02.IntegerKeeps", spec := "integerKeeps", unfollowed := true, recurses := true, apart := false }
def IntegerKeepsSaid : Prop := integerKeepsRow.holds Try.pinned (OpenSpec.ofChange integerKeepsSpec)

/-- ITS FALSE NEIGHBOUR: 'it returns false'. Refute it at one input. -/
def integerKeepsWrong : ChangeSpec := { name := "integerKeeps", fn := fun _ => fun
  | [d1, d2] => { results := [.lit (.bool false)], args := [d1, d2] }
  | _ => none }
def IntegerKeepsWrongFalsely : Prop := integerKeepsRow.holds Try.pinned (OpenSpec.ofChange integerKeepsWrong)

/- THE SECOND FORM. 'bulk': how many values and letters a reading holds, each counted each time it is reached (what is shared counts as often as it is met; a slice's spare places count too). A statement '..UptoSaid' is the law's where the arguments, and the package variables that the reading takes, are together of bulk at most 1048576: NARROWER than '..Said'. Prove '..Said' where nothing that the law and all that it calls make is longer than what came in: it says more and counts as full. Else prove '..UptoSaid'. A law counts once. -/
mutual
def uptoBulk {H : Type} : DataW H → Nat
  | .lit (.string bytes) => bytes.length + 1
  | .lit _ => 1
  | .nil => 1
  | .ptr d => uptoBulk d + 1
  | .slice elems spare => uptoBulkAll elems + uptoBulkAll spare + 1
  | .agg parts => uptoBulkAll parts + 1
  | .iface _ d => uptoBulk d + 1
  | .map entries => uptoBulkEntries entries + 1
  | .held _ => 1
def uptoBulkAll {H : Type} : List (DataW H) → Nat
  | [] => 0
  | d :: r => uptoBulk d + uptoBulkAll r
def uptoBulkEntries {H : Type} : List (Lit × DataW H) → Nat
  | [] => 0
  | x :: r => uptoBulkEntry x + uptoBulkEntries r
def uptoBulkEntry {H : Type} : Lit × DataW H → Nat
  | (.string bytes, d) => bytes.length + uptoBulk d + 1
  | (_, d) => uptoBulk d + 1
 end
def uptoSmall : (H : Type) → List (DataW H) → Bool := fun _ ds => decide (uptoBulkAll ds ≤ 1048576)
def OpenSpec.upto (s : _root_.Go.ChangeSpec) : _root_.Go.OpenSpec := { _root_.Go.OpenSpec.ofChange s with cond := some uptoSmall }

/-- 'cylinderlaw02.IntegerMuls', WHERE WHAT IT READS IS OF BULK AT MOST 1048576: true; the input reads as it did. -/
def integerMulsUptoRow : OpenClaim := { program := "ytcccabgeoaidjaa", sum := "7c7d276205ec0c2288dbc15c7125c963a62ea430c220a5fa387140ebcd184024", func := "cylinder/cylinderlaw02.IntegerMuls", spec := "integerMuls", unfollowed := true, recurses := true, apart := false, narrowed := true }
def IntegerMulsUptoSaid : Prop := integerMulsUptoRow.holds Try.pinned (OpenSpec.upto integerMulsSpec)

/-- 'cylinderlaw02.IntegerForms', WHERE WHAT IT READS IS OF BULK AT MOST 1048576: true; the input reads as it did. -/
def integerFormsUptoRow : OpenClaim := { program := "ytcccabgeoaidjaa", sum := "7c7d276205ec0c2288dbc15c7125c963a62ea430c220a5fa387140ebcd184024", func := "cylinder/cylinderlaw02.IntegerForms", spec := "integerForms", unfollowed := true, recurses := true, apart := false, narrowed := true }
def IntegerFormsUptoSaid : Prop := integerFormsUptoRow.holds Try.pinned (OpenSpec.upto integerFormsSpec)

/-- 'cylinderlaw02.IntegerOrder', WHERE WHAT IT READS IS OF BULK AT MOST 1048576: true; the input reads as it did. -/
def integerOrderUptoRow : OpenClaim := { program := "ytcccabgeoaidjaa", sum := "7c7d276205ec0c2288dbc15c7125c963a62ea430c220a5fa387140ebcd184024", func := "cylinder/cylinderlaw02.IntegerOrder", spec := "integerOrder", unfollowed := true, recurses := true, apart := false, narrowed := true }
def IntegerOrderUptoSaid : Prop := integerOrderUptoRow.holds Try.pinned (OpenSpec.upto integerOrderSpec)

/-- 'cylinderlaw02.IntegerRing', WHERE WHAT IT READS IS OF BULK AT MOST 1048576: true; the input reads as it did. -/
def integerRingUptoRow : OpenClaim := { program := "ytcccabgeoaidjaa", sum := "7c7d276205ec0c2288dbc15c7125c963a62ea430c220a5fa387140ebcd184024", func := "cylinder/cylinderlaw02.IntegerRing", spec := "integerRing", unfollowed := true, recurses := true, apart := false, narrowed := true }
def IntegerRingUptoSaid : Prop := integerRingUptoRow.holds Try.pinned (OpenSpec.upto integerRingSpec)

/-- 'cylinderlaw02.IntegerAdds', WHERE WHAT IT READS IS OF BULK AT MOST 1048576: true; the input reads as it did. -/
def integerAddsUptoRow : OpenClaim := { program := "ytcccabgeoaidjaa", sum := "7c7d276205ec0c2288dbc15c7125c963a62ea430c220a5fa387140ebcd184024", func := "cylinder/cylinderlaw02.IntegerAdds", spec := "integerAdds", unfollowed := true, recurses := true, apart := false, narrowed := true }
def IntegerAddsUptoSaid : Prop := integerAddsUptoRow.holds Try.pinned (OpenSpec.upto integerAddsSpec)

/-- 'cylinderlaw02.IntegerWords', WHERE WHAT IT READS IS OF BULK AT MOST 1048576: true; the input reads as it did. -/
def integerWordsUptoRow : OpenClaim := { program := "ytcccabgeoaidjaa", sum := "7c7d276205ec0c2288dbc15c7125c963a62ea430c220a5fa387140ebcd184024", func := "cylinder/cylinderlaw02.IntegerWords", spec := "integerWords", unfollowed := true, recurses := true, apart := false, narrowed := true }
def IntegerWordsUptoSaid : Prop := integerWordsUptoRow.holds Try.pinned (OpenSpec.upto integerWordsSpec)

/-- 'cylinderlaw02.IntegerLists', WHERE WHAT IT READS IS OF BULK AT MOST 1048576: true; the input reads as it did. -/
def integerListsUptoRow : OpenClaim := { program := "ytcccabgeoaidjaa", sum := "7c7d276205ec0c2288dbc15c7125c963a62ea430c220a5fa387140ebcd184024", func := "cylinder/cylinderlaw02.IntegerLists", spec := "integerLists", unfollowed := true, recurses := true, apart := false, narrowed := true }
def IntegerListsUptoSaid : Prop := integerListsUptoRow.holds Try.pinned (OpenSpec.upto integerListsSpec)

/-- 'cylinderlaw02.IntegerKeeps', WHERE WHAT IT READS IS OF BULK AT MOST 1048576: true; the input reads as it did. -/
def integerKeepsUptoRow : OpenClaim := { program := "ytcccabgeoaidjaa", sum := "7c7d276205ec0c2288dbc15c7125c963a62ea430c220a5fa387140ebcd184024", func := "cylinder/cylinderlaw02.IntegerKeeps", spec := "integerKeeps", unfollowed := true, recurses := true, apart := false, narrowed := true }
def IntegerKeepsUptoSaid : Prop := integerKeepsUptoRow.holds Try.pinned (OpenSpec.upto integerKeepsSpec)

end Rows
end Go.Proofs.Ytcccabgeoaidjaa
