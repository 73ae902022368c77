/-
  DERIVED. GIVEN WITH THE SEED: THE CARDS: each row of YtjefndkhonpalaaDoorRows.lean that lists a variable, with what it lists TIED to the program's text (the seventh form; the later family's looks); each row that meets fmt, with fmt's text TOLD by the authors' own Lean function (tested against real Go, not proved from fmt's source: count such statements apart). THE CARD IS WHAT COUNTS. Prove the row's statement (the work); the ties are given (YtjefndkhonpalaaDoorTie.lean); close each card by the builder's one call (the guide's Derived/Test/ToyasCard.lean, 'card_holds'). Laid BY PROGRAM, IN A SANDBOX (cutbox-door.mjs). By AI agents, Wed Nov 11 2026. No macro, syntax, notation, axiom, sorry.
-/
import Derived.Test.YtjefndkhonpalaaDoorRows
import GoSem.ClaimSeven
namespace Go.Proofs.YtjefndkhonpalaaDoor
namespace Rows

/-- THE TIED CARD OF 'cylinderlaw01.NaturalBits'. -/
def naturalBitsCard : Claim7 := { stood := { row := naturalBitsRow, standIns := [], harness := (true, "3bf33f2a634353908b8f913c7ac81fe025d543e57582b7fa6f50f83bae922e1d"), looks := false }, kinds := [], alts := [], laidByText := true, laidKinds := [.data], laidTests := true, laidLooks := .later }
def NaturalBitsCardSaid : Prop := Claim7.holds Tryd.pinned (.plain (OpenSpec.ofChange naturalBitsSpec)) naturalBitsCard

/-- THE SECOND FORM's CARD OF 'cylinderlaw01.NaturalBits'. -/
def naturalBitsUptoCard : Claim7 := { stood := { row := naturalBitsUptoRow, standIns := [], harness := (true, "3bf33f2a634353908b8f913c7ac81fe025d543e57582b7fa6f50f83bae922e1d"), looks := false }, kinds := [], alts := [], laidByText := true, laidKinds := [.data], laidTests := true, laidLooks := .later }
def NaturalBitsUptoCardSaid : Prop := Claim7.holds Tryd.pinned (.plain (OpenSpec.upto naturalBitsSpec)) naturalBitsUptoCard
end Rows
end Go.Proofs.YtjefndkhonpalaaDoor
