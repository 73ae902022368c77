/- Arguments that are integers (structs of a sign and digits), opened. -/
import Derived.Lib.SmallJoins
import Derived.Test.YtehhkeenjlpikaaGreatSeOpen
import Derived.Test.YtehhkeenjlpikaaGreatIntX
namespace Go.Proofs.YtehhkeenjlpikaaGreat
open Go.ChangeShapes Go.WideShapes Go.ChangeAt Go.RowKit Go.Joins

theorem cells_Z : Tryz.prog.cellsOf 25 = 2 := by kernel_rfl
/-- The digits of a field. -/
theorem nv_of_trod {H : Type} {enc : TypeId × Value → H} {W : World} {n : Nat} {v : Value} {y : DataW H × List MemPlace} (hf : DataW.trod enc Tryz.prog W 0 (fun _ => true) true n 23 [v] = some y) :
    ∃ A c ds, v = .slice A ds.length c ∧ NR W A c ds := by
  rcases open_ints Tryz.underlying23 Tryz.underlying141 (by kernel_rfl) hf with ⟨hcs, _⟩ | ⟨x, l, c, zs, hcs, _, hl, hm, hz, _, hcell, hwz⟩
  · simp at hcs
    subst hcs
    exact ⟨none, 0, [], rfl, Rd.nil _ _ _, valid_nil _, Nat.le_refl _, by omega⟩
  · simp at hcs
    subst hcs
    obtain ⟨ds, rfl, hn⟩ := nr_of_cells hl hm (by simpa using hz) hcell hwz
    exact ⟨_, _, ds, rfl, hn⟩
theorem zv_of {W : World} {s : Bool} {A : Option Addr} {c : Nat} {ds : List Nat} (h : NR W A c ds) : ∃ L x, L = ds.length ∧ ZV W s A c L x := by
  cases s
  · exact ⟨_, (V ds : Int), rfl, by rw [Int.natAbs_natCast]; exact h.nv, (fun e => by cases e), fun _ => Int.natCast_nonneg _⟩
  · exact ⟨_, -(V ds : Int), rfl, by rw [Int.natAbs_neg, Int.natAbs_natCast]; exact h.nv, (fun _ => by omega), fun e => by cases e⟩
section
variable {H : Type} {enc : TypeId × Value → H} {W : World} {base : Nat} {v : Value} {d : DataW H} {p : List MemPlace}
end
end Go.Proofs.YtehhkeenjlpikaaGreat
