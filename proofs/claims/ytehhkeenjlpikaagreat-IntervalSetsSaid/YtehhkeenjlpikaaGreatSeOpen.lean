/- Arguments of the statements opened to what the walks are told. -/
import Derived.Test.YtehhkeenjlpikaaGreatBase
import Derived.WalkKit
import Derived.ProofKit
import Derived.OpenShut
import Derived.ShutString
import Derived.ChangeOld
import Derived.Below
namespace Go.Proofs.YtehhkeenjlpikaaGreat
open Go.ChangeShapes Go.WideShapes Go.ChangeAt Go.RowKit
open Go.ChangeMaps (open_string shut_string)

theorem laidOut : laidOutB Tryz.prog = true := by kernel_rfl
theorem own_knob : ownKnob Tryz.prog.godebug = none := by kernel_rfl

theorem and_true {a b : Bool} (ha : a = true) (hb : b = true) : (a && b) = true := by rw [ha, hb]; rfl
theorem shared_fact2 : (fun (P : Program) => (mapsRowed P : Bool)) Tryz.prog = true := by kernel_rfl
theorem shared_fact6 : (fun (P : Program) => ((P.stops == []) : Bool)) Tryz.prog = true := by kernel_rfl
theorem shared_fact8 : (fun (P : Program) => ((P.stopKnobs == []) : Bool)) Tryz.prog = true := by kernel_rfl
theorem shared_fact24 : (fun (P : Program) => (P.stopsHeard : Bool)) Tryz.prog = true := by kernel_rfl
theorem shared_fact25 : (fun (P : Program) => (P.mayEnter : Bool)) Tryz.prog = true := by kernel_rfl

/-- From the cells of a slice of digits to what the walks are told. -/
theorem nr_of_cells {W : World} {x : Addr} {l c : Nat} {zs : List Int} (hl : l ≤ c) (hm : c ≤ maxLen) (hz : zs.length = c) (hcell : ∀ i, i < zs.length → W.cell? (x.add i) = some (.int .u32 (zs.getD i 0)))
    (hwz : ∀ n ∈ zs, (Lit.int .u32 n).wf = true) : ∃ ds : List Nat, ds.length = l ∧ NR W (some x) c ds := by
  have hb : ∀ n ∈ zs, 0 ≤ n ∧ n < 4294967296 := by
    intro n hn
    have := hwz n hn
    simp [Lit.wf, IntKind.min, IntKind.max, IntKind.signed, IntKind.bits] at this
    omega
  refine ⟨(zs.take l).map Int.toNat, by simp; omega, ?_, ?_, by simp; omega, by unfold maxLen at hm; omega⟩
  · intro j hj
    have hj' : j < zs.length := by simp at hj; omega
    have hc := hcell j hj'
    have h0 := hcell 0 (by omega)
    obtain ⟨b, off, spot⟩ := x
    have hspot : spot = none := by
      have h1 : (⟨b, off, spot⟩ : Addr).add 0 = ⟨b, off, spot⟩ := by simp [Addr.add]
      rw [h1] at h0
      simpa using World.cell?_spot h0
    subst hspot
    have hadd : (⟨b, off, none⟩ : Addr).add j = ⟨b, off + j, none⟩ := by unfold Addr.add; split <;> simp_all
    rw [hadd] at hc
    refine ⟨b, off, rfl, World.block_lt_of_cell? W _ hc, ?_⟩
    rw [hc]
    have hz0 := (hb _ (List.getElem_mem hj')).1
    simp [List.getD, List.getElem?_eq_getElem hj']
    omega
  · intro d hd
    simp only [List.mem_map] at hd
    obtain ⟨n, hn, rfl⟩ := hd
    have := hb n (List.mem_of_mem_take hn)
    unfold B32
    omega

section
variable {H : Type} {enc : TypeId × Value → H} {W : World} {base : Nat} {v : Value} {d : DataW H} {p : List MemPlace}
end
end Go.Proofs.YtehhkeenjlpikaaGreat
