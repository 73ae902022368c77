/- Arguments of the statements opened to what the walks are told. -/
import Derived.Test.YtcccabgeoaidjaaBase
import Derived.WalkKit
import Derived.ProofKit
import Derived.OpenShut
import Derived.ShutString
import Derived.ChangeOld
import Derived.Below
namespace Go.Proofs.Ytcccabgeoaidjaa
open Go.ChangeShapes Go.WideShapes Go.ChangeAt Go.RowKit
open Go.ChangeMaps (open_string shut_string)

theorem laidOut : laidOutB Try.prog = true := by kernel_rfl
theorem own_knob : ownKnob Try.prog.godebug = none := by kernel_rfl

theorem and_true {a b : Bool} (ha : a = true) (hb : b = true) : (a && b) = true := by rw [ha, hb]; rfl
theorem shared_fact2 : (fun (P : Program) => (mapsRowed P : Bool)) Try.prog = true := by kernel_rfl
theorem shared_fact6 : (fun (P : Program) => ((P.stops == []) : Bool)) Try.prog = true := by kernel_rfl
theorem shared_fact8 : (fun (P : Program) => ((P.stopKnobs == []) : Bool)) Try.prog = true := by kernel_rfl
theorem shared_fact24 : (fun (P : Program) => (P.stopsHeard : Bool)) Try.prog = true := by kernel_rfl
theorem shared_fact25 : (fun (P : Program) => (P.mayEnter : Bool)) Try.prog = true := by kernel_rfl

/-- From the cells of a slice of digits to what the walks are told. -/
theorem nr_of_cells {W : World} {x : Addr} {l c : Nat} {zs : List Int} (hl : l ≤ c) (hm : c ≤ maxLen) (hz : zs.length = c) (hcell : ∀ i, i < zs.length → W.cell? (x.add i) = some (.int .u32 (zs.getD i 0)))
    (hwz : ∀ n ∈ zs, (Lit.int .u32 n).wf = true) : ∃ ds : List Nat, ds.length = l ∧ NR W (some x) c ds := by
  have hb : ∀ n ∈ zs, 0 ≤ n ∧ n < 4294967296 := by
    intro n hn
    have := hwz n hn
    simp [Lit.wf, IntKind.min, IntKind.max, IntKind.signed, IntKind.bits] at this
    omega
  refine ⟨(zs.take l).map Int.toNat, by simp; omega, ?_, ?_, by simp; omega, by unfold maxLen at hm; omega⟩
  · intro j hj
    have hj' : j < zs.length := by simp at hj; omega
    have hc := hcell j hj'
    have h0 := hcell 0 (by omega)
    obtain ⟨b, off, spot⟩ := x
    have hspot : spot = none := by
      have h1 : (⟨b, off, spot⟩ : Addr).add 0 = ⟨b, off, spot⟩ := by simp [Addr.add]
      rw [h1] at h0
      simpa using World.cell?_spot h0
    subst hspot
    have hadd : (⟨b, off, none⟩ : Addr).add j = ⟨b, off + j, none⟩ := by unfold Addr.add; split <;> simp_all
    rw [hadd] at hc
    refine ⟨b, off, rfl, World.block_lt_of_cell? W _ hc, ?_⟩
    rw [hc]
    have hz0 := (hb _ (List.getElem_mem hj')).1
    simp [List.getD, List.getElem?_eq_getElem hj']
    omega
  · intro d hd
    simp only [List.mem_map] at hd
    obtain ⟨n, hn, rfl⟩ := hd
    have := hb n (List.mem_of_mem_take hn)
    unfold B32
    omega

section
variable {H : Type} {enc : TypeId × Value → H} {W : World} {base : Nat} {v : Value} {d : DataW H} {p : List MemPlace}
set_option maxRecDepth 100000 in
theorem open_nat (hv : Value.okWide Try.prog W .any base 22 v) (h : DataW.Trod enc Try.prog W 0 (fun _ => true) true 22 v d p) :
    ∃ A c ds, v = .slice A ds.length c ∧ NR W A c ds := by
  obtain ⟨a0, len, cap, rfl⟩ := okWide_slice Try.underlying22 hv
  obtain ⟨fuel, hf⟩ := h
  rcases open_ints Try.underlying22 Try.underlying59 (by kernel_rfl) hf with ⟨hcs, _⟩ | ⟨x, l, c, zs, hcs, _, hl, hm, hz, _, hcell, hwz⟩
  · simp [Value.cells] at hcs
    obtain ⟨rfl, rfl, rfl⟩ := hcs
    exact ⟨none, 0, [], rfl, Rd.nil _ _ _, valid_nil _, Nat.le_refl _, by omega⟩
  · simp [Value.cells] at hcs
    obtain ⟨rfl, rfl, rfl⟩ := hcs
    obtain ⟨ds, rfl, hn⟩ := nr_of_cells hl hm (by simpa using hz) hcell hwz
    exact ⟨_, _, ds, rfl, hn⟩

set_option maxRecDepth 100000 in
theorem open_u64 (hv : Value.okWide Try.prog W .any base 76 v) (h : DataW.Trod enc Try.prog W 0 (fun _ => true) true 76 v d p) : ∃ m : Nat, v = .int .u64 (m : Int) ∧ m < 18446744073709551616 := by
  obtain ⟨x, rfl, rfl, rfl, wx⟩ := open_int Try.underlying76 hv h
  have hb : 0 ≤ x ∧ x < 18446744073709551616 := by
    simp [Lit.wf, IntKind.min, IntKind.max, IntKind.signed, IntKind.bits] at wx
    omega
  exact ⟨x.toNat, by rw [Int.toNat_of_nonneg hb.1], by omega⟩
set_option maxRecDepth 100000 in
theorem open_u32 (hv : Value.okWide Try.prog W .any base 59 v) (h : DataW.Trod enc Try.prog W 0 (fun _ => true) true 59 v d p) : ∃ m : Nat, v = .int .u32 (m : Int) ∧ m < 4294967296 := by
  obtain ⟨x, rfl, rfl, rfl, wx⟩ := open_int Try.underlying59 hv h
  have hb : 0 ≤ x ∧ x < 4294967296 := by
    simp [Lit.wf, IntKind.min, IntKind.max, IntKind.signed, IntKind.bits] at wx
    omega
  exact ⟨x.toNat, by rw [Int.toNat_of_nonneg hb.1], by omega⟩
set_option maxRecDepth 100000 in
theorem open_u8 (hv : Value.okWide Try.prog W .any base 5 v) (h : DataW.Trod enc Try.prog W 0 (fun _ => true) true 5 v d p) : ∃ m : Nat, v = .int .u8 (m : Int) ∧ m < 256 := by
  obtain ⟨x, rfl, rfl, rfl, wx⟩ := open_int Try.underlying5 hv h
  have hb : 0 ≤ x ∧ x < 256 := by
    simp [Lit.wf, IntKind.min, IntKind.max, IntKind.signed, IntKind.bits] at wx
    omega
  exact ⟨x.toNat, by rw [Int.toNat_of_nonneg hb.1], by omega⟩
set_option maxRecDepth 100000 in
theorem open_i64_ (hv : Value.okWide Try.prog W .any base 2 v) (h : DataW.Trod enc Try.prog W 0 (fun _ => true) true 2 v d p) : ∃ x : Int, v = .int .i64 x ∧ -9223372036854775808 ≤ x ∧ x ≤ 9223372036854775807 := by
  obtain ⟨x, rfl, rfl, rfl, wx⟩ := open_int Try.underlying2 hv h
  simp [Lit.wf, IntKind.min, IntKind.max, IntKind.signed, IntKind.bits] at wx
  exact ⟨x, rfl, by omega, by omega⟩
set_option maxRecDepth 100000 in
theorem open_int_ (hv : Value.okWide Try.prog W .any base 3 v) (h : DataW.Trod enc Try.prog W 0 (fun _ => true) true 3 v d p) : ∃ x : Int, v = .int .i64 x ∧ -9223372036854775808 ≤ x ∧ x ≤ 9223372036854775807 := by
  obtain ⟨x, rfl, rfl, rfl, wx⟩ := open_int Try.underlying3 hv h
  simp [Lit.wf, IntKind.min, IntKind.max, IntKind.signed, IntKind.bits] at wx
  exact ⟨x, rfl, by omega, by omega⟩
end
end Go.Proofs.Ytcccabgeoaidjaa
