/- An argument that is an array of two uint32, opened. -/
import Derived.Test.YtjefndkhonpalaaOpen
namespace Go.Proofs.Ytjefndkhonpalaa
open Go.ChangeShapes Go.WideShapes Go.ChangeAt Go.RowKit

section
variable {H : Type} {enc : TypeId × Value → H} {W : World} {base : Nat} {v : Value} {d : DataW H} {p : List MemPlace}
theorem cells_arr2 : Try.prog.cellsOf 40 = 2 := by kernel_rfl
theorem cells_u32 : Try.prog.cellsOf 39 = 1 := by kernel_rfl
theorem open_arr2 (hv : Value.okWide Try.prog W .any base 40 v) (h : DataW.Trod enc Try.prog W 0 (fun _ => true) true 40 v d p) :
    ∃ m k : Nat, v = .agg #[.int .u32 (m : Int), .int .u32 (k : Int)] ∧ m < 4294967296 ∧ k < 4294967296 := by
  unfold Value.okWide at hv
  rw [Try.underlying40] at hv
  obtain ⟨cs, rfl, hsz, _⟩ := hv
  rw [cells_arr2] at hsz
  obtain ⟨fuel, hf⟩ := h
  obtain ⟨xs, n, _, _, _, hl, hg⟩ := DataW.trod_array Try.underlying40 hf
  have g0 := hg 0 (by omega)
  have g1 := hg 1 (by omega)
  rw [cells_u32] at g0 g1
  obtain ⟨l⟩ := cs
  match l, hsz with
  | [a0, a1], _ =>
    have hx0 : xs[0]? = some (xs[0]'(by omega)) := List.getElem?_eq_getElem (by omega)
    have hx1 : xs[1]? = some (xs[1]'(by omega)) := List.getElem?_eq_getElem (by omega)
    rw [hx0] at g0
    rw [hx1] at g1
    obtain ⟨m, e0, _, w0⟩ := DataW.trod_int Try.underlying39 g0
    obtain ⟨k, e1, _, w1⟩ := DataW.trod_int Try.underlying39 g1
    simp [Value.cells] at e0 e1
    simp [Lit.wf, IntKind.min, IntKind.max, IntKind.signed, IntKind.bits] at w0 w1
    subst e0 e1
    exact ⟨m.toNat, k.toNat, by rw [Int.toNat_of_nonneg (by omega), Int.toNat_of_nonneg (by omega)], by omega, by omega⟩
end
end Go.Proofs.Ytjefndkhonpalaa
