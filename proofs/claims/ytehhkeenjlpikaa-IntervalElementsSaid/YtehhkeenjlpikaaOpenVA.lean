/- An argument that is an array of two fractions, opened. -/
import Derived.Test.YtehhkeenjlpikaaOpenV
namespace Go.Proofs.Ytehhkeenjlpikaa
open Go.ChangeShapes Go.WideShapes Go.ChangeAt Go.RowKit Go.Joins
section
variable {H : Type} {enc : TypeId × Value → H} {W : World} {base : Nat} {v : Value} {d : DataW H} {p : List MemPlace}
theorem cells_RA : Try.prog.cellsOf 30 = 6 := by kernel_rfl
set_option maxRecDepth 100000 in
theorem open_RA (hv : Value.okWide Try.prog W .any base 30 v) (h : DataW.Trod enc Try.prog W 0 (fun _ => true) true 30 v d p) :
    ∃ s A c L B d M x y s' A' c' L' B' d' M' x' y', v = .agg #[.bool s, .slice A L c, .slice B M d, .bool s', .slice A' L' c', .slice B' M' d'] ∧ RW W s A c L B d M x y ∧ RW W s' A' c' L' B' d' M' x' y' := by
  unfold Value.okWide at hv
  rw [Try.underlying30] at hv
  obtain ⟨cs, rfl, hsz, _⟩ := hv
  rw [cells_RA] at hsz
  obtain ⟨fuel, hf⟩ := h
  obtain ⟨xs, n, _, _, _, hl, hg⟩ := DataW.trod_array Try.underlying30 hf
  have g0 := hg 0 (by omega)
  have g1 := hg 1 (by omega)
  rw [cells_R] at g0 g1
  obtain ⟨v0, v1, v2, v3, v4, v5, rfl⟩ := array6 hsz
  have hx0 : xs[0]? = some (xs[0]'(by omega)) := List.getElem?_eq_getElem (by omega)
  have hx1 : xs[1]? = some (xs[1]'(by omega)) := List.getElem?_eq_getElem (by omega)
  rw [hx0] at g0
  rw [hx1] at g1
  obtain ⟨s, A, c, L, B, d, M, x, y, rfl, rfl, rfl, hr⟩ := rw_of_trod (v0 := v0) (v1 := v1) (v2 := v2) (by simpa [Value.cells] using g0)
  obtain ⟨s', A', c', L', B', d', M', x', y', rfl, rfl, rfl, hr'⟩ := rw_of_trod (v0 := v3) (v1 := v4) (v2 := v5) (by simpa [Value.cells] using g1)
  exact ⟨s, A, c, L, B, d, M, x, y, s', A', c', L', B', d', M', x', y', rfl, hr, hr'⟩
end
end Go.Proofs.Ytehhkeenjlpikaa
