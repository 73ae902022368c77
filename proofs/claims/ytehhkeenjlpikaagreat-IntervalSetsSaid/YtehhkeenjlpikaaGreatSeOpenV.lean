/- Arguments that are intervals (two fractions), opened. -/
import Derived.Lib.SmallJoins
import Derived.Test.YtehhkeenjlpikaaGreatSeOpenR
namespace Go.Proofs.YtehhkeenjlpikaaGreat
open Go.ChangeShapes Go.WideShapes Go.ChangeAt Go.RowKit Go.Joins
theorem cells_V : Tryz.prog.cellsOf 29 = 6 := by kernel_rfl
theorem array6 {a : Array Value} (h : a.size = 6) : ∃ x y z u v t, a = #[x, y, z, u, v, t] := by
  obtain ⟨l⟩ := a
  match l, h with
  | [x, y, z, u, v, t], _ => exact ⟨x, y, z, u, v, t, rfl⟩
section
variable {H : Type} {enc : TypeId × Value → H} {W : World} {base : Nat} {v : Value} {d : DataW H} {p : List MemPlace}
set_option maxRecDepth 100000 in
theorem open_V (hv : Value.okWide Tryz.prog W .any base 29 v) (h : DataW.Trod enc Tryz.prog W 0 (fun _ => true) true 29 v d p) :
    ∃ s A c L B d M x y s' A' c' L' B' d' M' x' y', v = .agg #[.bool s, .slice A L c, .slice B M d, .bool s', .slice A' L' c', .slice B' M' d'] ∧ RW W s A c L B d M x y ∧ RW W s' A' c' L' B' d' M' x' y' := by
  obtain ⟨cs, rfl, hsz⟩ := okWide_struct Tryz.underlying29 hv
  obtain ⟨v0, v1, v2, v3, v4, v5, rfl⟩ := array6 (hsz.trans cells_V)
  obtain ⟨fuel, hf⟩ := h
  obtain ⟨y0, y1, n2, _, _, hy0, hy1⟩ := trod_struct2 Tryz.underlying29 (show DataW.trod enc Tryz.prog W 0 (fun _ => true) true fuel 29 [v0, v1, v2, v3, v4, v5] = some (d, p) by simpa [Value.cells] using hf)
  obtain ⟨s, A, c, L, B, d, M, x, y, rfl, rfl, rfl, hr⟩ := rw_of_trod (show DataW.trod enc Tryz.prog W 0 (fun _ => true) true n2 27 [v0, v1, v2] = some y0 by simpa [cells_R] using hy0)
  obtain ⟨s', A', c', L', B', d', M', x', y', rfl, rfl, rfl, hr'⟩ := rw_of_trod (show DataW.trod enc Tryz.prog W 0 (fun _ => true) true n2 27 [v3, v4, v5] = some y1 by simpa [cells_R] using hy1)
  exact ⟨s, A, c, L, B, d, M, x, y, s', A', c', L', B', d', M', x', y', rfl, hr, hr'⟩
end
end Go.Proofs.YtehhkeenjlpikaaGreat
