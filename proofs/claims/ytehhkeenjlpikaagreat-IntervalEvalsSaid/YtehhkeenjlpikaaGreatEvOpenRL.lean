/- An argument that is a slice of fractions, opened. -/
import Derived.Deep.Slices
import Derived.Test.YtehhkeenjlpikaaGreatEvOpenV
import Derived.Test.YtehhkeenjlpikaaGreatEvJvI
namespace Go.Proofs.YtehhkeenjlpikaaGreat
open Go.ChangeShapes Go.WideShapes Go.ChangeAt Go.RowKit Go.Joins Go.Deep
theorem list_ofQ {P : Nat → Rat → Prop} : ∀ (l : Nat), (∀ i, i < l → ∃ x, P i x) → ∃ xs : List Rat, xs.length = l ∧ ∀ j (h : j < xs.length), P j xs[j]
  | 0, _ => ⟨[], rfl, fun j h => absurd h (by simp)⟩
  | l + 1, h => by
    obtain ⟨xs, hl, hp⟩ := list_ofQ l (fun i hi => h i (by omega))
    obtain ⟨x, hx⟩ := h l (by omega)
    refine ⟨xs ++ [x], by simp [hl], fun j hj => ?_⟩
    by_cases hjl : j < xs.length
    · rw [List.getElem_append_left hjl]; exact hp j hjl
    · have hj' : j < xs.length + 1 := by simpa using hj
      obtain rfl : j = xs.length := by omega
      rw [List.getElem_append_right (Nat.le_refl _)]
      simpa [hl] using hx
section
variable {H : Type} {enc : TypeId × Value → H} {W : World} {base : Nat} {v : Value} {d : DataW H} {p : List MemPlace}
set_option maxRecDepth 100000 in
theorem open_RL (hv : Value.okWide Tryz.prog W .any base 50 v) (h : DataW.Trod enc Tryz.prog W 0 (fun _ => true) true 50 v d p) :
    ∃ A c n xs, v = .slice A n c ∧ n = xs.length ∧ n ≤ 9223372036854775807 ∧ RWL W A xs := by
  obtain ⟨a0, len, cap, rfl⟩ := okWide_slice Tryz.underlying50 hv
  obtain ⟨fuel, hf⟩ := h
  rcases open_slice Tryz.underlying50 hf with ⟨hcs, _⟩ | ⟨a, l, c, m, n, D, Pl, hcs, _, hl, hm, hmm, _, hel⟩
  · simp [Value.cells] at hcs
    obtain ⟨rfl, rfl, rfl⟩ := hcs
    exact ⟨none, 0, 0, [], rfl, rfl, by omega, fun j hj => absurd hj (by simp)⟩
  · simp [Value.cells] at hcs
    obtain ⟨rfl, rfl, rfl⟩ := hcs
    have hmc : m = cap := by simpa using hmm
    unfold maxLen at hm
    rw [cells_R] at hel
    have hsp : 0 < len → a.spot = none := fun h0 => by
      obtain ⟨cs, hcells, _⟩ := hel 0 (by omega)
      obtain ⟨_, hcl, hat⟩ := World.cells?_some hcells
      have g0 := hat 0 (by omega)
      have e : (a.add (0 * 3)).add 0 = a := by simp [Addr.add]
      rw [e, List.getElem?_eq_getElem (by omega)] at g0
      exact World.cell?_spot g0
    have key : ∀ i, i < len → ∃ q : Rat, ∃ b off s A' c L B d M x y, (some a : Option Addr) = some ⟨b, off, none⟩ ∧ b < W.heap.size ∧ W.cell? ⟨b, off + i * 3, none⟩ = some (.bool s) ∧ W.cell? ⟨b, off + i * 3 + 1, none⟩ = some (.slice A' L c) ∧ W.cell? ⟨b, off + i * 3 + 2, none⟩ = some (.slice B M d) ∧ RW W s A' c L B d M x y ∧ q = mkRat x y := by
      intro i hi
      obtain ⟨cs, hcells, ht⟩ := hel i (by omega)
      obtain ⟨_, hcl, hat⟩ := World.cells?_some hcells
      match cs, hcl with
      | [v0, v1, v2], _ =>
        have g0 := hat 0 (by omega)
        have g1 := hat 1 (by omega)
        have g2 := hat 2 (by omega)
        simp only [List.getElem?_cons_zero, List.getElem?_cons_succ] at g0 g1 g2
        obtain ⟨s, A, c, L, B, d, M, x, y, rfl, rfl, rfl, hr⟩ := rw_of_trod ht
        obtain ⟨bk, off, spot⟩ := a
        have hspot : spot = none := hsp (by omega)
        subst hspot
        have hadd : ∀ o j : Nat, (⟨bk, o, none⟩ : Addr).add j = ⟨bk, o + j, none⟩ := fun o j => by unfold Addr.add; split <;> simp_all
        rw [hadd, hadd] at g0 g1 g2
        rw [Nat.add_zero] at g0
        exact ⟨mkRat x y, bk, off, s, A, c, L, B, d, M, x, y, rfl, World.block_lt_of_cell? W _ g0, g0, g1, g2, hr, rfl⟩
    obtain ⟨xs, hxl, hxs⟩ := list_ofQ len key
    exact ⟨some a, cap, len, xs, rfl, hxl.symm, by omega, hxs⟩
end
end Go.Proofs.YtehhkeenjlpikaaGreat
