/- An argument that is a slice of integers (structs), opened. -/
import Derived.Deep.Slices
import Derived.Test.YtcccabgeoaidjaaOpenZ
import Derived.Test.YtcccabgeoaidjaaIntE
namespace Go.Proofs.Ytcccabgeoaidjaa
open Go.ChangeShapes Go.WideShapes Go.ChangeAt Go.RowKit Go.Joins Go.Deep

theorem cells_bool1 : Try.prog.cellsOf 4 = 1 := by kernel_rfl
theorem cells_nat1 : Try.prog.cellsOf 23 = 1 := by kernel_rfl
theorem list_of {P : Nat → Int → Prop} : ∀ (l : Nat), (∀ i, i < l → ∃ x, P i x) → ∃ xs : List Int, xs.length = l ∧ ∀ j (h : j < xs.length), P j xs[j]
  | 0, _ => ⟨[], rfl, fun j h => absurd h (by simp)⟩
  | l + 1, h => by
    obtain ⟨xs, hl, hp⟩ := list_of l (fun i hi => h i (by omega))
    obtain ⟨x, hx⟩ := h l (by omega)
    refine ⟨xs ++ [x], by simp [hl], fun j hj => ?_⟩
    by_cases hjl : j < xs.length
    · rw [List.getElem_append_left hjl]; exact hp j hjl
    · have hj' : j < xs.length + 1 := by simpa using hj
      obtain rfl : j = xs.length := by omega
      rw [List.getElem_append_right (Nat.le_refl _)]
      simpa [hl] using hx
section
variable {H : Type} {enc : TypeId × Value → H} {W : World} {base : Nat} {v : Value} {d : DataW H} {p : List MemPlace}
set_option maxRecDepth 100000 in
theorem open_ZL (hv : Value.okWide Try.prog W .any base 53 v) (h : DataW.Trod enc Try.prog W 0 (fun _ => true) true 53 v d p) :
    ∃ A c n xs, v = .slice A n c ∧ n = xs.length ∧ n ≤ 9223372036854775807 ∧ ZL W A xs := by
  obtain ⟨a0, len, cap, rfl⟩ := okWide_slice Try.underlying53 hv
  obtain ⟨fuel, hf⟩ := h
  rcases open_slice Try.underlying53 hf with ⟨hcs, _⟩ | ⟨a, l, c, m, n, D, Pl, hcs, _, hl, hm, hmm, _, hel⟩
  · simp [Value.cells] at hcs
    obtain ⟨rfl, rfl, rfl⟩ := hcs
    exact ⟨none, 0, 0, [], rfl, rfl, by omega, fun j hj => absurd hj (by simp)⟩
  · simp [Value.cells] at hcs
    obtain ⟨rfl, rfl, rfl⟩ := hcs
    have hmc : m = cap := by simpa using hmm
    unfold maxLen at hm
    rw [cells_Z] at hel
    have hsp : 0 < len → a.spot = none := fun h0 => by
      obtain ⟨cs, hcells, _⟩ := hel 0 (by omega)
      obtain ⟨_, hcl, hat⟩ := World.cells?_some hcells
      have g0 := hat 0 (by omega)
      have e : (a.add (0 * 2)).add 0 = a := by simp [Addr.add]
      rw [e, List.getElem?_eq_getElem (by omega)] at g0
      exact World.cell?_spot g0
    have key : ∀ i, i < len → ∃ x : Int, ∃ b off s A' c L, (some a : Option Addr) = some ⟨b, off, none⟩ ∧ b < W.heap.size ∧ W.cell? ⟨b, off + i * 2, none⟩ = some (.bool s) ∧ W.cell? ⟨b, off + i * 2 + 1, none⟩ = some (.slice A' L c) ∧ ZV W s A' c L x := by
      intro i hi
      obtain ⟨cs, hcells, ht⟩ := hel i (by omega)
      obtain ⟨_, hcl, hat⟩ := World.cells?_some hcells
      obtain ⟨y0, y1, n2, _, _, hy0, hy1⟩ := trod_struct2 Try.underlying25 ht
      match cs, hcl with
      | [v0, v1], _ =>
        have g0 := hat 0 (by omega)
        have g1 := hat 1 (by omega)
        simp only [List.getElem?_cons_zero, List.getElem?_cons_succ] at g0 g1
        have hz0 : DataW.trod enc Try.prog W 0 (fun _ => true) true n2 4 [v0] = some y0 := by simpa [cells_bool1] using hy0
        have hz1 : DataW.trod enc Try.prog W 0 (fun _ => true) true n2 23 [v1] = some y1 := by simpa [cells_nat1] using hy1
        obtain ⟨b, e0, _⟩ := DataW.trod_bool Try.underlying4 hz0
        obtain ⟨A', c', ds, e1, hn⟩ := nv_of_trod hz1
        simp at e0
        subst e0 e1
        obtain ⟨L, x, hL, hz⟩ := zv_of (s := b) hn
        obtain ⟨bk, off, spot⟩ := a
        have hspot : spot = none := hsp (by omega)
        subst hspot
        have hadd : ∀ o j : Nat, (⟨bk, o, none⟩ : Addr).add j = ⟨bk, o + j, none⟩ := fun o j => by unfold Addr.add; split <;> simp_all
        rw [hadd, hadd] at g0 g1
        rw [Nat.add_zero] at g0
        exact ⟨x, bk, off, b, A', c', L, rfl, World.block_lt_of_cell? W _ g0, g0, by rw [hL]; exact g1, hz⟩
    obtain ⟨xs, hxl, hxs⟩ := list_of len key
    exact ⟨some a, cap, len, xs, rfl, hxl.symm, by omega, hxs⟩
end
end Go.Proofs.Ytcccabgeoaidjaa
