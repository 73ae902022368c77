/- What IntegerKeeps asks: twelve results in an array of the call's own, written into. -/
import Derived.Test.YtcccabgeoaidjaaNatK
import Derived.Test.YtcccabgeoaidjaaIntX
namespace Go.Proofs.Ytcccabgeoaidjaa
open Go.RowKit
/-- A result: its sign, its digits. -/
def cellsI (rs : List (Bool × Option Addr × Nat × Nat)) : List Value := rs.flatMap fun r => [.bool r.1, .slice r.2.1 r.2.2.1 r.2.2.2]
theorem cellsI_get : ∀ {rs : List (Bool × Option Addr × Nat × Nat)} {i : Nat} {r : Bool × Option Addr × Nat × Nat}, rs[i]? = some r → (cellsI rs)[2 * i]? = some (.bool r.1) ∧ (cellsI rs)[2 * i + 1]? = some (.slice r.2.1 r.2.2.1 r.2.2.2)
  | [], i, r, h => by simp at h
  | x :: rs, 0, r, h => by
    simp at h
    subst h
    exact ⟨rfl, rfl⟩
  | x :: rs, i + 1, r, h => by
    have h1 := cellsI_get (rs := rs) (i := i) (r := r) (by simpa using h)
    show (Value.bool x.1 :: Value.slice x.2.1 x.2.2.1 x.2.2.2 :: cellsI rs)[2 * (i + 1)]? = _ ∧ (Value.bool x.1 :: Value.slice x.2.1 x.2.2.1 x.2.2.2 :: cellsI rs)[2 * (i + 1) + 1]? = _
    rw [show 2 * (i + 1) = 2 * i + 1 + 1 by omega, show 2 * i + 1 + 1 + 1 = (2 * i + 1) + 1 + 1 by omega]
    simpa using h1
/-- The memory of the loop that writes into the results. -/
structure KInvI (w wr : World) (gl : Nat) (rs : List (Bool × Option Addr × Nat × Nat)) : Prop where
  ext : Ext w wr
  row : wr.heap[gl]? = some (.cells (cellsI rs).toArray 25 (0, 0))
  own : ∀ r ∈ rs, OA wr w.heap.size r.2.1 r.2.2.2 r.2.2.1
  far : ∀ r ∈ rs, ∀ g, r.2.1 = some ⟨g, 0, none⟩ → g ≠ gl
theorem KInvI.cell {w wr : World} {gl : Nat} {rs : List (Bool × Option Addr × Nat × Nat)} (h : KInvI w wr gl rs) {i : Nat} {r : Bool × Option Addr × Nat × Nat} (hi : rs[i]? = some r) :
    wr.cell? ⟨gl, 2 * i, none⟩ = some (.bool r.1) ∧ wr.cell? ⟨gl, 2 * i + 1, none⟩ = some (.slice r.2.1 r.2.2.1 r.2.2.2) ∧ gl < wr.heap.size := by
  obtain ⟨h1, h2⟩ := cellsI_get hi
  refine ⟨?_, ?_, (Array.getElem?_eq_some_iff.1 h.row).1⟩
  · rw [cell_of_row wr gl _ _ 25 (0, 0) h.row, List.getElem?_toArray, h1]
  · rw [cell_of_row wr gl _ _ 25 (0, 0) h.row, List.getElem?_toArray, h2]
theorem KInvI.step {w wr : World} {gl : Nat} {rs : List (Bool × Option Addr × Nat × Nat)} (h : KInvI w wr gl rs) {r : Bool × Option Addr × Nat × Nat} (hr : r ∈ rs) {k : Nat} (hk : k < r.2.2.1) :
    ∃ g x, r.2.1 = some ⟨g, 0, none⟩ ∧ g < wr.heap.size ∧ x < 4294967296 ∧ wr.cell? ⟨g, k, none⟩ = some (.int .u32 (x : Nat)) ∧ wr.frozen? ⟨g, k, none⟩ = false ∧
      ∀ v : Nat, v < 4294967296 → KInvI w (wr.setCell ⟨g, k, none⟩ (.int .u32 (v : Int))) gl rs := by
  obtain ⟨ds, hl, hv, ho⟩ := h.own r hr
  obtain ⟨g, hA, hB, hlt, hc, hf⟩ := ho.at_ (i := k) (by omega)
  refine ⟨g, ds[k]'(by omega), hA, hlt, valid_get hv k (by omega), hc, hf, fun v hvv => ?_⟩
  refine ⟨Below.setCell h.ext (p := ⟨g, k, none⟩) hB _, ?_, fun r' hr' => ?_, h.far⟩
  · exact (Below.heap_setCell wr ⟨g, k, none⟩ _ gl (fun e => h.far r hr g hA e.symm)).trans h.row
  · obtain ⟨ds', hl', hv', ho'⟩ := h.own r' hr'
    rcases ho'.form with ⟨e1, e2, e3⟩ | ⟨g', cur, e1, hB', _⟩
    · rw [e1, e2]
      subst e3
      exact ⟨[], hl', valid_nil _, Own.none_ _ _ _ _⟩
    · rw [e1] at ho' ⊢
      by_cases hg : g' = g
      · subst hg
        exact ⟨ds'.set k v, by simpa using hl', valid_set hv' _ _ hvv, ho'.set_ _ _⟩
      · exact ⟨ds', hl', hv', ho'.far (Below.heap_setCell wr ⟨g, k, none⟩ _ g' hg)⟩
theorem ZO.oa {w : World} {B : Nat} {s : Bool} {A : Option Addr} {c L : Nat} {x : Int} (h : ZO w B s A c L x) : OA w B A c L := by
  have h1 := h.no.oa
  rwa [← h.len] at h1
end Go.Proofs.Ytcccabgeoaidjaa
