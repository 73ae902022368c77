/- What NaturalKeeps asks: results in new memory, whatever their value; the comparison of two slices. -/
import Derived.Test.YtcccabgeoaidjaaRefs
import Derived.Test.YtcccabgeoaidjaaNatY
namespace Go.Proofs.Ytcccabgeoaidjaa
open Go.RowKit

/-- A slice of the call's own, from block B on, of L digits. -/
def OA (w : World) (B : Nat) (A : Option Addr) (c L : Nat) : Prop := ∃ ds : List Nat, ds.length = L ∧ Valid B32 ds ∧ Own w B .u32 59 A c ds
theorem OA.ext {w w' : World} {B : Nat} {A : Option Addr} {c L : Nat} (h : OA w B A c L) (hx : Ext w w') : OA w' B A c L := by
  obtain ⟨ds, h1, h2, h3⟩ := h
  exact ⟨ds, h1, h2, h3.below hx⟩
theorem OA.mono {w : World} {B B' : Nat} {A : Option Addr} {c L : Nat} (h : OA w B A c L) (hB : B' ≤ B) : OA w B' A c L := by
  obtain ⟨ds, h1, h2, h3⟩ := h
  exact ⟨ds, h1, h2, h3.mono hB⟩
theorem NO.oa {w : World} {B : Nat} {A : Option Addr} {c n : Nat} (h : NO w B A c n) : OA w B A c (digs B32 n).length := ⟨_, rfl, valid_digs B32_two _, h⟩
theorem OA.le {w : World} {B : Nat} {A : Option Addr} {c L : Nat} (h : OA w B A c L) : L ≤ 9223372036854775807 := by
  obtain ⟨ds, rfl, h2, h3⟩ := h
  have := Own.le h3
  unfold maxLen at this
  omega
theorem OA.ne {w : World} {B : Nat} {A : Option Addr} {c L : Nat} (h : OA w B A c L) : ∀ g, A = some ⟨g, 0, none⟩ → g ≠ w.heap.size := by
  rintro g rfl
  obtain ⟨ds, rfl, h2, h3⟩ := h
  rcases h3.form with ⟨h0, _⟩ | ⟨g', cur, hA, _, hh, _⟩
  · cases h0
  · injection hA with hA
    injection hA with e
    subst e
    have := (Array.getElem?_eq_some_iff.1 hh).1
    omega
/-- The call returns a number in new memory. -/
def RetO (w : World) (e : Ending) (w' : World) : Prop := ∃ A c L, e = .returned (.slice A L c) ∧ OA w' w.heap.size A c L ∧ Ext w w'
theorem RetN.o {w : World} {n : Nat} {e : Ending} {w' : World} (h : RetN w n e w') : RetO w e w' := by
  obtain ⟨A, c, rfl, ho, hx⟩ := h
  exact ⟨A, c, _, rfl, ho.oa, hx⟩
theorem sub_o {w : World} {A1 A2 : Option Addr} {c1 c2 L1 L2 a b : Nat} (h1 : NV w A1 c1 L1 a) (h2 : NV w A2 c2 L2 b) (hs : dl a ≤ 17592186044416) :
    Calls Try.prog 54 #[.slice A1 L1 c1, .slice A2 L2 c2] w fun e w' => ∃ A c L ok, e = .returned (.tuple #[.slice A L c, .bool ok]) ∧ OA w' w.heap.size A c L ∧ Ext w w' := by
  rcases Nat.lt_or_ge a b with hl | hl
  · refine (sub_no_v h1 h2 hl).mono ?_
    rintro e w' ⟨rfl, hx⟩
    exact ⟨none, 0, 0, false, rfl, ⟨[], rfl, valid_nil _, Own.none_ _ _ _ _⟩, hx⟩
  · refine (sub_yes_v h1 h2 hs hl).mono ?_
    rintro e w' ⟨A, c, rfl, ho, hx⟩
    exact ⟨A, c, _, true, rfl, ho.oa, hx⟩
/-- A result as a value. -/
def slv (r : Option Addr × Nat × Nat) : Value := .slice r.1 r.2.1 r.2.2
/-- The memory of the loop that writes into the results. -/
structure KInv (w wr : World) (gl : Nat) (rs : List (Option Addr × Nat × Nat)) : Prop where
  ext : Ext w wr
  row : wr.heap[gl]? = some (.cells (rs.map slv).toArray 23 (0, 0))
  own : ∀ r ∈ rs, OA wr w.heap.size r.1 r.2.2 r.2.1
  far : ∀ r ∈ rs, ∀ g, r.1 = some ⟨g, 0, none⟩ → g ≠ gl
theorem KInv.cell {w wr : World} {gl : Nat} {rs : List (Option Addr × Nat × Nat)} (h : KInv w wr gl rs) {i : Nat} {r : Option Addr × Nat × Nat} (hi : rs[i]? = some r) :
    wr.cell? ⟨gl, i, none⟩ = some (.slice r.1 r.2.1 r.2.2) ∧ gl < wr.heap.size := by
  refine ⟨?_, (Array.getElem?_eq_some_iff.1 h.row).1⟩
  rw [cell_of_row wr gl i _ 23 (0, 0) h.row, List.getElem?_toArray, List.getElem?_map, hi]
  rfl
theorem KInv.step {w wr : World} {gl : Nat} {rs : List (Option Addr × Nat × Nat)} (h : KInv w wr gl rs) {r : Option Addr × Nat × Nat} (hr : r ∈ rs) {k : Nat} (hk : k < r.2.1) :
    ∃ g x, r.1 = some ⟨g, 0, none⟩ ∧ g < wr.heap.size ∧ x < 4294967296 ∧ wr.cell? ⟨g, k, none⟩ = some (.int .u32 (x : Nat)) ∧ wr.frozen? ⟨g, k, none⟩ = false ∧
      ∀ v : Nat, v < 4294967296 → KInv w (wr.setCell ⟨g, k, none⟩ (.int .u32 (v : Int))) gl rs := by
  obtain ⟨ds, hl, hv, ho⟩ := h.own r hr
  obtain ⟨g, hA, hB, hlt, hc, hf⟩ := ho.at_ (i := k) (by omega)
  refine ⟨g, ds[k]'(by omega), hA, hlt, valid_get hv k (by omega), hc, hf, fun v hvv => ?_⟩
  refine ⟨Below.setCell h.ext (p := ⟨g, k, none⟩) hB _, ?_, fun r' hr' => ?_, h.far⟩
  · exact (Below.heap_setCell wr ⟨g, k, none⟩ _ gl (fun e => h.far r hr g hA e.symm)).trans h.row
  · obtain ⟨ds', hl', hv', ho'⟩ := h.own r' hr'
    rcases ho'.form with ⟨e1, e2, e3⟩ | ⟨g', cur, e1, hB', _⟩
    · rw [e1, e2]
      subst e3
      exact ⟨[], hl', valid_nil _, Own.none_ _ _ _ _⟩
    · rw [e1] at ho' ⊢
      by_cases hg : g' = g
      · subst hg
        exact ⟨ds'.set k v, by simpa using hl', valid_set hv' _ _ hvv, ho'.set_ _ _⟩
      · exact ⟨ds', hl', hv', ho'.far (Below.heap_setCell wr ⟨g, k, none⟩ _ g' hg)⟩
end Go.Proofs.Ytcccabgeoaidjaa
