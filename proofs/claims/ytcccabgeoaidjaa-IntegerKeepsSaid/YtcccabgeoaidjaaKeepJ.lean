/- What IntegerKeeps asks: the comparison of two slices; what is known of each operation of its literal. -/
import Derived.Test.YtcccabgeoaidjaaKeepI
import Derived.Test.YtcccabgeoaidjaaIntE
import Derived.Test.YtcccabgeoaidjaaPowI
import Derived.Test.YtcccabgeoaidjaaFlow
namespace Go.Proofs.Ytcccabgeoaidjaa
open Go.RowKit
theorem same_any2 {w : World} {A1 A2 : Option Addr} {c1 c2 : Nat} {ds : List Nat} (h1 : Rd w .u32 A1 ds) (h2 : Rd w .u32 A2 ds) (hl : ds.length ≤ 9223372036854775807) :
    Calls Try.prog 40 #[.slice A1 ds.length c1, .slice A2 ds.length c2] w fun e w' => e = .returned (.bool true) ∧ Ext w w' := by
  have H1 := Lib.hid h1
  have H2 := Lib.hid h2
  clear h1 h2
  go_enter Try.func40, Try.ntmps40
  go_wp2_with fail
  go_loopw [5] (fun i wr => ∃ k : Nat, k ≤ ds.length ∧ i = .int .i64 k ∧ Qt w wr) (fun i _ => ds.length - (intOf i).toNat)
  case atStart => exact ⟨0, Nat.zero_le _, rfl, Qt.refl _⟩
  case round =>
    obtain ⟨k, hk, rfl, nq, rfl⟩ := hrel
    by_cases hlt : k < ds.length
    · obtain ⟨b1, o1, rfl, hb1, hc1⟩ := H1.out.at_ (j := k) hlt
      obtain ⟨b2, o2, rfl, hb2, hc2⟩ := H2.out.at_ (j := k) hlt
      generalize ds[k] = x at *
      go_wp2_with fail
      go_quiet (fail)
      go_wp2_with fail
      go_roundw
      case rel => exact ⟨k + 1, by omega, by go_num, by repeat (first | exact ⟨_, rfl⟩ | apply Qt.drewN)⟩
      case measure => simp [intOf]; omega
    · obtain rfl : k = ds.length := by omega
      go_wp2_with fail
      go_ret
      exact ⟨rfl, Qt.ext ⟨_, rfl⟩⟩


/-- A result in memory from block B on. -/
def ResI (w : World) (B : Nat) (v : Value) : Prop := ∃ s A c L, v = .agg #[.bool s, .slice A L c] ∧ OA w B A c L
theorem RetZ.res {w : World} {x : Int} {e : Ending} {w' : World} (h : RetZ w x e w') {B : Nat} (hB : B ≤ w.heap.size) : ∃ v, e = .returned v ∧ ResI w' B v ∧ Ext w w' := by
  obtain ⟨s, A, c, L, rfl, hz, hx⟩ := h
  exact ⟨_, rfl, ⟨s, A, c, L, rfl, (ZO.oa hz).mono hB⟩, hx⟩
theorem ResI.ext {w w' : World} {B : Nat} {v : Value} (h : ResI w B v) (hx : Ext w w') : ResI w' B v := by
  obtain ⟨s, A, c, L, rfl, ho⟩ := h
  exact ⟨s, A, c, L, rfl, ho.ext hx⟩
/-- Zero, in new memory. -/
def ZeroI (w : World) (B : Nat) (v : Value) : Prop := ∃ s A c L, v = .agg #[.bool s, .slice A L c] ∧ ZO w B s A c L 0
theorem ZeroI.ext {w w' : World} {B : Nat} {v : Value} (h : ZeroI w B v) (hx : Ext w w') : ZeroI w' B v := by
  obtain ⟨s, A, c, L, rfl, ho⟩ := h
  exact ⟨s, A, c, L, rfl, ho.ext hx⟩
/-- A list of the one integer x. -/
def OneL (w : World) (x : Int) (v : Value) : Prop := ∃ g, v = .slice (some ⟨g, 0, none⟩) 1 1 ∧ ZL w (some ⟨g, 0, none⟩) [x]
theorem OneL.ext {w w' : World} {x : Int} {v : Value} (h : OneL w x v) (hx : Ext w w') : OneL w' x v := by
  obtain ⟨g, rfl, hz⟩ := h
  exact ⟨g, rfl, hz.ext hx⟩
/-- The array of the twelve results. -/
def RowI (w : World) (B : Nat) (v : Value) : Prop := ∃ g rs, v = .slice (some ⟨g, 0, none⟩) 12 12 ∧ rs.length = 12 ∧ B ≤ g ∧ w.heap[g]? = some (.cells (cellsI rs).toArray 25 (0, 0)) ∧ (∀ r ∈ rs, OA w B r.2.1 r.2.2.2 r.2.2.1) ∧ ∀ r ∈ rs, ∀ g', r.2.1 = some ⟨g', 0, none⟩ → g' ≠ g
theorem RowI.ext {w w' : World} {B : Nat} {v : Value} (h : RowI w B v) (hx : Ext w w') : RowI w' B v := by
  obtain ⟨g, rs, rfl, hl, hg, hr, ho, hf⟩ := h
  exact ⟨g, rs, rfl, hl, hg, (hx.block _ (Array.getElem?_eq_some_iff.1 hr).1).trans hr, fun r h => (ho r h).ext hx, hf⟩
theorem oneL_new {w : World} {s : Bool} {A : Option Addr} {c L : Nat} {x : Int} (h : ZV w s A c L x) :
    OneL (w.alloc (.cells #[.bool s, .slice A L c] 25)) x (.slice (some ⟨w.heap.size, 0, none⟩) 1 1) := by
  obtain ⟨e0, e1, _⟩ := box_new w (.bool s) (.slice A L c) 25
  refine ⟨_, rfl, fun j hj => ?_⟩
  obtain rfl : j = 0 := by simp at hj; omega
  exact ⟨_, 0, s, A, c, L, rfl, by simp, e0, e1, h.ext (Ext.alloc _ _)⟩
theorem rowI_new {w : World} {B : Nat} (rs : List (Bool × Option Addr × Nat × Nat)) (hl : rs.length = 12) (hB : B ≤ w.heap.size) (ho : ∀ r ∈ rs, OA w B r.2.1 r.2.2.2 r.2.2.1) :
    RowI (w.alloc (.cells (cellsI rs).toArray 25)) B (.slice (some ⟨w.heap.size, 0, none⟩) 12 12) :=
  ⟨_, rs, rfl, hl, hB, heap_alloc_new w _, fun r hr => (ho r hr).ext (Ext.alloc _ _), fun r hr => (ho r hr).ne⟩
/-- What is known of an operation of the literal, by its kind. -/
inductive KJ | val (v : Value) | res | zero | lst | row
def FJ (B : Nat) (x : Int) (ks : List KJ) (j : Nat) (v : Value) (w : World) : Prop :=
  match ks[j]? with
  | some (.val u) => v = u
  | some .res => ResI w B v
  | some .zero => ZeroI w B v
  | some .lst => OneL w x v
  | some .row => RowI w B v
  | none => True
theorem FJ.ext {B : Nat} {x : Int} {ks : List KJ} {j : Nat} {v : Value} {w w' : World} (h : FJ B x ks j v w) (hx : Ext w w') : FJ B x ks j v w' := by
  unfold FJ at h ⊢
  split <;> rename_i hk <;> rw [hk] at h
  · exact h
  · exact ResI.ext h hx
  · exact ZeroI.ext h hx
  · exact OneL.ext h hx
  · exact RowI.ext h hx
  · trivial
end Go.Proofs.Ytcccabgeoaidjaa
