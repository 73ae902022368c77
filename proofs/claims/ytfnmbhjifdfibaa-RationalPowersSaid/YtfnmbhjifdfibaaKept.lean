/- What is kept of a world while boxes (blocks of structs) are written: the rows of numbers. -/
import Derived.Test.YtfnmbhjifdfibaaRefF
import Derived.Test.YtfnmbhjifdfibaaRefG
import Derived.Deep.DeepCutAuto
namespace Go.Proofs.Ytfnmbhjifdfibaa
open Go.RowKit

/-- The type of the cells of a row of numbers. -/
def Plain (T : TypeId) : Prop := T = 139 ∨ T = 3
/-- Rows of numbers are as they were. -/
def Kept (w w' : World) : Prop := ∀ (b : Nat) (cur : Array Value) (T : TypeId) (fr : Nat × Nat), w.heap[b]? = some (.cells cur T fr) → Plain T → w'.heap[b]? = w.heap[b]?
theorem Kept.refl (w : World) : Kept w w := fun _ _ _ _ _ _ => rfl
theorem Kept.trans {a b c : World} (h : Kept a b) (k : Kept b c) : Kept a c := fun g cur T fr hh hp => by
  have h1 := h g cur T fr hh hp
  exact (k g cur T fr (h1.trans hh) hp).trans h1
theorem Ext.kept {w w' : World} (h : Ext w w') : Kept w w' := fun g _ _ _ hh _ => Below.block h g (Array.getElem?_eq_some_iff.1 hh).1
/-- Block g is a box of type T. -/
def IsBox (w : World) (g : Nat) (T : TypeId) : Prop := ∃ cur fr, w.heap[g]? = some (.cells cur T fr)
theorem IsBox.new {w : World} {g : Nat} (vs : Array Value) (T : TypeId) (h : g = w.heap.size) : IsBox (w.alloc (.cells vs T)) g T := by subst h; exact ⟨vs, (0, 0), heap_alloc_new w _⟩
theorem IsBox.lt {w : World} {g : Nat} {T : TypeId} (h : IsBox w g T) : g < w.heap.size := by
  obtain ⟨cur, fr, hh⟩ := h
  exact (Array.getElem?_eq_some_iff.1 hh).1
theorem IsBox.ext {w w' : World} {g : Nat} {T : TypeId} (h : IsBox w g T) (hx : Ext w w') : IsBox w' g T := by
  have hl := h.lt
  obtain ⟨cur, fr, hh⟩ := h
  exact ⟨cur, fr, (Below.block hx g hl).trans hh⟩
theorem IsBox.set_ {w : World} {g : Nat} {T : TypeId} {p : Addr} {v : Value} (h : IsBox w g T) : IsBox (w.setCell p v) g T := by
  obtain ⟨cur, fr, hh⟩ := h
  obtain ⟨c', h'⟩ := cells_set (p := p) (v := v) hh
  exact ⟨c', fr, h'⟩
theorem Kept.set_ {w0 w : World} {g i : Nat} {s : Option Nat} {T : TypeId} {u : Value} (h : Kept w0 w) (hb : IsBox w g T) (ht : ¬ Plain T) : Kept w0 (w.setCell ⟨g, i, s⟩ u) := by
  refine h.trans fun b cur T' fr hh hp => ?_
  by_cases hg : b = g
  · subst hg
    obtain ⟨c1, f1, h1⟩ := hb
    rw [h1] at hh
    injection hh with hh
    injection hh with _ e
    subst e
    exact absurd hp ht
  · exact Below.heap_setCell w ⟨g, i, s⟩ u b hg
theorem plain_int : ¬ Plain 25 := by unfold Plain; decide
theorem plain_Z : ¬ Plain 36 := by unfold Plain; decide

theorem cell_kept {w w' : World} {b o : Nat} (h : w'.heap[b]? = w.heap[b]?) : w'.cell? ⟨b, o, none⟩ = w.cell? ⟨b, o, none⟩ := World.cell?_of_block h
theorem Own.kept {w w' : World} {B c : Nat} {k : IntKind} {T : TypeId} {A : Option Addr} {ds : List Nat} (h : Own w B k T A c ds) (hk : Kept w w') (hp : Plain T) : Own w' B k T A c ds := by
  refine ⟨h.1, ?_⟩
  rcases h.2 with h2 | ⟨g, cap, cur, hv, hg, hr, r⟩
  · exact .inl h2
  · exact .inr ⟨g, cap, cur, hv, hg, (hk _ _ _ _ hr hp).trans hr, r⟩
theorem NO.kept {w w' : World} {B : Nat} {A : Option Addr} {c n : Nat} (h : NO w B A c n) (hk : Kept w w') : NO w' B A c n := Own.kept h hk (.inl rfl)
theorem ZO.kept {w w' : World} {B : Nat} {s : Bool} {A : Option Addr} {c L : Nat} {x : Int} (h : ZO w B s A c L x) (hk : Kept w w') : ZO w' B s A c L x := ⟨h.no.kept hk, h.sign, h.len⟩
theorem BN.kept {w w' : World} {A : Option Addr} {c n : Nat} (h : BN w A c n) (hk : Kept w w') : BN w' A c n := by
  refine ⟨fun j hj => ?_, h.le, h.cap, h.nz, fun g o s e => ?_⟩
  · obtain ⟨b, o, hA, hb, hc⟩ := h.rd j hj
    obtain ⟨cur, fr, hh⟩ := h.ty b o none hA
    have e := hk b cur _ fr hh (.inr rfl)
    exact ⟨b, o, hA, (Array.getElem?_eq_some_iff.1 (e.trans hh)).1, (cell_kept e).trans hc⟩
  · obtain ⟨cur, fr, hh⟩ := h.ty g o s e
    exact ⟨cur, fr, (hk g cur _ fr hh (.inr rfl)).trans hh⟩
theorem RZ.kept {w w' : World} {sg : Int} {A : Option Addr} {c L : Nat} {x : Int} (h : RZ w sg A c L x) (hk : Kept w w') : RZ w' sg A c L x := ⟨h.bn.kept hk, h.sign, h.len⟩

/-- s points to a box of type T that holds the values vs and may be written. -/
def BxW (w : World) (s : Value) (T : TypeId) (vs : Array Value) : Prop :=
  ∃ g, s = .pointer (some ⟨g, 0, none⟩) ∧ IsBox w g T ∧ ∀ (i : Nat) (v : Value), vs[i]? = some v → w.cell? ⟨g, i, none⟩ = some v ∧ w.frozen? ⟨g, i, none⟩ = false
/-- s points to a box that holds the values vs. -/
def Bx (w : World) (s : Value) (vs : Array Value) : Prop := ∃ g, s = .pointer (some ⟨g, 0, none⟩) ∧ ∀ (i : Nat) (v : Value), vs[i]? = some v → w.cell? ⟨g, i, none⟩ = some v
theorem Bx.mk2 {w : World} {g : Nat} {v0 v1 : Value} (c0 : w.cell? ⟨g, 0, none⟩ = some v0) (c1 : w.cell? ⟨g, 1, none⟩ = some v1) : Bx w (.pointer (some ⟨g, 0, none⟩)) #[v0, v1] := by
  refine ⟨g, rfl, fun i v hv => ?_⟩
  match i, hv with
  | 0, hv => simp at hv; subst hv; exact c0
  | 1, hv => simp at hv; subst hv; exact c1
  | i + 2, hv => simp at hv
theorem Ext.set_ {w w' : World} {g i : Nat} {s : Option Nat} {u : Value} (h : Ext w w') (hg : w.heap.size ≤ g) : Ext w (w'.setCell ⟨g, i, s⟩ u) := Below.setCell h (p := ⟨g, i, s⟩) hg u
theorem IsBox.alloc_ {w : World} {g : Nat} {T : TypeId} {o : Obj} (h : IsBox w g T) : IsBox (w.alloc o) g T := h.ext (Ext.alloc _ _)
theorem IsBox.drew_ {w : World} {g : Nat} {T : TypeId} (h : IsBox w g T) : IsBox w.drew g T := h.ext (Ext.drew _)
theorem Ext.alloc_r {a w : World} {o : Obj} (h : Ext a w) : Ext a (w.alloc o) := h.trans (Ext.alloc _ _)
theorem Ext.drew_r {a w : World} (h : Ext a w) : Ext a w.drew := h.trans (Ext.drew _)
theorem Ext.set_r {a w : World} {g i : Nat} {s : Option Nat} {u : Value} (h : Ext a w) (hg : a.heap.size ≤ g) : Ext a (w.setCell ⟨g, i, s⟩ u) := h.set_ hg
theorem Kept.alloc_r {a w : World} {o : Obj} (h : Kept a w) : Kept a (w.alloc o) := h.trans (Ext.alloc _ _).kept
theorem Kept.drew_r {a w : World} (h : Kept a w) : Kept a w.drew := h.trans (Ext.drew _).kept
theorem Kept.setZ {a w : World} {g i : Nat} {s : Option Nat} {u : Value} (hb : IsBox w g 36) (h : Kept a w) : Kept a (w.setCell ⟨g, i, s⟩ u) := h.set_ hb plain_Z
theorem Kept.setI {a w : World} {g i : Nat} {s : Option Nat} {u : Value} (hb : IsBox w g 25) (h : Kept a w) : Kept a (w.setCell ⟨g, i, s⟩ u) := h.set_ hb plain_int
/-- An integer of the reference in a box. -/
def PutRZ (w w' : World) (x : Int) (s : Value) : Prop := ∃ sg A c L, Bx w' s #[.int .i64 sg, .slice A L c] ∧ RZ w' sg A c L x ∧ Ext w w'
/-- An integer in a box. -/
def PutZ (w w' : World) (x : Int) (s : Value) : Prop := ∃ sb A c L, Bx w' s #[.bool sb, .slice A L c] ∧ ZO w' w.heap.size sb A c L x ∧ Ext w w'
theorem PutRZ.mk {w w' : World} {sg x : Int} {A : Option Addr} {c L : Nat} {s : Value} (hb : Bx w' s #[.int .i64 sg, .slice A L c]) (hz : RZ w' sg A c L x) (hx : Ext w w') : PutRZ w w' x s := ⟨sg, A, c, L, hb, hz, hx⟩
theorem PutZ.mk {w w' : World} {sb : Bool} {x : Int} {A : Option Addr} {c L : Nat} {s : Value} (hb : Bx w' s #[.bool sb, .slice A L c]) (hz : ZO w' w.heap.size sb A c L x) (hx : Ext w w') : PutZ w w' x s := ⟨sb, A, c, L, hb, hz, hx⟩
/-- What a new box bears behind a call. -/
theorem box_ext {w w' : World} {vs : Array Value} {T : TypeId} (hx : Ext (w.alloc (.cells vs T)) w') :
    (∀ i v, vs[i]? = some v → w'.cell? ⟨w.heap.size, i, none⟩ = some v ∧ w'.frozen? ⟨w.heap.size, i, none⟩ = false) ∧ IsBox w' w.heap.size T ∧ w.heap.size < w'.heap.size := by
  refine ⟨fun i v hv => ?_, (IsBox.new vs T rfl).ext hx, ?_⟩
  · have h := (box_at w vs T).1 i v hv
    exact ⟨hx.cell h, hx.frozen h ((box_at w vs T).2 i)⟩
  · have := hx.size; simp at this; omega
end Go.Proofs.Ytfnmbhjifdfibaa
