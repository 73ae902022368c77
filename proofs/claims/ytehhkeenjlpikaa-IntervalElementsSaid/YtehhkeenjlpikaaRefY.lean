/- Contracts of the reference for integers; rows that are kept. -/
import Derived.Test.YtehhkeenjlpikaaRefs
import Derived.Test.YtehhkeenjlpikaaIntX
import Derived.Deep.DeepCutAuto
namespace Go.Proofs.Ytehhkeenjlpikaa
open Go.RowKit
/-- An integer of the reference: its sign and the canonical bits of its absolute value. -/
structure RZ (w : World) (sg : Int) (A : Option Addr) (c L : Nat) (x : Int) : Prop where
  bn : BN w A c x.natAbs
  sign : sg = x.sign
  len : L = (digs 2 x.natAbs).length
theorem RZ.ext {w w' : World} {sg : Int} {A : Option Addr} {c L : Nat} {x : Int} (h : RZ w sg A c L x) (hx : Ext w w') : RZ w' sg A c L x := ⟨h.bn.ext hx, h.sign, h.len⟩
/-- The call returns the integer x of the reference, and changes nothing. -/
def RetRZ (w : World) (x : Int) (e : Ending) (w' : World) : Prop := ∃ sg A c L, e = .returned (.agg #[.int .i64 sg, .slice A L c]) ∧ RZ w' sg A c L x ∧ Ext w w'

theorem cells_set {w : World} {p : Addr} {v : Value} {b : Nat} {cur : Array Value} {T : TypeId} {fr : Nat × Nat} (h : w.heap[b]? = some (.cells cur T fr)) : ∃ cur', (w.setCell p v).heap[b]? = some (.cells cur' T fr) := by
  by_cases hb : b = p.block
  · subst hb
    simp only [World.setCell, Array.getElem?_modify, h, if_true, Option.map_some]
    exact ⟨_, rfl⟩
  · exact ⟨cur, (Below.heap_setCell w p v b hb).trans h⟩
/-- Canonical bits do not lie in a cell that holds a zero and a slice: writing it leaves them as they are. -/
theorem BN.set_ {w : World} {A B : Option Addr} {c c' l' n g : Nat} {r1 r2 : Value} (h : BN w A c n) (q1 : w.cell? ⟨g, 0, none⟩ = some (.int .i64 0)) (q2 : w.cell? ⟨g, 1, none⟩ = some (.slice B l' c')) :
    BN ((w.setCell ⟨g, 0, none⟩ r1).setCell ⟨g, 1, none⟩ r2) A c n := by
  refine ⟨fun j hj => ?_, h.le, h.cap, h.nz, fun b o s e => by obtain ⟨cur, fr, hh⟩ := h.ty b o s e; obtain ⟨c1, h1⟩ := cells_set (p := ⟨g, 0, none⟩) (v := r1) hh; obtain ⟨c2, h2⟩ := cells_set (p := ⟨g, 1, none⟩) (v := r2) h1; exact ⟨c2, fr, h2⟩⟩
  obtain ⟨b, o, hA, hb, hc⟩ := h.rd j hj
  refine ⟨b, o, hA, by simpa using hb, ?_⟩
  by_cases hg : b = g
  · subst hg
    have hne1 : ∀ i (hi : i < (digs 2 n).length), o + i ≠ 1 := fun i hi he => by
      obtain ⟨b', o', hA', _, hc'⟩ := h.rd i hi
      rw [hA] at hA'
      injection hA' with hA'
      injection hA' with e1 e2
      subst e1 e2
      rw [he, q2] at hc'
      cases hc'
    have hj0 : o + j ≠ 0 := fun he => by
      have hl2 : ¬ 1 < (digs 2 n).length := fun h1 => hne1 1 h1 (by omega)
      have hjz : j = 0 := by omega
      subst hjz
      rw [he, q1] at hc
      have hd : (digs 2 n)[0] = 0 := by
        injection hc with hc
        injection hc with _ hc
        omega
      apply getLast_digs (B := 2) (by omega) n
      rw [List.getLast?_eq_getElem?, show (digs 2 n).length - 1 = 0 from by omega, List.getElem?_eq_getElem hj, hd]
    have hj1 := hne1 j hj
    have e1 : ∀ k : Nat, (⟨k, 1, none⟩ : Addr) ≠ ⟨k, o + j, none⟩ := fun k he => by injection he with _ h2; omega
    have e0 : ∀ k : Nat, (⟨k, 0, none⟩ : Addr) ≠ ⟨k, o + j, none⟩ := fun k he => by injection he with _ h2; omega
    exact ((World.cell?_setCell_other _ _ _ _ (e1 _)).trans (World.cell?_setCell_other _ _ _ _ (e0 _))).trans hc
  · have hb' : ((w.setCell ⟨g, 0, none⟩ r1).setCell ⟨g, 1, none⟩ r2).heap[b]? = w.heap[b]? :=
      (Below.heap_setCell _ ⟨g, 1, none⟩ _ b hg).trans (Below.heap_setCell _ ⟨g, 0, none⟩ _ b hg)
    exact (World.cell?_of_block hb').trans hc

/-- The end of a function that returns an integer of the reference. -/
theorem fin_rz {w w4 : World} {g c L c' l' : Nat} {A B : Option Addr} {sg x : Int} (hg : w.heap.size ≤ g) (hx : Ext w w4) (hz : RZ w4 sg A c L x)
    (q1 : w4.cell? ⟨g, 0, none⟩ = some (.int .i64 0)) (q2 : w4.cell? ⟨g, 1, none⟩ = some (.slice B l' c')) :
    ((w4.setCell ⟨g, 0, none⟩ (.int .i64 sg)).setCell ⟨g, 1, none⟩ (.slice A L c)).cell? ⟨g, 0, none⟩ = some (.int .i64 sg) ∧
      ((w4.setCell ⟨g, 0, none⟩ (.int .i64 sg)).setCell ⟨g, 1, none⟩ (.slice A L c)).cell? ⟨g, 1, none⟩ = some (.slice A L c) ∧
      RZ ((w4.setCell ⟨g, 0, none⟩ (.int .i64 sg)).setCell ⟨g, 1, none⟩ (.slice A L c)) sg A c L x ∧ Ext w ((w4.setCell ⟨g, 0, none⟩ (.int .i64 sg)).setCell ⟨g, 1, none⟩ (.slice A L c)) := by
  obtain ⟨r5, r6⟩ := res_set (r1 := .int .i64 sg) (r2 := .slice A L c) q1 q2
  exact ⟨r5, r6, ⟨hz.bn.set_ q1 q2, hz.sign, hz.len⟩, Below.setCell (Below.setCell hx (p := ⟨g, 0, none⟩) hg _) (p := ⟨g, 1, none⟩) hg _⟩

theorem box_at (w : World) (vs : Array Value) (T : TypeId) :
    (∀ i v, vs[i]? = some v → (w.alloc (.cells vs T)).cell? ⟨w.heap.size, i, none⟩ = some v) ∧ (∀ i, (w.alloc (.cells vs T)).frozen? ⟨w.heap.size, i, none⟩ = false) := by
  have h := heap_alloc_new w (.cells vs T)
  refine ⟨fun i v hv => ?_, fun i => ?_⟩
  · rw [cell_of_row _ _ i _ _ (0, 0) h]; exact hv
  · simp only [World.frozen?]; rw [h]; simp

theorem sign_mul_bd {x y : Int} : -1 ≤ x.sign * y.sign ∧ x.sign * y.sign ≤ 1 := by
  rcases sign_cases x with ⟨_, a⟩ | ⟨_, a⟩ | ⟨_, a⟩ <;> rcases sign_cases y with ⟨_, b⟩ | ⟨_, b⟩ | ⟨_, b⟩ <;> rw [a, b] <;> decide
theorem sign_mul_neg {x y : Int} (h : x.sign * y.sign < 0) : x * y ≤ 0 := by
  rw [← Int.sign_mul] at h
  rcases sign_cases (x * y) with ⟨a, b⟩ | ⟨a, b⟩ | ⟨a, b⟩ <;> omega
theorem sign_mul_pos {x y : Int} (h : ¬ x.sign * y.sign < 0) : 0 ≤ x * y := by
  rw [← Int.sign_mul] at h
  rcases sign_cases (x * y) with ⟨a, b⟩ | ⟨a, b⟩ | ⟨a, b⟩ <;> omega
theorem sign_bd (x : Int) : -1 ≤ x.sign ∧ x.sign ≤ 1 := by rcases sign_cases x with ⟨_, a⟩ | ⟨_, a⟩ | ⟨_, a⟩ <;> omega
theorem cmpN_bd (a b : Nat) : -1 ≤ cmpN a b ∧ cmpN a b ≤ 1 := by unfold cmpN; split <;> (try split) <;> omega
theorem sign_cmp {x y : Int} (h : x.sign = y.sign) : x.sign * cmpN x.natAbs y.natAbs = cmpZ x y := by
  rcases sign_cases x with ⟨h1, a⟩ | ⟨h1, a⟩ | ⟨h1, a⟩ <;> rcases sign_cases y with ⟨h2, b⟩ | ⟨h2, b⟩ | ⟨h2, b⟩ <;> (try omega) <;> rw [a] <;> unfold cmpN cmpZ <;> (repeat' split) <;> omega

theorem add_sign {x y : Int} (h : 0 ≤ x.sign * y.sign) : (x + y).natAbs = x.natAbs + y.natAbs ∧ (x.sign + y.sign < 0 → x + y ≤ 0) ∧ (¬ x.sign + y.sign < 0 → 0 ≤ x + y) := by
  rcases sign_cases x with ⟨h1, a⟩ | ⟨h1, a⟩ | ⟨h1, a⟩ <;> rcases sign_cases y with ⟨h2, b⟩ | ⟨h2, b⟩ | ⟨h2, b⟩ <;> rw [a, b] at h ⊢ <;> omega
theorem sub_sign {x y : Int} (h : x.sign * y.sign < 0) (hl : y.natAbs ≤ x.natAbs) : (x + y).natAbs = x.natAbs - y.natAbs ∧ (x.sign < 0 → x + y ≤ 0) ∧ (¬ x.sign < 0 → 0 ≤ x + y) := by
  rcases sign_cases x with ⟨h1, a⟩ | ⟨h1, a⟩ | ⟨h1, a⟩ <;> rcases sign_cases y with ⟨h2, b⟩ | ⟨h2, b⟩ | ⟨h2, b⟩ <;> rw [a] <;> rw [a, b] at h <;> omega
/-- The type of the cells of a row of numbers. -/
def Plain (T : TypeId) : Prop := T = 91 ∨ T = 3
/-- Rows of numbers are as they were. -/
def Kept (w w' : World) : Prop := ∀ (b : Nat) (cur : Array Value) (T : TypeId) (fr : Nat × Nat), w.heap[b]? = some (.cells cur T fr) → Plain T → w'.heap[b]? = w.heap[b]?
theorem Kept.refl (w : World) : Kept w w := fun _ _ _ _ _ _ => rfl
theorem Kept.trans {a b c : World} (h : Kept a b) (k : Kept b c) : Kept a c := fun g cur T fr hh hp => by
  have h1 := h g cur T fr hh hp
  exact (k g cur T fr (h1.trans hh) hp).trans h1
theorem Ext.kept {w w' : World} (h : Ext w w') : Kept w w' := fun g _ _ _ hh _ => Below.block h g (Array.getElem?_eq_some_iff.1 hh).1
/-- Block g is a box of type T. -/
def IsBox (w : World) (g : Nat) (T : TypeId) : Prop := ∃ cur fr, w.heap[g]? = some (.cells cur T fr)
theorem IsBox.new {w : World} {g : Nat} (vs : Array Value) (T : TypeId) (h : g = w.heap.size) : IsBox (w.alloc (.cells vs T)) g T := by subst h; exact ⟨vs, (0, 0), heap_alloc_new w _⟩
theorem IsBox.lt {w : World} {g : Nat} {T : TypeId} (h : IsBox w g T) : g < w.heap.size := by
  obtain ⟨cur, fr, hh⟩ := h
  exact (Array.getElem?_eq_some_iff.1 hh).1
theorem IsBox.ext {w w' : World} {g : Nat} {T : TypeId} (h : IsBox w g T) (hx : Ext w w') : IsBox w' g T := by
  have hl := h.lt
  obtain ⟨cur, fr, hh⟩ := h
  exact ⟨cur, fr, (Below.block hx g hl).trans hh⟩
theorem IsBox.set_ {w : World} {g : Nat} {T : TypeId} {p : Addr} {v : Value} (h : IsBox w g T) : IsBox (w.setCell p v) g T := by
  obtain ⟨cur, fr, hh⟩ := h
  obtain ⟨c', h'⟩ := cells_set (p := p) (v := v) hh
  exact ⟨c', fr, h'⟩
theorem Kept.set_ {w0 w : World} {g i : Nat} {s : Option Nat} {T : TypeId} {u : Value} (h : Kept w0 w) (hb : IsBox w g T) (ht : ¬ Plain T) : Kept w0 (w.setCell ⟨g, i, s⟩ u) := by
  refine h.trans fun b cur T' fr hh hp => ?_
  by_cases hg : b = g
  · subst hg
    obtain ⟨c1, f1, h1⟩ := hb
    rw [h1] at hh
    injection hh with hh
    injection hh with _ e
    subst e
    exact absurd hp ht
  · exact Below.heap_setCell w ⟨g, i, s⟩ u b hg
theorem plain_int : ¬ Plain 25 := by unfold Plain; decide
theorem cell_kept {w w' : World} {b o : Nat} (h : w'.heap[b]? = w.heap[b]?) : w'.cell? ⟨b, o, none⟩ = w.cell? ⟨b, o, none⟩ := World.cell?_of_block h
theorem Own.kept {w w' : World} {B c : Nat} {k : IntKind} {T : TypeId} {A : Option Addr} {ds : List Nat} (h : Own w B k T A c ds) (hk : Kept w w') (hp : Plain T) : Own w' B k T A c ds := by
  refine ⟨h.1, ?_⟩
  rcases h.2 with h2 | ⟨g, cap, cur, hv, hg, hr, r⟩
  · exact .inl h2
  · exact .inr ⟨g, cap, cur, hv, hg, (hk _ _ _ _ hr hp).trans hr, r⟩
theorem NO.kept {w w' : World} {B : Nat} {A : Option Addr} {c n : Nat} (h : NO w B A c n) (hk : Kept w w') : NO w' B A c n := Own.kept h hk (.inl rfl)
theorem ZO.kept {w w' : World} {B : Nat} {s : Bool} {A : Option Addr} {c L : Nat} {x : Int} (h : ZO w B s A c L x) (hk : Kept w w') : ZO w' B s A c L x := ⟨h.no.kept hk, h.sign, h.len⟩
theorem BN.kept {w w' : World} {A : Option Addr} {c n : Nat} (h : BN w A c n) (hk : Kept w w') : BN w' A c n := by
  refine ⟨fun j hj => ?_, h.le, h.cap, h.nz, fun g o s e => ?_⟩
  · obtain ⟨b, o, hA, hb, hc⟩ := h.rd j hj
    obtain ⟨cur, fr, hh⟩ := h.ty b o none hA
    have e := hk b cur _ fr hh (.inr rfl)
    exact ⟨b, o, hA, (Array.getElem?_eq_some_iff.1 (e.trans hh)).1, (cell_kept e).trans hc⟩
  · obtain ⟨cur, fr, hh⟩ := h.ty g o s e
    exact ⟨cur, fr, (hk g cur _ fr hh (.inr rfl)).trans hh⟩
theorem RZ.kept {w w' : World} {sg : Int} {A : Option Addr} {c L : Nat} {x : Int} (h : RZ w sg A c L x) (hk : Kept w w') : RZ w' sg A c L x := ⟨h.bn.kept hk, h.sign, h.len⟩

/-- s points to a box of type T that holds the values vs and may be written. -/
def BxW (w : World) (s : Value) (T : TypeId) (vs : Array Value) : Prop :=
  ∃ g, s = .pointer (some ⟨g, 0, none⟩) ∧ IsBox w g T ∧ ∀ (i : Nat) (v : Value), vs[i]? = some v → w.cell? ⟨g, i, none⟩ = some v ∧ w.frozen? ⟨g, i, none⟩ = false
/-- s points to a box that holds the values vs. -/
def Bx (w : World) (s : Value) (vs : Array Value) : Prop := ∃ g, s = .pointer (some ⟨g, 0, none⟩) ∧ ∀ (i : Nat) (v : Value), vs[i]? = some v → w.cell? ⟨g, i, none⟩ = some v
theorem Bx.mk2 {w : World} {g : Nat} {v0 v1 : Value} (c0 : w.cell? ⟨g, 0, none⟩ = some v0) (c1 : w.cell? ⟨g, 1, none⟩ = some v1) : Bx w (.pointer (some ⟨g, 0, none⟩)) #[v0, v1] := by
  refine ⟨g, rfl, fun i v hv => ?_⟩
  match i, hv with
  | 0, hv => simp at hv; subst hv; exact c0
  | 1, hv => simp at hv; subst hv; exact c1
  | i + 2, hv => simp at hv
theorem Ext.set_ {w w' : World} {g i : Nat} {s : Option Nat} {u : Value} (h : Ext w w') (hg : w.heap.size ≤ g) : Ext w (w'.setCell ⟨g, i, s⟩ u) := Below.setCell h (p := ⟨g, i, s⟩) hg u
theorem IsBox.alloc_ {w : World} {g : Nat} {T : TypeId} {o : Obj} (h : IsBox w g T) : IsBox (w.alloc o) g T := h.ext (Ext.alloc _ _)
theorem IsBox.drew_ {w : World} {g : Nat} {T : TypeId} (h : IsBox w g T) : IsBox w.drew g T := h.ext (Ext.drew _)
theorem Ext.alloc_r {a w : World} {o : Obj} (h : Ext a w) : Ext a (w.alloc o) := h.trans (Ext.alloc _ _)
theorem Ext.drew_r {a w : World} (h : Ext a w) : Ext a w.drew := h.trans (Ext.drew _)
theorem Ext.set_r {a w : World} {g i : Nat} {s : Option Nat} {u : Value} (h : Ext a w) (hg : a.heap.size ≤ g) : Ext a (w.setCell ⟨g, i, s⟩ u) := h.set_ hg
theorem Kept.alloc_r {a w : World} {o : Obj} (h : Kept a w) : Kept a (w.alloc o) := h.trans (Ext.alloc _ _).kept
theorem Kept.drew_r {a w : World} (h : Kept a w) : Kept a w.drew := h.trans (Ext.drew _).kept
theorem Kept.setI {a w : World} {g i : Nat} {s : Option Nat} {u : Value} (hb : IsBox w g 25) (h : Kept a w) : Kept a (w.setCell ⟨g, i, s⟩ u) := h.set_ hb plain_int
/-- An integer of the reference in a box. -/
def PutRZ (w w' : World) (x : Int) (s : Value) : Prop := ∃ sg A c L, Bx w' s #[.int .i64 sg, .slice A L c] ∧ RZ w' sg A c L x ∧ Ext w w'
/-- An integer in a box. -/
def PutZ (w w' : World) (x : Int) (s : Value) : Prop := ∃ sb A c L, Bx w' s #[.bool sb, .slice A L c] ∧ ZO w' w.heap.size sb A c L x ∧ Ext w w'
theorem PutRZ.mk {w w' : World} {sg x : Int} {A : Option Addr} {c L : Nat} {s : Value} (hb : Bx w' s #[.int .i64 sg, .slice A L c]) (hz : RZ w' sg A c L x) (hx : Ext w w') : PutRZ w w' x s := ⟨sg, A, c, L, hb, hz, hx⟩
theorem PutZ.mk {w w' : World} {sb : Bool} {x : Int} {A : Option Addr} {c L : Nat} {s : Value} (hb : Bx w' s #[.bool sb, .slice A L c]) (hz : ZO w' w.heap.size sb A c L x) (hx : Ext w w') : PutZ w w' x s := ⟨sb, A, c, L, hb, hz, hx⟩
/-- What a new box bears behind a call. -/
theorem box_ext {w w' : World} {vs : Array Value} {T : TypeId} (hx : Ext (w.alloc (.cells vs T)) w') :
    (∀ i v, vs[i]? = some v → w'.cell? ⟨w.heap.size, i, none⟩ = some v ∧ w'.frozen? ⟨w.heap.size, i, none⟩ = false) ∧ IsBox w' w.heap.size T ∧ w.heap.size < w'.heap.size := by
  refine ⟨fun i v hv => ?_, (IsBox.new vs T rfl).ext hx, ?_⟩
  · have h := (box_at w vs T).1 i v hv
    exact ⟨hx.cell h, hx.frozen h ((box_at w vs T).2 i)⟩
  · have := hx.size; simp at this; omega
end Go.Proofs.Ytehhkeenjlpikaa
