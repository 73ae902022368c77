/- Predicates on memory: a slice that reads as a list of numbers, a row of cells that the call made itself, and what is kept while other memory changes. -/
import Derived.Below
import Derived.OneCell
import Derived.Laws.OwnMore
import Derived.Laws.MakeOwn
import Derived.Laws.Rows
import Derived.Laws.CopyRow
import Derived.Deep.Draws
import Derived.Lib.Hide
import Derived.WalkKit
import Derived.Test.YtfnmbhjifdfibaaNum
namespace Go.Proofs.Ytfnmbhjifdfibaa
open Go.RowKit

/-- The numbers as values of a kind. -/
def nums (k : IntKind) (ds : List Nat) : List Value := ds.map fun d : Nat => Value.int k (d : Int)
theorem nums_length (k : IntKind) (ds : List Nat) : (nums k ds).length = ds.length := by simp [nums]
theorem nums_append (k : IntKind) (as bs : List Nat) : nums k (as ++ bs) = nums k as ++ nums k bs := by simp [nums]
theorem nums_get (k : IntKind) (ds : List Nat) (i : Nat) : (nums k ds)[i]? = (ds[i]?).map (fun d : Nat => Value.int k (d : Int)) := by simp [nums]
theorem nums_one (k : IntKind) (ds : List Nat) : ∀ u ∈ nums k ds, u.oneCell' = true := by
  intro u hu
  simp only [nums, List.mem_map] at hu
  obtain ⟨d, _, rfl⟩ := hu
  rfl

/-- A slice at A, of as many elements as ds, reads as ds. -/
def Rd (w : World) (k : IntKind) (A : Option Addr) (ds : List Nat) : Prop :=
  ∀ j (h : j < ds.length), ∃ b off, A = some ⟨b, off, none⟩ ∧ b < w.heap.size ∧ w.cell? ⟨b, off + j, none⟩ = some (.int k (ds[j] : Nat))

section
variable {w w' : World} {k : IntKind} {A : Option Addr} {ds : List Nat}
theorem Rd.nil (w : World) (k : IntKind) (A : Option Addr) : Rd w k A [] := fun j h => absurd h (by simp)
theorem Rd.below (h : Rd w k A ds) (hb : Below w.heap.size w w') : Rd w' k A ds := by
  intro j hj
  obtain ⟨b, off, hA, hlt, hc⟩ := h j hj
  exact ⟨b, off, hA, Nat.lt_of_lt_of_le hlt hb.size, (hb.cell (p := ⟨b, off + j, none⟩) hlt).trans hc⟩
theorem Rd.take (h : Rd w k A ds) (n : Nat) : Rd w k A (ds.take n) := by
  intro j hj
  have hj' : j < ds.length := by simp at hj; omega
  obtain ⟨b, off, hA, hlt, hc⟩ := h j hj'
  exact ⟨b, off, hA, hlt, by simpa using hc⟩
theorem Rd.drop (h : Rd w k A ds) (n : Nat) : Rd w k (A.map (·.add n)) (ds.drop n) := by
  intro j hj
  have hj' : n + j < ds.length := by simp at hj; omega
  obtain ⟨b, off, hA, hlt, hc⟩ := h (n + j) hj'
  subst hA
  refine ⟨b, off + n, ?_, hlt, ?_⟩
  · unfold Addr.add; split <;> simp_all
  · rw [Nat.add_assoc]; simpa using hc
/-- The cut 's[n:]' as the model writes its address. -/
theorem Rd.cut (h : Rd w k A ds) {n c : Nat} (hc : ds.length ≤ c) : Rd w k (if c = n then A else A.map (·.add n)) (ds.drop n) := by
  by_cases hcn : c = n
  · subst hcn
    rw [if_pos rfl, List.drop_of_length_le hc]
    exact Rd.nil _ _ _
  · rw [if_neg hcn]; exact h.drop n
theorem Rd.at_ (h : Rd w k A ds) {j : Nat} (hj : j < ds.length) : ∃ b off, A = some ⟨b, off, none⟩ ∧ b < w.heap.size ∧ w.cell? ⟨b, off + j, none⟩ = some (.int k (ds[j] : Nat)) := h j hj
/-- The address that a cut from the beginning leaves. -/
theorem cut_zero (A : Option Addr) (c : Nat) : (if c = 0 then A else A.map fun x => x.add 0) = A := by
  split
  · rfl
  · cases A <;> simp [Addr.add]
end

/-- Block g is a row of numbers, the call's own: just these cells, none frozen. -/
def Row (w : World) (g : Nat) (k : IntKind) (T : TypeId) (ds : List Nat) : Prop := w.heap[g]? = some (.cells (nums k ds).toArray T (0, 0))

section
variable {w w' : World} {g : Nat} {k : IntKind} {T : TypeId} {ds : List Nat}
theorem Row.lt (h : Row w g k T ds) : g < w.heap.size := by
  rcases Nat.lt_or_ge g w.heap.size with hlt | hge
  · exact hlt
  · unfold Row at h; rw [Array.getElem?_eq_none hge] at h; cases h
theorem Row.cell (h : Row w g k T ds) {i : Nat} (hi : i < ds.length) : w.cell? ⟨g, i, none⟩ = some (.int k (ds[i] : Nat)) := by
  rw [cell_of_row w g i _ T (0, 0) h, List.getElem?_toArray, nums_get, List.getElem?_eq_getElem hi]
  rfl
theorem Row.frozen (h : Row w g k T ds) (i : Nat) : w.frozen? ⟨g, i, none⟩ = false := by
  unfold Row at h
  simp [World.frozen?, h]
theorem Row.set_ (h : Row w g k T ds) (i v : Nat) : Row (w.setCell ⟨g, i, none⟩ (.int k (v : Int))) g k T (ds.set i v) := by
  unfold Row at h ⊢
  simp only [World.setCell, Array.getElem?_modify, h, if_true, Option.map_some]
  simp [nums, List.map_set]
theorem Row.far (h : Row w g k T ds) {p : Addr} (hp : g ≠ p.block) (u : Value) : Row (w.setCell p u) g k T ds := (Below.heap_setCell w p u g hp).trans h
theorem Row.alloc (h : Row w g k T ds) (o : Obj) : Row (w.alloc o) g k T ds := (Below.heap_alloc w o g h.lt).trans h
theorem Row.drew (h : Row w g k T ds) : Row w.drew g k T ds := h
theorem Row.drewN (h : Row w g k T ds) (n : Nat) : Row (w.drewN n) g k T ds := h
theorem Row.below {B : Nat} (h : Row w g k T ds) (hb : Below B w w') (hg : g < B) : Row w' g k T ds := (hb.block g hg).trans h
theorem Row.ext (h : Row w g k T ds) (hb : Below w.heap.size w w') : Row w' g k T ds := h.below hb h.lt
theorem Row.rd (h : Row w g k T ds) (n : Nat) : Rd w k (some ⟨g, 0, none⟩) (ds.take n) := by
  intro j hj
  have hj' : j < ds.length := by simp at hj; omega
  refine ⟨g, 0, rfl, h.lt, ?_⟩
  rw [Nat.zero_add, h.cell hj']
  simp
theorem Row.new (w : World) (k : IntKind) (T : TypeId) (ds : List Nat) : Row (w.alloc (.cells (nums k ds).toArray T)) w.heap.size k T ds := heap_alloc_new w _
end

/-- A slice of the call's own (from block B on), which reads as ds. -/
def Own (w : World) (B : Nat) (k : IntKind) (T : TypeId) (A : Option Addr) (c : Nat) (ds : List Nat) : Prop :=
  w.ownsRow B T 1 (.slice A ds.length c) ds.length (nums k ds)

section
variable {w w' : World} {B g c : Nat} {k : IntKind} {T : TypeId} {A : Option Addr} {ds : List Nat}
theorem Own.form (h : Own w B k T A c ds) : (A = none ∧ c = 0 ∧ ds = []) ∨ ∃ g cur, A = some ⟨g, 0, none⟩ ∧ B ≤ g ∧ w.heap[g]? = some (.cells cur T (0, 0)) ∧ ds.length ≤ c ∧ c ≤ maxLen ∧ cur.size = c ∧ cur.toList.take ds.length = nums k ds := by
  rcases h.2 with ⟨hv, hn⟩ | ⟨g, cap, cur, hv, hg, hh, hn, hc, hs, ht⟩
  · injection hv with h1 _ h3
    exact .inl ⟨h1, h3, List.eq_nil_of_length_eq_zero hn⟩
  · injection hv with h1 _ h3
    subst h3
    exact .inr ⟨g, cur, h1, hg, hh, hn, hc, by simpa using hs, by simpa using ht⟩
theorem Own.le (h : Own w B k T A c ds) : ds.length ≤ c ∧ c ≤ maxLen := by
  rcases h.form with ⟨_, rfl, rfl⟩ | ⟨g, cur, _, _, _, h1, h2, _⟩
  · simp
  · exact ⟨h1, h2⟩
theorem Own.rd (h : Own w B k T A c ds) : Rd w k A ds := by
  rcases h.form with ⟨_, _, rfl⟩ | ⟨g, cur, rfl, _, hh, hn, _, hs, ht⟩
  · exact Rd.nil _ _ _
  · intro j hj
    refine ⟨g, 0, rfl, (Array.getElem?_eq_some_iff.1 hh).1, ?_⟩
    rw [Nat.zero_add, cell_of_row w g j cur T (0, 0) hh]
    have h1 : (cur.toList.take ds.length)[j]? = (nums k ds)[j]? := by rw [ht]
    rw [List.getElem?_take, if_pos hj, nums_get, List.getElem?_eq_getElem hj] at h1
    simpa using h1
theorem Own.none_ (w : World) (B : Nat) (k : IntKind) (T : TypeId) : Own w B k T none 0 [] := World.ownsRow_nil w B T 1
theorem Own.of_row (h : Row w g k T ds) (hB : B ≤ g) (hm : ds.length ≤ maxLen) (n : Nat) : Own w B k T (some ⟨g, 0, none⟩) ds.length (ds.take n) := by
  refine ⟨by simp [nums_length], .inr ⟨g, ds.length, (nums k ds).toArray, rfl, hB, h, by simp; omega, hm, by simp [nums_length], ?_⟩⟩
  simp [nums, List.map_take]
/-- A part from the beginning of an own slice is an own slice. -/
theorem Own.take (h : Own w B k T A c ds) (n : Nat) : (A = none ∧ c = 0 ∧ ds = []) ∨ Own w B k T A c (ds.take n) := by
  rcases h.form with h0 | ⟨g, cur, rfl, hB, hh, hn, hc, hs, ht⟩
  · exact .inl h0
  · refine .inr ⟨by simp [nums_length], .inr ⟨g, c, cur, rfl, hB, hh, by simp; omega, hc, by simpa using hs, ?_⟩⟩
    have h1 : (cur.toList.take ds.length).take n = (nums k ds).take n := by rw [ht]
    rw [List.take_take] at h1
    rw [List.length_take, Nat.mul_one, h1]
    simp [nums, List.map_take]
theorem Own.take' (h : Own w B k T A c ds) (n : Nat) : Own w B k T A c (ds.take n) := by
  rcases h.take n with ⟨rfl, rfl, rfl⟩ | h
  · simpa using h
  · exact h
theorem Own.below (h : Own w B k T A c ds) (hb : Below w.heap.size w w') : Own w' B k T A c ds := by
  refine ⟨h.1, ?_⟩
  rcases h.2 with h2 | ⟨g, cap, cur, hv, hg, hh, r⟩
  · exact .inl h2
  · exact .inr ⟨g, cap, cur, hv, hg, (hb.block g (Array.getElem?_eq_some_iff.1 hh).1).trans hh, r⟩
theorem Own.mono {B' : Nat} (h : Own w B k T A c ds) (hB : B' ≤ B) : Own w B' k T A c ds := by
  refine ⟨h.1, ?_⟩
  rcases h.2 with h2 | ⟨g, cap, cur, hv, hg, r⟩
  · exact .inl h2
  · exact .inr ⟨g, cap, cur, hv, by omega, r⟩
end

/-- Nothing that was there has changed. -/
def Ext (w w' : World) : Prop := Below w.heap.size w w'
theorem Ext.refl (w : World) : Ext w w := Below.refl _ _
theorem Ext.trans {a b c : World} (h : Ext a b) (k : Ext b c) : Ext a c := Below.trans h (Below.mono k h.size)
theorem Ext.of_below {B : Nat} {a b : World} (h : Below B a b) (hB : a.heap.size ≤ B) : Ext a b := h.mono hB
theorem Ext.drew (w : World) : Ext w w.drew := (Below.refl _ _).drew
theorem Ext.alloc (w : World) (o : Obj) : Ext w (w.alloc o) := (Below.refl _ _).alloc (Nat.le_refl _) o
theorem Ext.size {w w' : World} (h : Ext w w') : w.heap.size ≤ w'.heap.size := Below.size h
theorem Ext.grown {w w' : World} (h : w.grownBy w' none) : Ext w w' := (Below.refl _ _).grown h (Nat.le_refl _) (fun _ h => by cases h)
theorem Ext.cell {w w' : World} (h : Ext w w') {p : Addr} {v : Value} (hc : w.cell? p = some v) : w'.cell? p = some v :=
  (Below.cell h (World.block_lt_of_cell? w p hc)).trans hc
theorem Ext.step {w w1 w2 : World} {g : Nat} (hx : Ext w w1) (hb : Below g w1 w2) (hg : w.heap.size ≤ g) : Ext w w2 := Below.trans hx (hb.mono hg)
theorem Own.of_row' {w : World} {B g n : Nat} {k : IntKind} {T : TypeId} {zs ds : List Nat} (h : Row w g k T zs) (hB : B ≤ g) (hm : zs.length ≤ maxLen) (hn : n = zs.length) (he : zs.take ds.length = ds) : Own w B k T (some ⟨g, 0, none⟩) n ds := by
  subst hn
  have := Own.of_row h hB hm ds.length
  rwa [he] at this
/-- Only block g may have changed. -/
structure Only (w w' : World) (g : Nat) : Prop where
  os : w'.os = w.os
  tape : w'.tape = w.tape
  output : w'.output = w.output
  size : w'.heap.size = w.heap.size
  block : ∀ k, k ≠ g → w'.heap[k]? = w.heap[k]?
theorem Only.set_ (w : World) (a : Addr) (u : Value) : Only w (w.setCell a u) a.block :=
  ⟨rfl, rfl, rfl, by simp, fun k hk => Below.heap_setCell w a u k hk⟩
theorem Only.below {w w' : World} {g B : Nat} (h : Only w w' g) (hg : B ≤ g) : Below B w w' :=
  ⟨h.os, h.tape, h.output, by rw [h.size]; exact Nat.le_refl _, fun k hk => h.block k (by omega)⟩
theorem Row.only {w w' : World} {g g' : Nat} {k : IntKind} {T : TypeId} {ds : List Nat} (h : Row w g k T ds) (ho : Only w w' g') (hne : g ≠ g') : Row w' g k T ds :=
  (ho.block g hne).trans h

theorem Row.some_ {w : World} {g : Nat} {k : IntKind} {T : TypeId} {ds : List Nat} (h : Row w g k T ds) {i : Nat} (hi : i < ds.length) : ∃ z : Nat, w.cell? ⟨g, i, none⟩ = some (.int k (z : Int)) := ⟨_, h.cell hi⟩
end Go.Proofs.Ytfnmbhjifdfibaa
