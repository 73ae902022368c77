/- Contracts of package integer. -/
import Derived.Deep.RegionHeld3
import Derived.Test.YtehhkeenjlpikaaGreatNatY
namespace Go.Proofs.YtehhkeenjlpikaaGreat
open Go.RowKit
/-- An integer that lies in memory: its sign and the digits of its absolute value; 0 may bear a sign. -/
structure ZV (w : World) (s : Bool) (A : Option Addr) (c L : Nat) (x : Int) : Prop where
  nv : NV w A c L x.natAbs
  neg : s = true → x ≤ 0
  pos : s = false → 0 ≤ x
/-- An integer in canonical form in memory of the call's own. -/
structure ZO (w : World) (B : Nat) (s : Bool) (A : Option Addr) (c L : Nat) (x : Int) : Prop where
  no : NO w B A c x.natAbs
  sign : s = decide (x < 0)
  len : L = (digs B32 x.natAbs).length
theorem ZV.ext {w w' : World} {s : Bool} {A : Option Addr} {c L : Nat} {x : Int} (h : ZV w s A c L x) (hx : Ext w w') : ZV w' s A c L x := ⟨h.nv.ext hx, h.neg, h.pos⟩
theorem ZO.ext {w w' : World} {B : Nat} {s : Bool} {A : Option Addr} {c L : Nat} {x : Int} (h : ZO w B s A c L x) (hx : Ext w w') : ZO w' B s A c L x := ⟨h.no.ext hx, h.sign, h.len⟩
theorem ZO.mono {w : World} {B B' : Nat} {s : Bool} {A : Option Addr} {c L : Nat} {x : Int} (h : ZO w B s A c L x) (hB : B' ≤ B) : ZO w B' s A c L x := ⟨Own.mono h.no hB, h.sign, h.len⟩
theorem ZO.zv {w : World} {B : Nat} {s : Bool} {A : Option Addr} {c L : Nat} {x : Int} (h : ZO w B s A c L x) : ZV w s A c L x := by
  refine ⟨by rw [h.len]; exact h.no.nv, fun hs => ?_, fun hs => ?_⟩
  · have := h.sign; rw [hs] at this; have := of_decide_eq_true this.symm; omega
  · have := h.sign; rw [hs] at this; have := of_decide_eq_false this.symm; omega
/-- The call returns the integer x in new memory, and changes nothing else. -/
def RetZ (w : World) (x : Int) (e : Ending) (w' : World) : Prop := ∃ s A c L, e = .returned (.agg #[.bool s, .slice A L c]) ∧ ZO w' w.heap.size s A c L x ∧ Ext w w'

theorem box_new (w : World) (v1 v2 : Value) (T : TypeId) :
    (w.alloc (.cells #[v1, v2] T)).cell? ⟨w.heap.size, 0, none⟩ = some v1 ∧ (w.alloc (.cells #[v1, v2] T)).cell? ⟨w.heap.size, 1, none⟩ = some v2 ∧
      (∀ i, (w.alloc (.cells #[v1, v2] T)).frozen? ⟨w.heap.size, i, none⟩ = false) := by
  have h := heap_alloc_new w (.cells #[v1, v2] T)
  refine ⟨?_, ?_, fun i => ?_⟩
  · rw [cell_of_row _ _ 0 _ _ (0, 0) h]; rfl
  · rw [cell_of_row _ _ 1 _ _ (0, 0) h]; rfl
  · simp only [World.frozen?]; rw [h]; simp
theorem Ext.frozen {w w' : World} (h : Ext w w') {p : Addr} {v : Value} (hc : w.cell? p = some v) (hf : w.frozen? p = false) : w'.frozen? p = false :=
  (Below.frozen h (World.block_lt_of_cell? w p hc)).trans hf

theorem signed_any {w : World} {A : Option Addr} {c L : Nat} {s : Bool} :
    Calls Tryz.prog 105 #[.bool s, .slice A L c] w fun e w' => e = .returned (.agg #[.bool (s && decide (0 < L)), .slice A L c]) ∧ Ext w w' := by
  cases s
  · go_enter Tryz.func105, Tryz.ntmps105
    go_wp2_with fail
    refine bodyPost_ret (v := .agg #[.bool false, .slice A L c]) (by simp [results, Tryz.results105, go_sem]) rfl ⟨rfl, Ext.alloc _ _⟩
  · go_enter Tryz.func105, Tryz.ntmps105
    go_wp2_with fail
    refine bodyPost_ret (v := .agg #[.bool (decide (0 < L)), .slice A L c]) (by simp [results, Tryz.results105, go_sem]) rfl ⟨rfl, Ext.alloc _ _⟩

/-- Two boxes, and a result's cell behind them that is written. -/
theorem two_set {w w4 : World} {g : Nat} {v1 v2 u1 u2 r1 r2 : Value} (hg : w.heap.size ≤ g) (hx : Ext w w4) (h1 : w4.cell? ⟨g, 0, none⟩ = some v1) (h2 : w4.cell? ⟨g, 1, none⟩ = some v2)
    (h3 : w4.cell? ⟨g + 1, 0, none⟩ = some u1) (h4 : w4.cell? ⟨g + 1, 1, none⟩ = some u2) :
    Ext w ((w4.setCell ⟨g + 1 + 1, 0, none⟩ r1).setCell ⟨g + 1 + 1, 1, none⟩ r2) ∧ ((w4.setCell ⟨g + 1 + 1, 0, none⟩ r1).setCell ⟨g + 1 + 1, 1, none⟩ r2).cell? ⟨g, 0, none⟩ = some v1 ∧
      ((w4.setCell ⟨g + 1 + 1, 0, none⟩ r1).setCell ⟨g + 1 + 1, 1, none⟩ r2).cell? ⟨g, 1, none⟩ = some v2 ∧ ((w4.setCell ⟨g + 1 + 1, 0, none⟩ r1).setCell ⟨g + 1 + 1, 1, none⟩ r2).cell? ⟨g + 1, 0, none⟩ = some u1 ∧
      ((w4.setCell ⟨g + 1 + 1, 0, none⟩ r1).setCell ⟨g + 1 + 1, 1, none⟩ r2).cell? ⟨g + 1, 1, none⟩ = some u2 := by
  have hb : ∀ k, k ≠ g + 1 + 1 → ((w4.setCell ⟨g + 1 + 1, 0, none⟩ r1).setCell ⟨g + 1 + 1, 1, none⟩ r2).heap[k]? = w4.heap[k]? := fun k hk =>
    (Below.heap_setCell _ ⟨g + 1 + 1, 1, none⟩ _ k hk).trans (Below.heap_setCell _ ⟨g + 1 + 1, 0, none⟩ _ k hk)
  have hc : ∀ k i, k ≠ g + 1 + 1 → ((w4.setCell ⟨g + 1 + 1, 0, none⟩ r1).setCell ⟨g + 1 + 1, 1, none⟩ r2).cell? ⟨k, i, none⟩ = w4.cell? ⟨k, i, none⟩ := fun k i hk => World.cell?_of_block (hb k hk)
  refine ⟨Below.setCell (Below.setCell hx (p := ⟨g + 1 + 1, 0, none⟩) (by show _ ≤ g + 1 + 1; omega) _) (p := ⟨g + 1 + 1, 1, none⟩) (by show _ ≤ g + 1 + 1; omega) _, ?_, ?_, ?_, ?_⟩
  · rw [hc _ _ (by omega)]; exact h1
  · rw [hc _ _ (by omega)]; exact h2
  · rw [hc _ _ (by omega)]; exact h3
  · rw [hc _ _ (by omega)]; exact h4
/-- The result's cell reads as it was written. -/
theorem res_set {w4 : World} {g : Nat} {r1 r2 q1 q2 : Value} (h1 : w4.cell? ⟨g, 0, none⟩ = some q1) (h2 : w4.cell? ⟨g, 1, none⟩ = some q2) :
    ((w4.setCell ⟨g, 0, none⟩ r1).setCell ⟨g, 1, none⟩ r2).cell? ⟨g, 0, none⟩ = some r1 ∧ ((w4.setCell ⟨g, 0, none⟩ r1).setCell ⟨g, 1, none⟩ r2).cell? ⟨g, 1, none⟩ = some r2 := by
  constructor
  · rw [World.cell?_setCell_other _ _ _ _ (by simp)]
    exact World.cell?_setCell_same _ _ _ h1
  · exact World.cell?_setCell_same _ _ _ ((World.cell?_setCell_other _ _ _ _ (by simp)).trans h2)
theorem Own.set_far {w : World} {B c : Nat} {k : IntKind} {T : TypeId} {A : Option Addr} {ds : List Nat} (h : Own w B k T A c ds) {p : Addr} (hp : p.block < B) (u : Value) : Own (w.setCell p u) B k T A c ds := by
  refine ⟨h.1, ?_⟩
  rcases h.2 with h2 | ⟨g, cap, cur, hv, hg, hr, r⟩
  · exact .inl h2
  · exact .inr ⟨g, cap, cur, hv, hg, (Below.heap_setCell w p u g (by omega)).trans hr, r⟩
theorem len_pos (n : Nat) : decide (0 < (digs B32 n).length) = decide (n ≠ 0) := by
  have h := digs_eq_nil B32_two (n := n)
  rw [decide_eq_decide]
  rw [List.length_pos_iff]
  exact not_congr h
theorem mul_sign {s1 s2 : Bool} {x y : Int} (n1 : s1 = true → x ≤ 0) (p1 : s1 = false → 0 ≤ x) (n2 : s2 = true → y ≤ 0) (p2 : s2 = false → 0 ≤ y) :
    ((!s1 == s2) && decide (0 < (digs B32 (x.natAbs * y.natAbs)).length)) = decide (x * y < 0) := by
  rw [len_pos]
  have hz : (x.natAbs * y.natAbs ≠ 0) ↔ x * y ≠ 0 := by rw [← Int.natAbs_mul]; omega
  have hz' : decide (x.natAbs * y.natAbs ≠ 0) = decide (x * y ≠ 0) := decide_eq_decide.2 hz
  rw [hz']
  clear hz hz'
  cases s1 <;> cases s2
  · have h := Int.mul_nonneg (p1 rfl) (p2 rfl)
    exact (decide_eq_false (by omega)).symm
  · have h := Int.mul_nonneg (p1 rfl) (Int.neg_nonneg_of_nonpos (n2 rfl))
    rw [Int.mul_neg] at h
    show decide (x * y ≠ 0) = decide (x * y < 0)
    rw [decide_eq_decide]
    omega
  · have h := Int.mul_nonneg (Int.neg_nonneg_of_nonpos (n1 rfl)) (p2 rfl)
    rw [Int.neg_mul] at h
    show decide (x * y ≠ 0) = decide (x * y < 0)
    rw [decide_eq_decide]
    omega
  · have h := Int.mul_nonneg_of_nonpos_of_nonpos (n1 rfl) (n2 rfl)
    exact (decide_eq_false (by omega)).symm

theorem mul_z {w : World} {s1 s2 : Bool} {A1 A2 : Option Addr} {c1 c2 L1 L2 : Nat} {x y : Int} (h1 : ZV w s1 A1 c1 L1 x) (h2 : ZV w s2 A2 c2 L2 y) (hs : dl x.natAbs + dl y.natAbs ≤ 17592186044416) (hm : min (dl x.natAbs) (dl y.natAbs) < 48) :
    Calls Tryz.prog 78 #[.agg #[.bool s1, .slice A1 L1 c1], .agg #[.bool s2, .slice A2 L2 c2]] w (RetZ w (x * y)) := by
  go_enter Tryz.func78, Tryz.ntmps78
  go_wp2_with fail
  obtain ⟨w0, hw0⟩ : ∃ w0 : World, w0 = ((w.alloc (.cells #[.bool s1, .slice A1 L1 c1] 25)).alloc (.cells #[.bool s2, .slice A2 L2 c2] 25)).alloc (.cells #[.bool false, .slice none 0 0] 25) := ⟨_, rfl⟩
  rw [← hw0]
  have b1 := box_new w (.bool s1) (.slice A1 L1 c1) 25
  have b2 := box_new (w.alloc (.cells #[.bool s1, .slice A1 L1 c1] 25)) (.bool s2) (.slice A2 L2 c2) 25
  have b3 := box_new ((w.alloc (.cells #[.bool s1, .slice A1 L1 c1] 25)).alloc (.cells #[.bool s2, .slice A2 L2 c2] 25)) (.bool false) (.slice none 0 0) 25
  rw [← hw0] at b3
  have x2 : Ext ((w.alloc (.cells #[.bool s1, .slice A1 L1 c1] 25)).alloc (.cells #[.bool s2, .slice A2 L2 c2] 25)) w0 := by rw [hw0]; exact Ext.alloc _ _
  have x1 : Ext (w.alloc (.cells #[.bool s1, .slice A1 L1 c1] 25)) w0 := (Ext.alloc _ _).trans x2
  have x0 : Ext w w0 := (Ext.alloc _ _).trans x1
  have e1 := x1.cell b1.1
  have e2 := x1.cell b1.2.1
  have e3 := x2.cell b2.1
  have e4 := x2.cell b2.2.1
  have e5 := b3.1
  have e6 := b3.2.1
  have f5 := b3.2.2 0
  have f6 := b3.2.2 1
  simp at e3 e4 e5 e6 f5 f6
  clear hw0 b1 b2 b3 x1 x2
  go_region_held3 (fun w' => Ext w w' ∧ w'.cell? ⟨w.heap.size, 0, none⟩ = some (.bool s1) ∧ w'.cell? ⟨w.heap.size, 1, none⟩ = some (.slice A1 L1 c1) ∧ w'.cell? ⟨w.heap.size + 1, 0, none⟩ = some (.bool s2) ∧ w'.cell? ⟨w.heap.size + 1, 1, none⟩ = some (.slice A2 L2 c2))
    (first | exact ⟨x0.trans (Ext.drew _), e1, e2, e3, e4⟩ | exact ⟨x0.trans hx4, hx4.cell e1, hx4.cell e2, hx4.cell e3, hx4.cell e4⟩ | exact ⟨x0.trans hx3, hx3.cell e1, hx3.cell e2, hx3.cell e3, hx3.cell e4⟩ | exact two_set (Nat.le_refl _) (x0.trans hx4) (hx4.cell e1) (hx4.cell e2) (hx4.cell e3) (hx4.cell e4))
    (first
      | (go_at_call 106; refine (mul_v (h1.nv.ext (x0.trans (Ext.drew _))) (h2.nv.ext (x0.trans (Ext.drew _))) hs hm).mono ?_; rintro e w3 ⟨A, c, rfl, ho, hx3'⟩; have hx3 := (Ext.drew w0).trans hx3')
      | (go_at_call 105; refine signed_any.mono ?_; rintro e w4 ⟨rfl, hx4'⟩; have hx4 := hx3.trans hx4'; have f5' := hx4.frozen e5 f5; have f6' := hx4.frozen e6 f6; have e5' := hx4.cell e5; have e6' := hx4.cell e6))
  obtain ⟨r5, r6⟩ := res_set (r1 := .bool (!s1 == s2 && decide (0 < (digs B32 (x.natAbs * y.natAbs)).length))) (r2 := .slice A (digs B32 (x.natAbs * y.natAbs)).length c) e5' e6'
  have hlt : w.heap.size + 1 + 1 < w0.heap.size := World.block_lt_of_cell? w0 _ e5
  have ho' := ((Own.below ho hx4').set_far (p := ⟨w.heap.size + 1 + 1, 0, none⟩) hlt (.bool (!s1 == s2 && decide (0 < (digs B32 (x.natAbs * y.natAbs)).length)))).set_far (p := ⟨w.heap.size + 1 + 1, 1, none⟩) hlt (.slice A (digs B32 (x.natAbs * y.natAbs)).length c)
  have hxx := (two_set (r1 := .bool (!s1 == s2 && decide (0 < (digs B32 (x.natAbs * y.natAbs)).length))) (r2 := .slice A (digs B32 (x.natAbs * y.natAbs)).length c) (Nat.le_refl _) (x0.trans hx4) (hx4.cell e1) (hx4.cell e2) (hx4.cell e3) (hx4.cell e4)).1
  go_wp2_with fail
  refine bodyPost_ret (v := .agg #[.bool (!s1 == s2 && decide (0 < (digs B32 (x.natAbs * y.natAbs)).length)), .slice A (digs B32 (x.natAbs * y.natAbs)).length c]) (by simp [results, Tryz.results78, go_sem, r5, r6]) rfl ?_
  exact ⟨_, _, _, _, rfl, ⟨by rw [Int.natAbs_mul]; exact Own.mono ho' (Nat.le_of_lt (Nat.lt_trans (Nat.lt_of_lt_of_le (Nat.lt_succ_self _) (Nat.le_succ _)) hlt)), mul_sign h1.neg h1.pos h2.neg h2.pos, by rw [Int.natAbs_mul]⟩, hxx⟩
/-- The end of a function that returns an integer: its cell is written. -/
theorem fin_z {w w4 : World} {B g c L : Nat} {A : Option Addr} {s : Bool} {x : Int} {v1 v2 : Value} (hg : w.heap.size ≤ g) (hB : g < B) (hx : Ext w w4) (hz : ZO w4 B s A c L x)
    (q1 : w4.cell? ⟨g, 0, none⟩ = some v1) (q2 : w4.cell? ⟨g, 1, none⟩ = some v2) :
    ((w4.setCell ⟨g, 0, none⟩ (.bool s)).setCell ⟨g, 1, none⟩ (.slice A L c)).cell? ⟨g, 0, none⟩ = some (.bool s) ∧
      ((w4.setCell ⟨g, 0, none⟩ (.bool s)).setCell ⟨g, 1, none⟩ (.slice A L c)).cell? ⟨g, 1, none⟩ = some (.slice A L c) ∧
      ZO ((w4.setCell ⟨g, 0, none⟩ (.bool s)).setCell ⟨g, 1, none⟩ (.slice A L c)) w.heap.size s A c L x ∧ Ext w ((w4.setCell ⟨g, 0, none⟩ (.bool s)).setCell ⟨g, 1, none⟩ (.slice A L c)) := by
  obtain ⟨r5, r6⟩ := res_set (r1 := .bool s) (r2 := .slice A L c) q1 q2
  refine ⟨r5, r6, ⟨Own.mono ((Own.set_far hz.no (p := ⟨g, 0, none⟩) hB _).set_far (p := ⟨g, 1, none⟩) hB _) (by omega), hz.sign, hz.len⟩, ?_⟩
  exact Below.setCell (Below.setCell hx (p := ⟨g, 0, none⟩) hg _) (p := ⟨g, 1, none⟩) hg _
/-- 'signed' of a normal number. -/
theorem zo_signed {w : World} {B c n : Nat} {A : Option Addr} {s : Bool} {x : Int} (ho : NO w B A c n) (hn : x.natAbs = n) (h1 : s = true → x ≤ 0) (h2 : s = false → 0 ≤ x) :
    ZO w B (s && decide (0 < (digs B32 n).length)) A c (digs B32 n).length x := by
  refine ⟨by rw [hn]; exact ho, ?_, by rw [hn]⟩
  rw [len_pos]
  cases s
  · exact (decide_eq_false (by have := h2 rfl; omega)).symm
  · show decide (n ≠ 0) = _
    have := h1 rfl
    rw [decide_eq_decide]
    omega

theorem from_z {w : World} {s : Bool} {A : Option Addr} {c L : Nat} {x : Int} (h : ZV w s A c L x) (hs : dl x.natAbs ≤ 17592186044416) :
    Calls Tryz.prog 99 #[.bool s, .slice A L c] w (RetZ w x) := by
  go_enter Tryz.func99, Tryz.ntmps99
  go_wp2_with fail
  obtain ⟨w0, hw0⟩ : ∃ w0 : World, w0 = (w.alloc (.cells #[.bool false, .slice none 0 0] 25)) := ⟨_, rfl⟩
  rw [← hw0]
  have b0 := box_new w (.bool false) (.slice none 0 0) 25
  rw [← hw0] at b0
  have y0 : Ext w w0 := by rw [hw0]; exact Ext.alloc _ _
  have x0 : Ext w w0 := y0
  have q1 := b0.1
  have q2 := b0.2.1
  have f1 := b0.2.2 0
  have f2 := b0.2.2 1
  clear hw0 b0 y0
  refine (normal_v (h.nv.ext x0) (by omega)).mono ?_
  rintro e w3 ⟨A3, c3, rfl, ho, hx3⟩
  go_wp2_with fail
  refine signed_any.mono ?_
  rintro e w4 ⟨rfl, hx4'⟩
  have hx4 := hx3.trans hx4'
  have hB := World.block_lt_of_cell? w0 _ q1
  have hz := zo_signed (ho.ext hx4') rfl h.neg h.pos
  have p1 := hx4.frozen q1 f1
  have p2 := hx4.frozen q2 f2
  have t1 := hx4.cell q1
  have t2 := hx4.cell q2
  obtain ⟨r5, r6, hz', hxx⟩ := fin_z (Nat.le_refl _) hB (x0.trans hx4) hz t1 t2
  generalize (s && decide (0 < (digs B32 x.natAbs).length)) = s' at *
  generalize (digs B32 x.natAbs).length = L' at *
  go_wp2_with fail
  refine bodyPost_ret (v := .agg #[.bool s', .slice A3 L' c3]) (by simp [results, Tryz.results99, go_sem, r5, r6]) rfl ?_
  exact ⟨_, _, _, _, rfl, hz', hxx⟩

theorem ZV.neg_ {w : World} {s : Bool} {A : Option Addr} {c L : Nat} {x : Int} (h : ZV w s A c L x) : ZV w (!s) A c L (-x) := by
  refine ⟨by rw [Int.natAbs_neg]; exact h.nv, fun hs => ?_, fun hs => ?_⟩
  · have := h.pos (by simpa using hs); omega
  · have := h.neg (by simpa using hs); omega
theorem ZV.abs_ {w : World} {s : Bool} {A : Option Addr} {c L : Nat} {x : Int} (h : ZV w s A c L x) : ZV w false A c L (x.natAbs : Int) :=
  ⟨by rw [Int.natAbs_natCast]; exact h.nv, (fun hs => by cases hs), fun _ => Int.natCast_nonneg _⟩

theorem znormal_z {w : World} {s : Bool} {A : Option Addr} {c L : Nat} {x : Int} (h : ZV w s A c L x) (hs : dl x.natAbs ≤ 17592186044416) :
    Calls Tryz.prog 101 #[.agg #[.bool s, .slice A L c]] w (RetZ w x) := by
  go_enter Tryz.func101, Tryz.ntmps101
  go_wp2_with fail
  obtain ⟨w0, hw0⟩ : ∃ w0 : World, w0 = ((w.alloc (.cells #[.bool s, .slice A L c] 25)).alloc (.cells #[.bool false, .slice none 0 0] 25)) := ⟨_, rfl⟩
  rw [← hw0]
  have b0 := box_new w (.bool s) (.slice A L c) 25
  have b1 := box_new (w.alloc (.cells #[.bool s, .slice A L c] 25)) (.bool false) (.slice none 0 0) 25
  rw [← hw0] at b1
  have y1 : Ext (w.alloc (.cells #[.bool s, .slice A L c] 25)) w0 := by rw [hw0]; exact Ext.alloc _ _
  have y0 : Ext w w0 := (Ext.alloc _ _).trans y1
  have x0 : Ext w w0 := y0
  have e0a := y1.cell b0.1
  have e0b := y1.cell b0.2.1
  have q1 := b1.1
  have q2 := b1.2.1
  have f1 := b1.2.2 0
  have f2 := b1.2.2 1
  simp at q1 q2 f1 f2
  clear hw0 b0 b1 y0 y1
  go_wp2_with fail
  refine (from_z (h.ext x0) hs).mono ?_
  rintro e w4 ⟨s4, A4, c4, L4, rfl, hz, hx4⟩
  have hB := World.block_lt_of_cell? w0 _ q1
  have p1 := hx4.frozen q1 f1
  have p2 := hx4.frozen q2 f2
  have t1 := hx4.cell q1
  have t2 := hx4.cell q2
  obtain ⟨r5, r6, hz', hxx⟩ := fin_z (Nat.le_succ _) hB (x0.trans hx4) hz t1 t2
  go_wp2_with fail
  refine bodyPost_ret (v := .agg #[.bool s4, .slice A4 L4 c4]) (by simp [results, Tryz.results101, go_sem, r5, r6]) rfl ?_
  exact ⟨_, _, _, _, rfl, hz', hxx⟩

theorem abs_z {w : World} {s : Bool} {A : Option Addr} {c L : Nat} {x : Int} (h : ZV w s A c L x) (hs : dl x.natAbs ≤ 17592186044416) :
    Calls Tryz.prog 100 #[.agg #[.bool s, .slice A L c]] w (RetZ w (x.natAbs : Int)) := by
  go_enter Tryz.func100, Tryz.ntmps100
  go_wp2_with fail
  obtain ⟨w0, hw0⟩ : ∃ w0 : World, w0 = ((w.alloc (.cells #[.bool s, .slice A L c] 25)).alloc (.cells #[.bool false, .slice none 0 0] 25)) := ⟨_, rfl⟩
  rw [← hw0]
  have b0 := box_new w (.bool s) (.slice A L c) 25
  have b1 := box_new (w.alloc (.cells #[.bool s, .slice A L c] 25)) (.bool false) (.slice none 0 0) 25
  rw [← hw0] at b1
  have y1 : Ext (w.alloc (.cells #[.bool s, .slice A L c] 25)) w0 := by rw [hw0]; exact Ext.alloc _ _
  have y0 : Ext w w0 := (Ext.alloc _ _).trans y1
  have x0 : Ext w w0 := y0
  have e0a := y1.cell b0.1
  have e0b := y1.cell b0.2.1
  have q1 := b1.1
  have q2 := b1.2.1
  have f1 := b1.2.2 0
  have f2 := b1.2.2 1
  simp at q1 q2 f1 f2
  clear hw0 b0 b1 y0 y1
  go_wp2_with fail
  refine (from_z (h.abs_.ext x0) (by rw [Int.natAbs_natCast]; exact hs)).mono ?_
  rintro e w4 ⟨s4, A4, c4, L4, rfl, hz, hx4⟩
  have hB := World.block_lt_of_cell? w0 _ q1
  have p1 := hx4.frozen q1 f1
  have p2 := hx4.frozen q2 f2
  have t1 := hx4.cell q1
  have t2 := hx4.cell q2
  obtain ⟨r5, r6, hz', hxx⟩ := fin_z (Nat.le_succ _) hB (x0.trans hx4) hz t1 t2
  go_wp2_with fail
  refine bodyPost_ret (v := .agg #[.bool s4, .slice A4 L4 c4]) (by simp [results, Tryz.results100, go_sem, r5, r6]) rfl ?_
  exact ⟨_, _, _, _, rfl, hz', hxx⟩

theorem neg_z {w : World} {s : Bool} {A : Option Addr} {c L : Nat} {x : Int} (h : ZV w s A c L x) (hs : dl x.natAbs ≤ 17592186044416) :
    Calls Tryz.prog 83 #[.agg #[.bool s, .slice A L c]] w (RetZ w (-x)) := by
  go_enter Tryz.func83, Tryz.ntmps83
  go_wp2_with fail
  obtain ⟨w0, hw0⟩ : ∃ w0 : World, w0 = ((w.alloc (.cells #[.bool s, .slice A L c] 25)).alloc (.cells #[.bool false, .slice none 0 0] 25)) := ⟨_, rfl⟩
  rw [← hw0]
  have b0 := box_new w (.bool s) (.slice A L c) 25
  have b1 := box_new (w.alloc (.cells #[.bool s, .slice A L c] 25)) (.bool false) (.slice none 0 0) 25
  rw [← hw0] at b1
  have y1 : Ext (w.alloc (.cells #[.bool s, .slice A L c] 25)) w0 := by rw [hw0]; exact Ext.alloc _ _
  have y0 : Ext w w0 := (Ext.alloc _ _).trans y1
  have x0 : Ext w w0 := y0
  have e0a := y1.cell b0.1
  have e0b := y1.cell b0.2.1
  have q1 := b1.1
  have q2 := b1.2.1
  have f1 := b1.2.2 0
  have f2 := b1.2.2 1
  simp at q1 q2 f1 f2
  clear hw0 b0 b1 y0 y1
  go_wp2_with fail
  refine (from_z (h.neg_.ext x0) (by rw [Int.natAbs_neg]; exact hs)).mono ?_
  rintro e w4 ⟨s4, A4, c4, L4, rfl, hz, hx4⟩
  have hB := World.block_lt_of_cell? w0 _ q1
  have p1 := hx4.frozen q1 f1
  have p2 := hx4.frozen q2 f2
  have t1 := hx4.cell q1
  have t2 := hx4.cell q2
  obtain ⟨r5, r6, hz', hxx⟩ := fin_z (Nat.le_succ _) hB (x0.trans hx4) hz t1 t2
  go_wp2_with fail
  refine bodyPost_ret (v := .agg #[.bool s4, .slice A4 L4 c4]) (by simp [results, Tryz.results83, go_sem, r5, r6]) rfl ?_
  exact ⟨_, _, _, _, rfl, hz', hxx⟩

theorem sign_z {w : World} {s : Bool} {A : Option Addr} {c L : Nat} {x : Int} (h : ZV w s A c L x) :
    Calls Tryz.prog 76 #[.agg #[.bool s, .slice A L c]] w fun e w' => e = .returned (.int .i64 x.sign) ∧ Ext w w' := by
  by_cases h0 : x = 0
  · have hz : (x.natAbs == 0) = true := by simp [h0]
    have HS : Hid (x.sign = 0) := by show _ = _; rw [h0]; rfl
    go_enter Tryz.func76, Tryz.ntmps76
    go_wp2_with fail
    obtain ⟨w0, hw0⟩ : ∃ w0 : World, w0 = (w.alloc (.cells #[.bool s, .slice A L c] 25)) := ⟨_, rfl⟩
    rw [← hw0]
    have b0 := box_new w (.bool s) (.slice A L c) 25
    rw [← hw0] at b0
    have y0 : Ext w w0 := by rw [hw0]; exact Ext.alloc _ _
    have x0 : Ext w w0 := y0
    have e0a := b0.1
    have e0b := b0.2.1
    clear hw0 b0 y0
    go_wp2_with fail
    refine (isZero_v (h.nv.ext x0)).mono ?_
    rintro e w' ⟨rfl, rfl⟩
    rw [hz]
    go_wp2_with fail
    go_ret
    exact ⟨by rw [HS.out]; rfl, x0⟩
  · have hz : (x.natAbs == 0) = false := by simp; omega
    cases s
    · have HS : Hid (x.sign = 1) := by show _ = _; exact Int.sign_eq_one_of_pos (by have := h.pos rfl; omega)
      go_enter Tryz.func76, Tryz.ntmps76
      go_wp2_with fail
      obtain ⟨w0, hw0⟩ : ∃ w0 : World, w0 = (w.alloc (.cells #[.bool false, .slice A L c] 25)) := ⟨_, rfl⟩
      rw [← hw0]
      have b0 := box_new w (.bool false) (.slice A L c) 25
      rw [← hw0] at b0
      have y0 : Ext w w0 := by rw [hw0]; exact Ext.alloc _ _
      have x0 : Ext w w0 := y0
      have e0a := b0.1
      have e0b := b0.2.1
      clear hw0 b0 y0
      go_wp2_with fail
      refine (isZero_v (h.nv.ext x0)).mono ?_
      rintro e w' ⟨rfl, rfl⟩
      rw [hz]
      go_wp2_with fail
      go_ret
      exact ⟨by rw [HS.out]; rfl, x0⟩
    · have HS : Hid (x.sign = -1) := by show _ = _; exact Int.sign_eq_neg_one_of_neg (by have := h.neg rfl; omega)
      go_enter Tryz.func76, Tryz.ntmps76
      go_wp2_with fail
      obtain ⟨w0, hw0⟩ : ∃ w0 : World, w0 = (w.alloc (.cells #[.bool true, .slice A L c] 25)) := ⟨_, rfl⟩
      rw [← hw0]
      have b0 := box_new w (.bool true) (.slice A L c) 25
      rw [← hw0] at b0
      have y0 : Ext w w0 := by rw [hw0]; exact Ext.alloc _ _
      have x0 : Ext w w0 := y0
      have e0a := b0.1
      have e0b := b0.2.1
      clear hw0 b0 y0
      go_wp2_with fail
      refine (isZero_v (h.nv.ext x0)).mono ?_
      rintro e w' ⟨rfl, rfl⟩
      rw [hz]
      go_wp2_with fail
      go_ret
      exact ⟨by rw [HS.out]; rfl, x0⟩

theorem of_z {w : World} {n : Int} (hn : -9223372036854775808 ≤ n ∧ n ≤ 9223372036854775807) : Calls Tryz.prog 72 #[.int .i64 n] w (RetZ w n) := by
  obtain ⟨hn1, hn2⟩ := hn
  have HO : Hid (∀ (w : World) (e : Int), e = (n.natAbs : Nat) → Calls Tryz.prog 102 #[.int .u64 e] w (RetN w n.natAbs)) := fun w e he => by subst he; exact of_any _ (by omega)
  rcases Int.lt_or_le n 0 with h0 | h0
  · have hdn : decide (n < 0) = true := by exact decide_eq_true h0
    go_enter Tryz.func72, Tryz.ntmps72
    go_wp2_with fail
    obtain ⟨w0, hw0⟩ : ∃ w0 : World, w0 = (w.alloc (.cells #[.bool false, .slice none 0 0] 25)) := ⟨_, rfl⟩
    rw [← hw0]
    have b0 := box_new w (.bool false) (.slice none 0 0) 25
    rw [← hw0] at b0
    have y0 : Ext w w0 := by rw [hw0]; exact Ext.alloc _ _
    have x0 : Ext w w0 := y0
    have q1 := b0.1
    have q2 := b0.2.1
    have f1 := b0.2.2 0
    have f2 := b0.2.2 1
    clear hw0 b0 y0
    go_wp2_with fail
    refine (HO.out _ _ (by first | omega | (have e : ∀ z : Int, IntKind.u64.wrap z = z % 18446744073709551616 := fun z => rfl; rw [e, e]; omega))).mono ?_
    rintro e w4 ⟨A4, c4, rfl, ho, hx4⟩
    have hB := World.block_lt_of_cell? w0 _ q1
    have p1 := hx4.frozen q1 f1
    have p2 := hx4.frozen q2 f2
    have t1 := hx4.cell q1
    have t2 := hx4.cell q2
    have hz : ZO w4 w0.heap.size true A4 c4 (digs B32 n.natAbs).length n := ⟨ho, hdn.symm, rfl⟩
    obtain ⟨r5, r6, hz', hxx⟩ := fin_z (Nat.le_refl _) hB (x0.trans hx4) hz t1 t2
    generalize (digs B32 n.natAbs).length = L' at *
    go_wp2_with fail
    refine bodyPost_ret (v := .agg #[.bool true, .slice A4 L' c4]) (by simp [results, Tryz.results72, go_sem, r5, r6]) rfl ?_
    exact ⟨_, _, _, _, rfl, hz', hxx⟩
  · have hdn : decide (n < 0) = false := by exact decide_eq_false (by omega)
    go_enter Tryz.func72, Tryz.ntmps72
    go_wp2_with fail
    obtain ⟨w0, hw0⟩ : ∃ w0 : World, w0 = (w.alloc (.cells #[.bool false, .slice none 0 0] 25)) := ⟨_, rfl⟩
    rw [← hw0]
    have b0 := box_new w (.bool false) (.slice none 0 0) 25
    rw [← hw0] at b0
    have y0 : Ext w w0 := by rw [hw0]; exact Ext.alloc _ _
    have x0 : Ext w w0 := y0
    have q1 := b0.1
    have q2 := b0.2.1
    have f1 := b0.2.2 0
    have f2 := b0.2.2 1
    clear hw0 b0 y0
    go_wp2_with fail
    refine (HO.out _ _ (by first | omega | (have e : ∀ z : Int, IntKind.u64.wrap z = z % 18446744073709551616 := fun z => rfl; rw [e, e]; omega))).mono ?_
    rintro e w4 ⟨A4, c4, rfl, ho, hx4⟩
    have hB := World.block_lt_of_cell? w0 _ q1
    have p1 := hx4.frozen q1 f1
    have p2 := hx4.frozen q2 f2
    have t1 := hx4.cell q1
    have t2 := hx4.cell q2
    have hz : ZO w4 w0.heap.size false A4 c4 (digs B32 n.natAbs).length n := ⟨ho, hdn.symm, rfl⟩
    obtain ⟨r5, r6, hz', hxx⟩ := fin_z (Nat.le_refl _) hB (x0.trans hx4) hz t1 t2
    generalize (digs B32 n.natAbs).length = L' at *
    go_wp2_with fail
    refine bodyPost_ret (v := .agg #[.bool false, .slice A4 L' c4]) (by simp [results, Tryz.results72, go_sem, r5, r6]) rfl ?_
    exact ⟨_, _, _, _, rfl, hz', hxx⟩

/-- The order of two integers: -1, 0, 1. -/
def cmpZ (x y : Int) : Int := if x < y then -1 else if y < x then 1 else 0
theorem cmpZ_lt {x y : Int} (h : x < y) : cmpZ x y = -1 := if_pos h
theorem cmpZ_gt {x y : Int} (h : y < x) : cmpZ x y = 1 := by unfold cmpZ; rw [if_neg (by omega), if_pos h]
theorem cmpZ_eq (x : Int) : cmpZ x x = 0 := by unfold cmpZ; rw [if_neg (by omega), if_neg (by omega)]
theorem cmpZ_pos {x y : Int} (hx : 0 ≤ x) (hy : 0 ≤ y) : cmpN x.natAbs y.natAbs = cmpZ x y := by
  unfold cmpN cmpZ
  split <;> split <;> (try split) <;> (try split) <;> omega
theorem cmpZ_neg {x y : Int} (hx : x ≤ 0) (hy : y ≤ 0) : cmpN y.natAbs x.natAbs = cmpZ x y := by
  unfold cmpN cmpZ
  split <;> split <;> (try split) <;> (try split) <;> omega
theorem sign_cases (x : Int) : (x < 0 ∧ x.sign = -1) ∨ (x = 0 ∧ x.sign = 0) ∨ (0 < x ∧ x.sign = 1) := by
  rcases Int.lt_trichotomy x 0 with h | h | h
  · exact .inl ⟨h, Int.sign_eq_neg_one_of_neg h⟩
  · exact .inr (.inl ⟨h, by rw [h]; rfl⟩)
  · exact .inr (.inr ⟨h, Int.sign_eq_one_of_pos h⟩)

theorem cmp_z {w : World} {s1 s2 : Bool} {A1 A2 : Option Addr} {c1 c2 L1 L2 : Nat} {x y : Int} (h1 : ZV w s1 A1 c1 L1 x) (h2 : ZV w s2 A2 c2 L2 y) :
    Calls Tryz.prog 91 #[.agg #[.bool s1, .slice A1 L1 c1], .agg #[.bool s2, .slice A2 L2 c2]] w fun e w' => e = .returned (.int .i64 (cmpZ x y)) ∧ Ext w w' := by
  have hsx := sign_cases x
  have hsy := sign_cases y
  have HW : Hid (∀ w', Ext w w' → x.sign = y.sign → x.sign < 0 → Calls Tryz.prog 111 #[.slice A2 L2 c2, .slice A1 L1 c1] w' fun e w'' => e = .returned (.int .i64 (cmpZ x y)) ∧ Ext w' w'') := fun w' hx he hl => by
    refine (cmp_v (h2.nv.ext hx) (h1.nv.ext hx)).mono ?_
    rintro e w'' ⟨rfl, hq⟩
    exact ⟨by rw [cmpZ_neg (by omega) (by omega)], hq.ext⟩
  have HV : Hid (∀ w', Ext w w' → x.sign = y.sign → ¬ x.sign < 0 → Calls Tryz.prog 111 #[.slice A1 L1 c1, .slice A2 L2 c2] w' fun e w'' => e = .returned (.int .i64 (cmpZ x y)) ∧ Ext w' w'') := fun w' hx he hl => by
    refine (cmp_v (h1.nv.ext hx) (h2.nv.ext hx)).mono ?_
    rintro e w'' ⟨rfl, hq⟩
    exact ⟨by rw [cmpZ_pos (by omega) (by omega)], hq.ext⟩
  have HL : Hid (x.sign < y.sign → cmpZ x y = -1) := fun h => cmpZ_lt (by omega)
  have HG : Hid (y.sign < x.sign → cmpZ x y = 1) := fun h => cmpZ_gt (by omega)
  have HS1 : Hid (∀ w', Ext w w' → Calls Tryz.prog 76 #[.agg #[.bool s1, .slice A1 L1 c1]] w' fun e w'' => e = .returned (.int .i64 x.sign) ∧ Ext w' w'') := fun w' hx => sign_z (h1.ext hx)
  have HS2 : Hid (∀ w', Ext w w' → Calls Tryz.prog 76 #[.agg #[.bool s2, .slice A2 L2 c2]] w' fun e w'' => e = .returned (.int .i64 y.sign) ∧ Ext w' w'') := fun w' hx => sign_z (h2.ext hx)
  have k1 : -1 ≤ x.sign ∧ x.sign ≤ 1 := by omega
  have k2 : -1 ≤ y.sign ∧ y.sign ≤ 1 := by omega
  clear hsx hsy h1 h2
  generalize x.sign = sx at *
  generalize y.sign = sy at *
  generalize cmpZ x y = R at *
  go_enter Tryz.func91, Tryz.ntmps91
  go_wp2_with fail
  obtain ⟨w0, hw0⟩ : ∃ w0 : World, w0 = ((w.alloc (.cells #[.bool s1, .slice A1 L1 c1] 25)).alloc (.cells #[.bool s2, .slice A2 L2 c2] 25)) := ⟨_, rfl⟩
  rw [← hw0]
  have b0 := box_new w (.bool s1) (.slice A1 L1 c1) 25
  have b1 := box_new (w.alloc (.cells #[.bool s1, .slice A1 L1 c1] 25)) (.bool s2) (.slice A2 L2 c2) 25
  rw [← hw0] at b1
  have y1 : Ext (w.alloc (.cells #[.bool s1, .slice A1 L1 c1] 25)) w0 := by rw [hw0]; exact Ext.alloc _ _
  have y0 : Ext w w0 := (Ext.alloc _ _).trans y1
  have x0 : Ext w w0 := y0
  have e0a := y1.cell b0.1
  have e0b := y1.cell b0.2.1
  have e1a := b1.1
  have e1b := b1.2.1
  simp at e1a e1b
  clear hw0 b0 b1 y0 y1
  go_region_held3 (fun w' => Ext w w' ∧ w'.cell? ⟨w.heap.size, 0, none⟩ = some (.bool s1) ∧ w'.cell? ⟨w.heap.size, 1, none⟩ = some (.slice A1 L1 c1) ∧ w'.cell? ⟨w.heap.size + 1, 0, none⟩ = some (.bool s2) ∧ w'.cell? ⟨w.heap.size + 1, 1, none⟩ = some (.slice A2 L2 c2))
    (first | exact ⟨hH.trans hy, hy.cell hc1, hy.cell hc2, hy.cell hc3, hy.cell hc4⟩ | exact ⟨x0.trans (Ext.drew _), e0a, e0b, e1a, e1b⟩)
    (first
      | (go_at_call_of 76 (Value.agg #[.bool s1, .slice A1 L1 c1]); obtain ⟨hH, hc1, hc2, hc3, hc4⟩ := ‹Ext w _ ∧ _ ∧ _ ∧ _ ∧ _›; refine (HS1.out _ hH).mono ?_; rintro e w3 ⟨rfl, hy⟩)
      | (go_at_call_of 76 (Value.agg #[.bool s2, .slice A2 L2 c2]); obtain ⟨hH, hc1, hc2, hc3, hc4⟩ := ‹Ext w _ ∧ _ ∧ _ ∧ _ ∧ _›; refine (HS2.out _ hH).mono ?_; rintro e w3 ⟨rfl, hy⟩))
  have d2 := hy.cell hc2
  have d4 := hy.cell hc4
  have hWx := hH.trans hy
  clear hc1 hc2 hc3 hc4 hH hy
  rcases Int.lt_trichotomy sx sy with h | h | h
  · have HR : Hid (R = -1) := HL.out h
    go_wp2_with fail
    go_ret
    exact ⟨by rw [HR.out]; rfl, hWx⟩
  · by_cases hn : sx < 0
    · have HC := Lib.hid (HW.out _ hWx h hn)
      have g1 : ¬ sx < sy := by omega
      have g2 : ¬ sy < sx := by omega
      clear HW HV HL HG h
      go_wp2_with fail
      refine HC.out.mono ?_
      rintro e w5 ⟨rfl, h5⟩
      go_wp2_with fail
      go_ret
      exact ⟨rfl, hWx.trans h5⟩
    · have HC := Lib.hid (HV.out _ hWx h (by omega))
      have g1 : ¬ sx < sy := by omega
      have g2 : ¬ sy < sx := by omega
      clear HW HV HL HG h
      go_wp2_with fail
      refine HC.out.mono ?_
      rintro e w5 ⟨rfl, h5⟩
      go_wp2_with fail
      go_ret
      exact ⟨rfl, hWx.trans h5⟩
  · have HR : Hid (R = 1) := HG.out h
    have g1 : ¬ sx < sy := by omega
    go_wp2_with fail
    go_ret
    exact ⟨by rw [HR.out]; rfl, hWx⟩

theorem cmpZ_eq0 (x y : Int) : (cmpZ x y == 0) = (x == y) := by
  unfold cmpZ
  rw [Bool.eq_iff_iff]
  split <;> (try split) <;> simp <;> omega
/-- One box, and a result's cell behind it that is written. -/
theorem one_set {w w4 : World} {g : Nat} {v1 v2 r1 r2 : Value} (hg : w.heap.size ≤ g) (hx : Ext w w4) (h1 : w4.cell? ⟨g, 0, none⟩ = some v1) (h2 : w4.cell? ⟨g, 1, none⟩ = some v2) :
    Ext w ((w4.setCell ⟨g + 1, 0, none⟩ r1).setCell ⟨g + 1, 1, none⟩ r2) ∧ ((w4.setCell ⟨g + 1, 0, none⟩ r1).setCell ⟨g + 1, 1, none⟩ r2).cell? ⟨g, 0, none⟩ = some v1 ∧
      ((w4.setCell ⟨g + 1, 0, none⟩ r1).setCell ⟨g + 1, 1, none⟩ r2).cell? ⟨g, 1, none⟩ = some v2 := by
  have hb : ∀ k, k ≠ g + 1 → ((w4.setCell ⟨g + 1, 0, none⟩ r1).setCell ⟨g + 1, 1, none⟩ r2).heap[k]? = w4.heap[k]? := fun k hk =>
    (Below.heap_setCell _ ⟨g + 1, 1, none⟩ _ k hk).trans (Below.heap_setCell _ ⟨g + 1, 0, none⟩ _ k hk)
  have hc : ∀ k i, k ≠ g + 1 → ((w4.setCell ⟨g + 1, 0, none⟩ r1).setCell ⟨g + 1, 1, none⟩ r2).cell? ⟨k, i, none⟩ = w4.cell? ⟨k, i, none⟩ := fun k i hk => World.cell?_of_block (hb k hk)
  refine ⟨Below.setCell (Below.setCell hx (p := ⟨g + 1, 0, none⟩) (by show _ ≤ g + 1; omega) _) (p := ⟨g + 1, 1, none⟩) (by show _ ≤ g + 1; omega) _, ?_, ?_⟩
  · rw [hc _ _ (by omega)]; exact h1
  · rw [hc _ _ (by omega)]; exact h2

theorem natAbs_shl (x : Int) (m : Nat) : (x * 2 ^ m).natAbs = x.natAbs * 2 ^ m := by
  rw [Int.natAbs_mul, Int.natAbs_pow]; rfl
set_option maxHeartbeats 2000000 in
theorem add_z {w : World} {s1 s2 : Bool} {A1 A2 : Option Addr} {c1 c2 L1 L2 : Nat} {x y : Int} (h1 : ZV w s1 A1 c1 L1 x) (h2 : ZV w s2 A2 c2 L2 y) (hs1 : dl x.natAbs ≤ 17592186044416) (hs2 : dl y.natAbs ≤ 17592186044416) :
    Calls Tryz.prog 84 #[.agg #[.bool s1, .slice A1 L1 c1], .agg #[.bool s2, .slice A2 L2 c2]] w (RetZ w (x + y)) := by
  have n1 := h1.neg
  have n2 := h2.neg
  have p1 := h1.pos
  have p2 := h2.pos
  have v1 := h1.nv
  have v2 := h2.nv
  clear h1 h2
  cases s1 <;> cases s2
  · have a1 := p1 rfl
    have a2 := p2 rfl
    clear n1 n2 p1 p2
    have hnn : (x + y).natAbs = x.natAbs + y.natAbs := by omega
    go_enter Tryz.func84, Tryz.ntmps84
    go_wp2_with fail
    obtain ⟨w0, hw0⟩ : ∃ w0 : World, w0 = (((w.alloc (.cells #[.bool false, .slice A1 L1 c1] 25)).alloc (.cells #[.bool false, .slice A2 L2 c2] 25)).alloc (.cells #[.bool false, .slice none 0 0] 25)) := ⟨_, rfl⟩
    rw [← hw0]
    have b0 := box_new w (.bool false) (.slice A1 L1 c1) 25
    have b1 := box_new (w.alloc (.cells #[.bool false, .slice A1 L1 c1] 25)) (.bool false) (.slice A2 L2 c2) 25
    have b2 := box_new ((w.alloc (.cells #[.bool false, .slice A1 L1 c1] 25)).alloc (.cells #[.bool false, .slice A2 L2 c2] 25)) (.bool false) (.slice none 0 0) 25
    rw [← hw0] at b2
    have y2 : Ext ((w.alloc (.cells #[.bool false, .slice A1 L1 c1] 25)).alloc (.cells #[.bool false, .slice A2 L2 c2] 25)) w0 := by rw [hw0]; exact Ext.alloc _ _
    have y1 : Ext (w.alloc (.cells #[.bool false, .slice A1 L1 c1] 25)) w0 := (Ext.alloc _ _).trans y2
    have y0 : Ext w w0 := (Ext.alloc _ _).trans y1
    have x0 : Ext w w0 := y0
    have e0a := y1.cell b0.1
    have e0b := y1.cell b0.2.1
    have e1a := y2.cell b1.1
    have e1b := y2.cell b1.2.1
    have q1 := b2.1
    have q2 := b2.2.1
    have f1 := b2.2.2 0
    have f2 := b2.2.2 1
    simp at e1a e1b q1 q2 f1 f2
    clear hw0 b0 b1 b2 y0 y1 y2
    go_wp2_with fail
    go_region_held3 (fun w' => Ext w w' ∧ w'.cell? ⟨w.heap.size, 0, none⟩ = some (.bool false) ∧ w'.cell? ⟨w.heap.size, 1, none⟩ = some (.slice A1 L1 c1) ∧ w'.cell? ⟨w.heap.size + 1, 0, none⟩ = some (.bool false) ∧ w'.cell? ⟨w.heap.size + 1, 1, none⟩ = some (.slice A2 L2 c2))
      (first | exact ⟨x0.trans hx4, hx4.cell e0a, hx4.cell e0b, hx4.cell e1a, hx4.cell e1b⟩ | exact ⟨x0.trans hx3, hx3.cell e0a, hx3.cell e0b, hx3.cell e1a, hx3.cell e1b⟩ | exact ⟨x0.trans (Ext.drew _), e0a, e0b, e1a, e1b⟩ | exact two_set (Nat.le_refl _) (x0.trans hx4) (hx4.cell e0a) (hx4.cell e0b) (hx4.cell e1a) (hx4.cell e1b))
      (first
        | (go_at_call 110; refine (add_v (v1.ext (x0.trans (Ext.drew _))) (v2.ext (x0.trans (Ext.drew _))) hs1 hs2).mono ?_; rintro e w3 ⟨A, c, rfl, ho, hx3'⟩; have hx3 := (Ext.drew w0).trans hx3')
        | (go_at_call 105; refine signed_any.mono ?_; rintro e w4 ⟨rfl, hx4'⟩; have hx4 := hx3.trans hx4'; have p1 := hx4.frozen q1 f1; have p2 := hx4.frozen q2 f2; have t1 := hx4.cell q1; have t2 := hx4.cell q2))
    have hB := World.block_lt_of_cell? w0 _ q1
    have hz := zo_signed (x := x + y) (s := false) (ho.ext hx4') hnn (fun e => by cases e) (fun _ => by omega)
    obtain ⟨r5, r6, hz', hxx⟩ := fin_z (Nat.le_trans (Nat.le_succ _) (Nat.le_succ _)) hB (x0.trans hx4) hz t1 t2
    simp only [Bool.false_and] at r5 r6 hz' hxx
    go_wp2_with fail
    refine bodyPost_ret (v := .agg #[.bool false, .slice A (digs B32 (x.natAbs + y.natAbs)).length c]) (by simp [results, Tryz.results84, go_sem, r5, r6]) rfl ?_
    exact ⟨_, _, _, _, rfl, hz', hxx⟩
  · have a1 := p1 rfl
    have a2 := n2 rfl
    clear n1 n2 p1 p2
    rcases Nat.lt_or_ge x.natAbs y.natAbs with hl | hl
    · have hk : cmpN x.natAbs y.natAbs < 0 := by rw [cmpN_lt hl]; omega
      have hnn : (x + y).natAbs = y.natAbs - x.natAbs := by omega
      have hle : x.natAbs ≤ y.natAbs := by omega
      go_enter Tryz.func84, Tryz.ntmps84
      go_wp2_with fail
      obtain ⟨w0, hw0⟩ : ∃ w0 : World, w0 = (((w.alloc (.cells #[.bool false, .slice A1 L1 c1] 25)).alloc (.cells #[.bool true, .slice A2 L2 c2] 25)).alloc (.cells #[.bool false, .slice none 0 0] 25)) := ⟨_, rfl⟩
      rw [← hw0]
      have b0 := box_new w (.bool false) (.slice A1 L1 c1) 25
      have b1 := box_new (w.alloc (.cells #[.bool false, .slice A1 L1 c1] 25)) (.bool true) (.slice A2 L2 c2) 25
      have b2 := box_new ((w.alloc (.cells #[.bool false, .slice A1 L1 c1] 25)).alloc (.cells #[.bool true, .slice A2 L2 c2] 25)) (.bool false) (.slice none 0 0) 25
      rw [← hw0] at b2
      have y2 : Ext ((w.alloc (.cells #[.bool false, .slice A1 L1 c1] 25)).alloc (.cells #[.bool true, .slice A2 L2 c2] 25)) w0 := by rw [hw0]; exact Ext.alloc _ _
      have y1 : Ext (w.alloc (.cells #[.bool false, .slice A1 L1 c1] 25)) w0 := (Ext.alloc _ _).trans y2
      have y0 : Ext w w0 := (Ext.alloc _ _).trans y1
      have x0 : Ext w w0 := y0
      have e0a := y1.cell b0.1
      have e0b := y1.cell b0.2.1
      have e1a := y2.cell b1.1
      have e1b := y2.cell b1.2.1
      have q1 := b2.1
      have q2 := b2.2.1
      have f1 := b2.2.2 0
      have f2 := b2.2.2 1
      simp at e1a e1b q1 q2 f1 f2
      clear hw0 b0 b1 b2 y0 y1 y2
      go_wp2_with fail
      refine (cmp_v (v1.ext x0) (v2.ext x0)).mono ?_
      rintro e w1 ⟨rfl, hq⟩
      have hx1 := hq.ext
      clear hq
      generalize cmpN x.natAbs y.natAbs = k at *
      have d1 := hx1.cell e0a
      have d2 := hx1.cell e0b
      have d3 := hx1.cell e1a
      have d4 := hx1.cell e1b
      go_wp2_with fail
      refine (sub_yes_v (v2.ext (x0.trans hx1)) (v1.ext (x0.trans hx1)) hs2 hle).mono ?_
      rintro e w3 ⟨A, c, rfl, ho, hx3'⟩
      have hx3 := hx1.trans hx3'
      have d1 := hx3.cell e0a
      have d2 := hx3.cell e0b
      have d3 := hx3.cell e1a
      have d4 := hx3.cell e1b
      go_wp2_with fail
      refine signed_any.mono ?_
      rintro e w4 ⟨rfl, hx4'⟩
      have hx4 := hx3.trans hx4'
      have u1 := hx4.frozen q1 f1
      have u2 := hx4.frozen q2 f2
      have t1 := hx4.cell q1
      have t2 := hx4.cell q2
      have hB := Nat.lt_of_lt_of_le (World.block_lt_of_cell? w0 _ q1) hx1.size
      have hz := zo_signed (x := x + y) (s := true) (ho.ext hx4') hnn (fun _ => by omega) (fun e => by cases e)
      obtain ⟨r5, r6, hz', hxx⟩ := fin_z (Nat.le_trans (Nat.le_succ _) (Nat.le_succ _)) hB (x0.trans hx4) hz t1 t2
      simp only [Bool.true_and] at r5 r6 hz' hxx
      go_wp2_with fail
      refine bodyPost_ret (v := .agg #[.bool (decide (0 < (digs B32 (y.natAbs - x.natAbs)).length)), .slice A (digs B32 (y.natAbs - x.natAbs)).length c]) (by simp [results, Tryz.results84, go_sem, r5, r6]) rfl ?_
      exact ⟨_, _, _, _, rfl, hz', hxx⟩
    · have hk : 0 ≤ cmpN x.natAbs y.natAbs := by exact cmpN_ge hl
      have hnn : (x + y).natAbs = x.natAbs - y.natAbs := by omega
      have hle : y.natAbs ≤ x.natAbs := by omega
      go_enter Tryz.func84, Tryz.ntmps84
      go_wp2_with fail
      obtain ⟨w0, hw0⟩ : ∃ w0 : World, w0 = (((w.alloc (.cells #[.bool false, .slice A1 L1 c1] 25)).alloc (.cells #[.bool true, .slice A2 L2 c2] 25)).alloc (.cells #[.bool false, .slice none 0 0] 25)) := ⟨_, rfl⟩
      rw [← hw0]
      have b0 := box_new w (.bool false) (.slice A1 L1 c1) 25
      have b1 := box_new (w.alloc (.cells #[.bool false, .slice A1 L1 c1] 25)) (.bool true) (.slice A2 L2 c2) 25
      have b2 := box_new ((w.alloc (.cells #[.bool false, .slice A1 L1 c1] 25)).alloc (.cells #[.bool true, .slice A2 L2 c2] 25)) (.bool false) (.slice none 0 0) 25
      rw [← hw0] at b2
      have y2 : Ext ((w.alloc (.cells #[.bool false, .slice A1 L1 c1] 25)).alloc (.cells #[.bool true, .slice A2 L2 c2] 25)) w0 := by rw [hw0]; exact Ext.alloc _ _
      have y1 : Ext (w.alloc (.cells #[.bool false, .slice A1 L1 c1] 25)) w0 := (Ext.alloc _ _).trans y2
      have y0 : Ext w w0 := (Ext.alloc _ _).trans y1
      have x0 : Ext w w0 := y0
      have e0a := y1.cell b0.1
      have e0b := y1.cell b0.2.1
      have e1a := y2.cell b1.1
      have e1b := y2.cell b1.2.1
      have q1 := b2.1
      have q2 := b2.2.1
      have f1 := b2.2.2 0
      have f2 := b2.2.2 1
      simp at e1a e1b q1 q2 f1 f2
      clear hw0 b0 b1 b2 y0 y1 y2
      go_wp2_with fail
      refine (cmp_v (v1.ext x0) (v2.ext x0)).mono ?_
      rintro e w1 ⟨rfl, hq⟩
      have hx1 := hq.ext
      clear hq
      generalize cmpN x.natAbs y.natAbs = k at *
      have d1 := hx1.cell e0a
      have d2 := hx1.cell e0b
      have d3 := hx1.cell e1a
      have d4 := hx1.cell e1b
      go_wp2_with fail
      refine (sub_yes_v (v1.ext (x0.trans hx1)) (v2.ext (x0.trans hx1)) hs1 hle).mono ?_
      rintro e w3 ⟨A, c, rfl, ho, hx3'⟩
      have hx3 := hx1.trans hx3'
      have d1 := hx3.cell e0a
      have d2 := hx3.cell e0b
      have d3 := hx3.cell e1a
      have d4 := hx3.cell e1b
      go_wp2_with fail
      refine signed_any.mono ?_
      rintro e w4 ⟨rfl, hx4'⟩
      have hx4 := hx3.trans hx4'
      have u1 := hx4.frozen q1 f1
      have u2 := hx4.frozen q2 f2
      have t1 := hx4.cell q1
      have t2 := hx4.cell q2
      have hB := Nat.lt_of_lt_of_le (World.block_lt_of_cell? w0 _ q1) hx1.size
      have hz := zo_signed (x := x + y) (s := false) (ho.ext hx4') hnn (fun e => by cases e) (fun _ => by omega)
      obtain ⟨r5, r6, hz', hxx⟩ := fin_z (Nat.le_trans (Nat.le_succ _) (Nat.le_succ _)) hB (x0.trans hx4) hz t1 t2
      simp only [Bool.false_and] at r5 r6 hz' hxx
      go_wp2_with fail
      refine bodyPost_ret (v := .agg #[.bool false, .slice A (digs B32 (x.natAbs - y.natAbs)).length c]) (by simp [results, Tryz.results84, go_sem, r5, r6]) rfl ?_
      exact ⟨_, _, _, _, rfl, hz', hxx⟩
  · have a1 := n1 rfl
    have a2 := p2 rfl
    clear n1 n2 p1 p2
    rcases Nat.lt_or_ge x.natAbs y.natAbs with hl | hl
    · have hk : cmpN x.natAbs y.natAbs < 0 := by rw [cmpN_lt hl]; omega
      have hnn : (x + y).natAbs = y.natAbs - x.natAbs := by omega
      have hle : x.natAbs ≤ y.natAbs := by omega
      go_enter Tryz.func84, Tryz.ntmps84
      go_wp2_with fail
      obtain ⟨w0, hw0⟩ : ∃ w0 : World, w0 = (((w.alloc (.cells #[.bool true, .slice A1 L1 c1] 25)).alloc (.cells #[.bool false, .slice A2 L2 c2] 25)).alloc (.cells #[.bool false, .slice none 0 0] 25)) := ⟨_, rfl⟩
      rw [← hw0]
      have b0 := box_new w (.bool true) (.slice A1 L1 c1) 25
      have b1 := box_new (w.alloc (.cells #[.bool true, .slice A1 L1 c1] 25)) (.bool false) (.slice A2 L2 c2) 25
      have b2 := box_new ((w.alloc (.cells #[.bool true, .slice A1 L1 c1] 25)).alloc (.cells #[.bool false, .slice A2 L2 c2] 25)) (.bool false) (.slice none 0 0) 25
      rw [← hw0] at b2
      have y2 : Ext ((w.alloc (.cells #[.bool true, .slice A1 L1 c1] 25)).alloc (.cells #[.bool false, .slice A2 L2 c2] 25)) w0 := by rw [hw0]; exact Ext.alloc _ _
      have y1 : Ext (w.alloc (.cells #[.bool true, .slice A1 L1 c1] 25)) w0 := (Ext.alloc _ _).trans y2
      have y0 : Ext w w0 := (Ext.alloc _ _).trans y1
      have x0 : Ext w w0 := y0
      have e0a := y1.cell b0.1
      have e0b := y1.cell b0.2.1
      have e1a := y2.cell b1.1
      have e1b := y2.cell b1.2.1
      have q1 := b2.1
      have q2 := b2.2.1
      have f1 := b2.2.2 0
      have f2 := b2.2.2 1
      simp at e1a e1b q1 q2 f1 f2
      clear hw0 b0 b1 b2 y0 y1 y2
      go_wp2_with fail
      refine (cmp_v (v1.ext x0) (v2.ext x0)).mono ?_
      rintro e w1 ⟨rfl, hq⟩
      have hx1 := hq.ext
      clear hq
      generalize cmpN x.natAbs y.natAbs = k at *
      have d1 := hx1.cell e0a
      have d2 := hx1.cell e0b
      have d3 := hx1.cell e1a
      have d4 := hx1.cell e1b
      go_wp2_with fail
      refine (sub_yes_v (v2.ext (x0.trans hx1)) (v1.ext (x0.trans hx1)) hs2 hle).mono ?_
      rintro e w3 ⟨A, c, rfl, ho, hx3'⟩
      have hx3 := hx1.trans hx3'
      have d1 := hx3.cell e0a
      have d2 := hx3.cell e0b
      have d3 := hx3.cell e1a
      have d4 := hx3.cell e1b
      go_wp2_with fail
      refine signed_any.mono ?_
      rintro e w4 ⟨rfl, hx4'⟩
      have hx4 := hx3.trans hx4'
      have u1 := hx4.frozen q1 f1
      have u2 := hx4.frozen q2 f2
      have t1 := hx4.cell q1
      have t2 := hx4.cell q2
      have hB := Nat.lt_of_lt_of_le (World.block_lt_of_cell? w0 _ q1) hx1.size
      have hz := zo_signed (x := x + y) (s := false) (ho.ext hx4') hnn (fun e => by cases e) (fun _ => by omega)
      obtain ⟨r5, r6, hz', hxx⟩ := fin_z (Nat.le_trans (Nat.le_succ _) (Nat.le_succ _)) hB (x0.trans hx4) hz t1 t2
      simp only [Bool.false_and] at r5 r6 hz' hxx
      go_wp2_with fail
      refine bodyPost_ret (v := .agg #[.bool false, .slice A (digs B32 (y.natAbs - x.natAbs)).length c]) (by simp [results, Tryz.results84, go_sem, r5, r6]) rfl ?_
      exact ⟨_, _, _, _, rfl, hz', hxx⟩
    · have hk : 0 ≤ cmpN x.natAbs y.natAbs := by exact cmpN_ge hl
      have hnn : (x + y).natAbs = x.natAbs - y.natAbs := by omega
      have hle : y.natAbs ≤ x.natAbs := by omega
      go_enter Tryz.func84, Tryz.ntmps84
      go_wp2_with fail
      obtain ⟨w0, hw0⟩ : ∃ w0 : World, w0 = (((w.alloc (.cells #[.bool true, .slice A1 L1 c1] 25)).alloc (.cells #[.bool false, .slice A2 L2 c2] 25)).alloc (.cells #[.bool false, .slice none 0 0] 25)) := ⟨_, rfl⟩
      rw [← hw0]
      have b0 := box_new w (.bool true) (.slice A1 L1 c1) 25
      have b1 := box_new (w.alloc (.cells #[.bool true, .slice A1 L1 c1] 25)) (.bool false) (.slice A2 L2 c2) 25
      have b2 := box_new ((w.alloc (.cells #[.bool true, .slice A1 L1 c1] 25)).alloc (.cells #[.bool false, .slice A2 L2 c2] 25)) (.bool false) (.slice none 0 0) 25
      rw [← hw0] at b2
      have y2 : Ext ((w.alloc (.cells #[.bool true, .slice A1 L1 c1] 25)).alloc (.cells #[.bool false, .slice A2 L2 c2] 25)) w0 := by rw [hw0]; exact Ext.alloc _ _
      have y1 : Ext (w.alloc (.cells #[.bool true, .slice A1 L1 c1] 25)) w0 := (Ext.alloc _ _).trans y2
      have y0 : Ext w w0 := (Ext.alloc _ _).trans y1
      have x0 : Ext w w0 := y0
      have e0a := y1.cell b0.1
      have e0b := y1.cell b0.2.1
      have e1a := y2.cell b1.1
      have e1b := y2.cell b1.2.1
      have q1 := b2.1
      have q2 := b2.2.1
      have f1 := b2.2.2 0
      have f2 := b2.2.2 1
      simp at e1a e1b q1 q2 f1 f2
      clear hw0 b0 b1 b2 y0 y1 y2
      go_wp2_with fail
      refine (cmp_v (v1.ext x0) (v2.ext x0)).mono ?_
      rintro e w1 ⟨rfl, hq⟩
      have hx1 := hq.ext
      clear hq
      generalize cmpN x.natAbs y.natAbs = k at *
      have d1 := hx1.cell e0a
      have d2 := hx1.cell e0b
      have d3 := hx1.cell e1a
      have d4 := hx1.cell e1b
      go_wp2_with fail
      refine (sub_yes_v (v1.ext (x0.trans hx1)) (v2.ext (x0.trans hx1)) hs1 hle).mono ?_
      rintro e w3 ⟨A, c, rfl, ho, hx3'⟩
      have hx3 := hx1.trans hx3'
      have d1 := hx3.cell e0a
      have d2 := hx3.cell e0b
      have d3 := hx3.cell e1a
      have d4 := hx3.cell e1b
      go_wp2_with fail
      refine signed_any.mono ?_
      rintro e w4 ⟨rfl, hx4'⟩
      have hx4 := hx3.trans hx4'
      have u1 := hx4.frozen q1 f1
      have u2 := hx4.frozen q2 f2
      have t1 := hx4.cell q1
      have t2 := hx4.cell q2
      have hB := Nat.lt_of_lt_of_le (World.block_lt_of_cell? w0 _ q1) hx1.size
      have hz := zo_signed (x := x + y) (s := true) (ho.ext hx4') hnn (fun _ => by omega) (fun e => by cases e)
      obtain ⟨r5, r6, hz', hxx⟩ := fin_z (Nat.le_trans (Nat.le_succ _) (Nat.le_succ _)) hB (x0.trans hx4) hz t1 t2
      simp only [Bool.true_and] at r5 r6 hz' hxx
      go_wp2_with fail
      refine bodyPost_ret (v := .agg #[.bool (decide (0 < (digs B32 (x.natAbs - y.natAbs)).length)), .slice A (digs B32 (x.natAbs - y.natAbs)).length c]) (by simp [results, Tryz.results84, go_sem, r5, r6]) rfl ?_
      exact ⟨_, _, _, _, rfl, hz', hxx⟩
  · have a1 := n1 rfl
    have a2 := n2 rfl
    clear n1 n2 p1 p2
    have hnn : (x + y).natAbs = x.natAbs + y.natAbs := by omega
    go_enter Tryz.func84, Tryz.ntmps84
    go_wp2_with fail
    obtain ⟨w0, hw0⟩ : ∃ w0 : World, w0 = (((w.alloc (.cells #[.bool true, .slice A1 L1 c1] 25)).alloc (.cells #[.bool true, .slice A2 L2 c2] 25)).alloc (.cells #[.bool false, .slice none 0 0] 25)) := ⟨_, rfl⟩
    rw [← hw0]
    have b0 := box_new w (.bool true) (.slice A1 L1 c1) 25
    have b1 := box_new (w.alloc (.cells #[.bool true, .slice A1 L1 c1] 25)) (.bool true) (.slice A2 L2 c2) 25
    have b2 := box_new ((w.alloc (.cells #[.bool true, .slice A1 L1 c1] 25)).alloc (.cells #[.bool true, .slice A2 L2 c2] 25)) (.bool false) (.slice none 0 0) 25
    rw [← hw0] at b2
    have y2 : Ext ((w.alloc (.cells #[.bool true, .slice A1 L1 c1] 25)).alloc (.cells #[.bool true, .slice A2 L2 c2] 25)) w0 := by rw [hw0]; exact Ext.alloc _ _
    have y1 : Ext (w.alloc (.cells #[.bool true, .slice A1 L1 c1] 25)) w0 := (Ext.alloc _ _).trans y2
    have y0 : Ext w w0 := (Ext.alloc _ _).trans y1
    have x0 : Ext w w0 := y0
    have e0a := y1.cell b0.1
    have e0b := y1.cell b0.2.1
    have e1a := y2.cell b1.1
    have e1b := y2.cell b1.2.1
    have q1 := b2.1
    have q2 := b2.2.1
    have f1 := b2.2.2 0
    have f2 := b2.2.2 1
    simp at e1a e1b q1 q2 f1 f2
    clear hw0 b0 b1 b2 y0 y1 y2
    go_wp2_with fail
    go_region_held3 (fun w' => Ext w w' ∧ w'.cell? ⟨w.heap.size, 0, none⟩ = some (.bool true) ∧ w'.cell? ⟨w.heap.size, 1, none⟩ = some (.slice A1 L1 c1) ∧ w'.cell? ⟨w.heap.size + 1, 0, none⟩ = some (.bool true) ∧ w'.cell? ⟨w.heap.size + 1, 1, none⟩ = some (.slice A2 L2 c2))
      (first | exact ⟨x0.trans hx4, hx4.cell e0a, hx4.cell e0b, hx4.cell e1a, hx4.cell e1b⟩ | exact ⟨x0.trans hx3, hx3.cell e0a, hx3.cell e0b, hx3.cell e1a, hx3.cell e1b⟩ | exact ⟨x0.trans (Ext.drew _), e0a, e0b, e1a, e1b⟩ | exact two_set (Nat.le_refl _) (x0.trans hx4) (hx4.cell e0a) (hx4.cell e0b) (hx4.cell e1a) (hx4.cell e1b))
      (first
        | (go_at_call 110; refine (add_v (v1.ext (x0.trans (Ext.drew _))) (v2.ext (x0.trans (Ext.drew _))) hs1 hs2).mono ?_; rintro e w3 ⟨A, c, rfl, ho, hx3'⟩; have hx3 := (Ext.drew w0).trans hx3')
        | (go_at_call 105; refine signed_any.mono ?_; rintro e w4 ⟨rfl, hx4'⟩; have hx4 := hx3.trans hx4'; have p1 := hx4.frozen q1 f1; have p2 := hx4.frozen q2 f2; have t1 := hx4.cell q1; have t2 := hx4.cell q2))
    have hB := World.block_lt_of_cell? w0 _ q1
    have hz := zo_signed (x := x + y) (s := true) (ho.ext hx4') hnn (fun _ => by omega) (fun e => by cases e)
    obtain ⟨r5, r6, hz', hxx⟩ := fin_z (Nat.le_trans (Nat.le_succ _) (Nat.le_succ _)) hB (x0.trans hx4) hz t1 t2
    simp only [Bool.true_and] at r5 r6 hz' hxx
    go_wp2_with fail
    refine bodyPost_ret (v := .agg #[.bool (decide (0 < (digs B32 (x.natAbs + y.natAbs)).length)), .slice A (digs B32 (x.natAbs + y.natAbs)).length c]) (by simp [results, Tryz.results84, go_sem, r5, r6]) rfl ?_
    exact ⟨_, _, _, _, rfl, hz', hxx⟩

theorem sub_z {w : World} {s1 s2 : Bool} {A1 A2 : Option Addr} {c1 c2 L1 L2 : Nat} {x y : Int} (h1 : ZV w s1 A1 c1 L1 x) (h2 : ZV w s2 A2 c2 L2 y) (hs1 : dl x.natAbs ≤ 17592186044416) (hs2 : dl y.natAbs ≤ 17592186044416) :
    Calls Tryz.prog 85 #[.agg #[.bool s1, .slice A1 L1 c1], .agg #[.bool s2, .slice A2 L2 c2]] w (RetZ w (x - y)) := by
  go_enter Tryz.func85, Tryz.ntmps85
  go_wp2_with fail
  obtain ⟨w0, hw0⟩ : ∃ w0 : World, w0 = (((w.alloc (.cells #[.bool s1, .slice A1 L1 c1] 25)).alloc (.cells #[.bool s2, .slice A2 L2 c2] 25)).alloc (.cells #[.bool false, .slice none 0 0] 25)) := ⟨_, rfl⟩
  rw [← hw0]
  have b0 := box_new w (.bool s1) (.slice A1 L1 c1) 25
  have b1 := box_new (w.alloc (.cells #[.bool s1, .slice A1 L1 c1] 25)) (.bool s2) (.slice A2 L2 c2) 25
  have b2 := box_new ((w.alloc (.cells #[.bool s1, .slice A1 L1 c1] 25)).alloc (.cells #[.bool s2, .slice A2 L2 c2] 25)) (.bool false) (.slice none 0 0) 25
  rw [← hw0] at b2
  have y2 : Ext ((w.alloc (.cells #[.bool s1, .slice A1 L1 c1] 25)).alloc (.cells #[.bool s2, .slice A2 L2 c2] 25)) w0 := by rw [hw0]; exact Ext.alloc _ _
  have y1 : Ext (w.alloc (.cells #[.bool s1, .slice A1 L1 c1] 25)) w0 := (Ext.alloc _ _).trans y2
  have y0 : Ext w w0 := (Ext.alloc _ _).trans y1
  have x0 : Ext w w0 := y0
  have e0a := y1.cell b0.1
  have e0b := y1.cell b0.2.1
  have e1a := y2.cell b1.1
  have e1b := y2.cell b1.2.1
  have q1 := b2.1
  have q2 := b2.2.1
  have f1 := b2.2.2 0
  have f2 := b2.2.2 1
  simp at e1a e1b q1 q2 f1 f2
  clear hw0 b0 b1 b2 y0 y1 y2
  go_wp2_with fail
  refine (add_z (h1.ext x0) (h2.neg_.ext x0) hs1 (by rw [Int.natAbs_neg]; exact hs2)).mono ?_
  rintro e w4 ⟨s4, A4, c4, L4, rfl, hz, hx4⟩
  have hB := World.block_lt_of_cell? w0 _ q1
  have p1 := hx4.frozen q1 f1
  have p2 := hx4.frozen q2 f2
  have t1 := hx4.cell q1
  have t2 := hx4.cell q2
  obtain ⟨r5, r6, hz', hxx⟩ := fin_z (Nat.le_trans (Nat.le_succ _) (Nat.le_succ _)) hB (x0.trans hx4) hz t1 t2
  go_wp2_with fail
  refine bodyPost_ret (v := .agg #[.bool s4, .slice A4 L4 c4]) (by simp [results, Tryz.results85, go_sem, r5, r6]) rfl ?_
  exact ⟨_, _, _, _, rfl, by rw [Int.sub_eq_add_neg]; exact hz', hxx⟩
end Go.Proofs.YtehhkeenjlpikaaGreat
