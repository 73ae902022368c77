/- Contracts of package integer, first part. -/
import Derived.Deep.RegionHeld3
import Derived.Test.YtfnmbhjifdfibaaNatF
namespace Go.Proofs.Ytfnmbhjifdfibaa
open Go.RowKit

/-- An integer that lies in memory: its sign and the digits of its absolute value; 0 may bear a sign. -/
structure ZV (w : World) (s : Bool) (A : Option Addr) (c L : Nat) (x : Int) : Prop where
  nv : NV w A c L x.natAbs
  neg : s = true → x ≤ 0
  pos : s = false → 0 ≤ x
/-- An integer in canonical form in memory of the call's own. -/
structure ZO (w : World) (B : Nat) (s : Bool) (A : Option Addr) (c L : Nat) (x : Int) : Prop where
  no : NO w B A c x.natAbs
  sign : s = decide (x < 0)
  len : L = (digs B32 x.natAbs).length
theorem ZV.ext {w w' : World} {s : Bool} {A : Option Addr} {c L : Nat} {x : Int} (h : ZV w s A c L x) (hx : Ext w w') : ZV w' s A c L x := ⟨h.nv.ext hx, h.neg, h.pos⟩
theorem ZO.ext {w w' : World} {B : Nat} {s : Bool} {A : Option Addr} {c L : Nat} {x : Int} (h : ZO w B s A c L x) (hx : Ext w w') : ZO w' B s A c L x := ⟨h.no.ext hx, h.sign, h.len⟩
theorem ZO.mono {w : World} {B B' : Nat} {s : Bool} {A : Option Addr} {c L : Nat} {x : Int} (h : ZO w B s A c L x) (hB : B' ≤ B) : ZO w B' s A c L x := ⟨Own.mono h.no hB, h.sign, h.len⟩
theorem ZO.zv {w : World} {B : Nat} {s : Bool} {A : Option Addr} {c L : Nat} {x : Int} (h : ZO w B s A c L x) : ZV w s A c L x := by
  refine ⟨by rw [h.len]; exact h.no.nv, fun hs => ?_, fun hs => ?_⟩
  · have := h.sign; rw [hs] at this; have := of_decide_eq_true this.symm; omega
  · have := h.sign; rw [hs] at this; have := of_decide_eq_false this.symm; omega
/-- The call returns the integer x in new memory, and changes nothing else. -/
def RetZ (w : World) (x : Int) (e : Ending) (w' : World) : Prop := ∃ s A c L, e = .returned (.agg #[.bool s, .slice A L c]) ∧ ZO w' w.heap.size s A c L x ∧ Ext w w'

theorem box_new (w : World) (v1 v2 : Value) (T : TypeId) :
    (w.alloc (.cells #[v1, v2] T)).cell? ⟨w.heap.size, 0, none⟩ = some v1 ∧ (w.alloc (.cells #[v1, v2] T)).cell? ⟨w.heap.size, 1, none⟩ = some v2 ∧
      (∀ i, (w.alloc (.cells #[v1, v2] T)).frozen? ⟨w.heap.size, i, none⟩ = false) := by
  have h := heap_alloc_new w (.cells #[v1, v2] T)
  refine ⟨?_, ?_, fun i => ?_⟩
  · rw [cell_of_row _ _ 0 _ _ (0, 0) h]; rfl
  · rw [cell_of_row _ _ 1 _ _ (0, 0) h]; rfl
  · simp only [World.frozen?]; rw [h]; simp
theorem Ext.frozen {w w' : World} (h : Ext w w') {p : Addr} {v : Value} (hc : w.cell? p = some v) (hf : w.frozen? p = false) : w'.frozen? p = false :=
  (Below.frozen h (World.block_lt_of_cell? w p hc)).trans hf

theorem signed_any {w : World} {A : Option Addr} {c L : Nat} {s : Bool} :
    Calls Try.prog 94 #[.bool s, .slice A L c] w fun e w' => e = .returned (.agg #[.bool (s && decide (0 < L)), .slice A L c]) ∧ Ext w w' := by
  cases s
  · go_enter Try.func94, Try.ntmps94
    go_wp2_with fail
    refine bodyPost_ret (v := .agg #[.bool false, .slice A L c]) (by simp [results, Try.results94, go_sem]) rfl ⟨rfl, Ext.alloc _ _⟩
  · go_enter Try.func94, Try.ntmps94
    go_wp2_with fail
    refine bodyPost_ret (v := .agg #[.bool (decide (0 < L)), .slice A L c]) (by simp [results, Try.results94, go_sem]) rfl ⟨rfl, Ext.alloc _ _⟩

/-- Two boxes, and a result's cell behind them that is written. -/
theorem two_set {w w4 : World} {g : Nat} {v1 v2 u1 u2 r1 r2 : Value} (hg : w.heap.size ≤ g) (hx : Ext w w4) (h1 : w4.cell? ⟨g, 0, none⟩ = some v1) (h2 : w4.cell? ⟨g, 1, none⟩ = some v2)
    (h3 : w4.cell? ⟨g + 1, 0, none⟩ = some u1) (h4 : w4.cell? ⟨g + 1, 1, none⟩ = some u2) :
    Ext w ((w4.setCell ⟨g + 1 + 1, 0, none⟩ r1).setCell ⟨g + 1 + 1, 1, none⟩ r2) ∧ ((w4.setCell ⟨g + 1 + 1, 0, none⟩ r1).setCell ⟨g + 1 + 1, 1, none⟩ r2).cell? ⟨g, 0, none⟩ = some v1 ∧
      ((w4.setCell ⟨g + 1 + 1, 0, none⟩ r1).setCell ⟨g + 1 + 1, 1, none⟩ r2).cell? ⟨g, 1, none⟩ = some v2 ∧ ((w4.setCell ⟨g + 1 + 1, 0, none⟩ r1).setCell ⟨g + 1 + 1, 1, none⟩ r2).cell? ⟨g + 1, 0, none⟩ = some u1 ∧
      ((w4.setCell ⟨g + 1 + 1, 0, none⟩ r1).setCell ⟨g + 1 + 1, 1, none⟩ r2).cell? ⟨g + 1, 1, none⟩ = some u2 := by
  have hb : ∀ k, k ≠ g + 1 + 1 → ((w4.setCell ⟨g + 1 + 1, 0, none⟩ r1).setCell ⟨g + 1 + 1, 1, none⟩ r2).heap[k]? = w4.heap[k]? := fun k hk =>
    (Below.heap_setCell _ ⟨g + 1 + 1, 1, none⟩ _ k hk).trans (Below.heap_setCell _ ⟨g + 1 + 1, 0, none⟩ _ k hk)
  have hc : ∀ k i, k ≠ g + 1 + 1 → ((w4.setCell ⟨g + 1 + 1, 0, none⟩ r1).setCell ⟨g + 1 + 1, 1, none⟩ r2).cell? ⟨k, i, none⟩ = w4.cell? ⟨k, i, none⟩ := fun k i hk => World.cell?_of_block (hb k hk)
  refine ⟨Below.setCell (Below.setCell hx (p := ⟨g + 1 + 1, 0, none⟩) (by show _ ≤ g + 1 + 1; omega) _) (p := ⟨g + 1 + 1, 1, none⟩) (by show _ ≤ g + 1 + 1; omega) _, ?_, ?_, ?_, ?_⟩
  · rw [hc _ _ (by omega)]; exact h1
  · rw [hc _ _ (by omega)]; exact h2
  · rw [hc _ _ (by omega)]; exact h3
  · rw [hc _ _ (by omega)]; exact h4
/-- The result's cell reads as it was written. -/
theorem res_set {w4 : World} {g : Nat} {r1 r2 q1 q2 : Value} (h1 : w4.cell? ⟨g, 0, none⟩ = some q1) (h2 : w4.cell? ⟨g, 1, none⟩ = some q2) :
    ((w4.setCell ⟨g, 0, none⟩ r1).setCell ⟨g, 1, none⟩ r2).cell? ⟨g, 0, none⟩ = some r1 ∧ ((w4.setCell ⟨g, 0, none⟩ r1).setCell ⟨g, 1, none⟩ r2).cell? ⟨g, 1, none⟩ = some r2 := by
  constructor
  · rw [World.cell?_setCell_other _ _ _ _ (by simp)]
    exact World.cell?_setCell_same _ _ _ h1
  · exact World.cell?_setCell_same _ _ _ ((World.cell?_setCell_other _ _ _ _ (by simp)).trans h2)
theorem Own.set_far {w : World} {B c : Nat} {k : IntKind} {T : TypeId} {A : Option Addr} {ds : List Nat} (h : Own w B k T A c ds) {p : Addr} (hp : p.block < B) (u : Value) : Own (w.setCell p u) B k T A c ds := by
  refine ⟨h.1, ?_⟩
  rcases h.2 with h2 | ⟨g, cap, cur, hv, hg, hr, r⟩
  · exact .inl h2
  · exact .inr ⟨g, cap, cur, hv, hg, (Below.heap_setCell w p u g (by omega)).trans hr, r⟩
theorem len_pos (n : Nat) : decide (0 < (digs B32 n).length) = decide (n ≠ 0) := by
  have h := digs_eq_nil B32_two (n := n)
  rw [decide_eq_decide]
  rw [List.length_pos_iff]
  exact not_congr h
theorem mul_sign {s1 s2 : Bool} {x y : Int} (n1 : s1 = true → x ≤ 0) (p1 : s1 = false → 0 ≤ x) (n2 : s2 = true → y ≤ 0) (p2 : s2 = false → 0 ≤ y) :
    ((!s1 == s2) && decide (0 < (digs B32 (x.natAbs * y.natAbs)).length)) = decide (x * y < 0) := by
  rw [len_pos]
  have hz : (x.natAbs * y.natAbs ≠ 0) ↔ x * y ≠ 0 := by rw [← Int.natAbs_mul]; omega
  have hz' : decide (x.natAbs * y.natAbs ≠ 0) = decide (x * y ≠ 0) := decide_eq_decide.2 hz
  rw [hz']
  clear hz hz'
  cases s1 <;> cases s2
  · have h := Int.mul_nonneg (p1 rfl) (p2 rfl)
    exact (decide_eq_false (by omega)).symm
  · have h := Int.mul_nonneg (p1 rfl) (Int.neg_nonneg_of_nonpos (n2 rfl))
    rw [Int.mul_neg] at h
    show decide (x * y ≠ 0) = decide (x * y < 0)
    rw [decide_eq_decide]
    omega
  · have h := Int.mul_nonneg (Int.neg_nonneg_of_nonpos (n1 rfl)) (p2 rfl)
    rw [Int.neg_mul] at h
    show decide (x * y ≠ 0) = decide (x * y < 0)
    rw [decide_eq_decide]
    omega
  · have h := Int.mul_nonneg_of_nonpos_of_nonpos (n1 rfl) (n2 rfl)
    exact (decide_eq_false (by omega)).symm

theorem mul_z {w : World} {s1 s2 : Bool} {A1 A2 : Option Addr} {c1 c2 L1 L2 : Nat} {x y : Int} (h1 : ZV w s1 A1 c1 L1 x) (h2 : ZV w s2 A2 c2 L2 y) (hs : dl x.natAbs + dl y.natAbs ≤ 17592186044416) (hm : min (dl x.natAbs) (dl y.natAbs) < 48) :
    Calls Try.prog 60 #[.agg #[.bool s1, .slice A1 L1 c1], .agg #[.bool s2, .slice A2 L2 c2]] w (RetZ w (x * y)) := by
  go_enter Try.func60, Try.ntmps60
  go_wp2_with fail
  obtain ⟨w0, hw0⟩ : ∃ w0 : World, w0 = ((w.alloc (.cells #[.bool s1, .slice A1 L1 c1] 25)).alloc (.cells #[.bool s2, .slice A2 L2 c2] 25)).alloc (.cells #[.bool false, .slice none 0 0] 25) := ⟨_, rfl⟩
  rw [← hw0]
  have b1 := box_new w (.bool s1) (.slice A1 L1 c1) 25
  have b2 := box_new (w.alloc (.cells #[.bool s1, .slice A1 L1 c1] 25)) (.bool s2) (.slice A2 L2 c2) 25
  have b3 := box_new ((w.alloc (.cells #[.bool s1, .slice A1 L1 c1] 25)).alloc (.cells #[.bool s2, .slice A2 L2 c2] 25)) (.bool false) (.slice none 0 0) 25
  rw [← hw0] at b3
  have x2 : Ext ((w.alloc (.cells #[.bool s1, .slice A1 L1 c1] 25)).alloc (.cells #[.bool s2, .slice A2 L2 c2] 25)) w0 := by rw [hw0]; exact Ext.alloc _ _
  have x1 : Ext (w.alloc (.cells #[.bool s1, .slice A1 L1 c1] 25)) w0 := (Ext.alloc _ _).trans x2
  have x0 : Ext w w0 := (Ext.alloc _ _).trans x1
  have e1 := x1.cell b1.1
  have e2 := x1.cell b1.2.1
  have e3 := x2.cell b2.1
  have e4 := x2.cell b2.2.1
  have e5 := b3.1
  have e6 := b3.2.1
  have f5 := b3.2.2 0
  have f6 := b3.2.2 1
  simp at e3 e4 e5 e6 f5 f6
  clear hw0 b1 b2 b3 x1 x2
  go_region_held3 (fun w' => Ext w w' ∧ w'.cell? ⟨w.heap.size, 0, none⟩ = some (.bool s1) ∧ w'.cell? ⟨w.heap.size, 1, none⟩ = some (.slice A1 L1 c1) ∧ w'.cell? ⟨w.heap.size + 1, 0, none⟩ = some (.bool s2) ∧ w'.cell? ⟨w.heap.size + 1, 1, none⟩ = some (.slice A2 L2 c2))
    (first | exact ⟨x0.trans (Ext.drew _), e1, e2, e3, e4⟩ | exact ⟨x0.trans hx4, hx4.cell e1, hx4.cell e2, hx4.cell e3, hx4.cell e4⟩ | exact ⟨x0.trans hx3, hx3.cell e1, hx3.cell e2, hx3.cell e3, hx3.cell e4⟩ | exact two_set (Nat.le_refl _) (x0.trans hx4) (hx4.cell e1) (hx4.cell e2) (hx4.cell e3) (hx4.cell e4))
    (first
      | (go_at_call 96; refine (mul_v (h1.nv.ext (x0.trans (Ext.drew _))) (h2.nv.ext (x0.trans (Ext.drew _))) hs hm).mono ?_; rintro e w3 ⟨A, c, rfl, ho, hx3'⟩; have hx3 := (Ext.drew w0).trans hx3')
      | (go_at_call 94; refine signed_any.mono ?_; rintro e w4 ⟨rfl, hx4'⟩; have hx4 := hx3.trans hx4'; have f5' := hx4.frozen e5 f5; have f6' := hx4.frozen e6 f6; have e5' := hx4.cell e5; have e6' := hx4.cell e6))
  obtain ⟨r5, r6⟩ := res_set (r1 := .bool (!s1 == s2 && decide (0 < (digs B32 (x.natAbs * y.natAbs)).length))) (r2 := .slice A (digs B32 (x.natAbs * y.natAbs)).length c) e5' e6'
  have hlt : w.heap.size + 1 + 1 < w0.heap.size := World.block_lt_of_cell? w0 _ e5
  have ho' := ((Own.below ho hx4').set_far (p := ⟨w.heap.size + 1 + 1, 0, none⟩) hlt (.bool (!s1 == s2 && decide (0 < (digs B32 (x.natAbs * y.natAbs)).length)))).set_far (p := ⟨w.heap.size + 1 + 1, 1, none⟩) hlt (.slice A (digs B32 (x.natAbs * y.natAbs)).length c)
  have hxx := (two_set (r1 := .bool (!s1 == s2 && decide (0 < (digs B32 (x.natAbs * y.natAbs)).length))) (r2 := .slice A (digs B32 (x.natAbs * y.natAbs)).length c) (Nat.le_refl _) (x0.trans hx4) (hx4.cell e1) (hx4.cell e2) (hx4.cell e3) (hx4.cell e4)).1
  go_wp2_with fail
  refine bodyPost_ret (v := .agg #[.bool (!s1 == s2 && decide (0 < (digs B32 (x.natAbs * y.natAbs)).length)), .slice A (digs B32 (x.natAbs * y.natAbs)).length c]) (by simp [results, Try.results60, go_sem, r5, r6]) rfl ?_
  exact ⟨_, _, _, _, rfl, ⟨by rw [Int.natAbs_mul]; exact Own.mono ho' (Nat.le_of_lt (Nat.lt_trans (Nat.lt_of_lt_of_le (Nat.lt_succ_self _) (Nat.le_succ _)) hlt)), mul_sign h1.neg h1.pos h2.neg h2.pos, by rw [Int.natAbs_mul]⟩, hxx⟩
end Go.Proofs.Ytfnmbhjifdfibaa
