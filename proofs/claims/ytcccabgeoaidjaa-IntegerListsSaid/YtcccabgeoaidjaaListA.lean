/- IntegerLists: the head of a round of the law's loop; append of an integer to a slice of the call's own. -/
import Derived.Test.YtcccabgeoaidjaaIntE
import Derived.Test.YtcccabgeoaidjaaLaw2f
import Derived.Deep.RegionWith
namespace Go.Proofs.Ytcccabgeoaidjaa
open Go.RowKit

theorem info_Z : (Try.prog.info? 25).map (fun i => (i.zero, i.size, i.bytes)) = some (some (.agg #[.bool false, .slice none 0 0]), 2, 32) := by kernel_rfl
theorem Kept.grown {w w' : World} {row : Option Nat} {T : TypeId} (hg : w.grownBy w' row) (hT : ∀ k, row = some k → IsBox w k T) (hp : ¬ Plain T) : Kept w w' := fun b cur T' fr hh hpl => by
  refine hg.block b (Array.getElem?_eq_some_iff.1 hh).1 (fun e => ?_)
  obtain ⟨c1, f1, h1⟩ := hT b e.symm
  rw [h1] at hh
  injection hh with hh
  injection hh with _ e2
  subst e2
  exact hp hpl
theorem ownsRow_same {w w' : World} {B : Nat} {e : TypeId} {size n : Nat} {v : Value} {xs : List Value} (h : w.ownsRow B e size v n xs) (hb : ∀ b, B ≤ b → b < w.heap.size → w'.heap[b]? = w.heap[b]?) : w'.ownsRow B e size v n xs := by
  refine ⟨h.1, ?_⟩
  rcases h.2 with h2 | ⟨g, cap, cur, hv, hg, hr, r⟩
  · exact .inl h2
  · exact .inr ⟨g, cap, cur, hv, hg, (hb g hg (Array.getElem?_eq_some_iff.1 hr).1).trans hr, r⟩
/-- The values of the integers of a list from its end, as they lie in the slice that the law builds. -/
def BackOf (w : World) (xs : List Int) (k : Nat) (vals : List Value) : Prop :=
  ∀ j (_ : j < k) (h : xs.length - 1 - j < xs.length), ∃ s A c L, vals[2 * j]? = some (.bool s) ∧ vals[2 * j + 1]? = some (.slice A L c) ∧ ZV w s A c L xs[xs.length - 1 - j]
structure LB (w wr : World) (g : Nat) (x y : Int) (k : Nat) (xs : List Int) (s : Bool) (A : Option Addr) (L c : Nat) (s' : Bool) (A' : Option Addr) (L' c' : Nat) (Ab : Option Addr) (cb : Nat) : Prop where
  lt : w.heap.size ≤ g
  t0 : wr.cell? ⟨g, 0, none⟩ = some (.bool s)
  t1 : wr.cell? ⟨g, 1, none⟩ = some (.slice A L c)
  f0 : wr.frozen? ⟨g, 0, none⟩ = false
  f1 : wr.frozen? ⟨g, 1, none⟩ = false
  p0 : wr.cell? ⟨g + 1, 0, none⟩ = some (.bool s')
  p1 : wr.cell? ⟨g + 1, 1, none⟩ = some (.slice A' L' c')
  h0 : wr.frozen? ⟨g + 1, 0, none⟩ = false
  h1 : wr.frozen? ⟨g + 1, 1, none⟩ = false
  i0 : IsBox wr g 25
  i1 : IsBox wr (g + 1) 25
  zs : ZO wr 0 s A c L x
  zp : ZO wr 0 s' A' c' L' y
  ow : ∃ vals, wr.ownsRow (g + 2) 25 2 (.slice Ab k cb) k vals ∧ BackOf w xs k vals
  ex : Ext w wr
section
variable {w wr w5 : World} {g B k c L c' L' cb c2 L2 : Nat} {x y x2 : Int} {xs : List Int} {s s' s2 : Bool} {A A' Ab A2 : Option Addr}
theorem LB.sum (h : LB w wr g x y k xs s A L c s' A' L' c' Ab cb) (e : Ext wr w5) (z : ZO w5 B s2 A2 c2 L2 x2) :
    LB w ((w5.setCell ⟨g, 0, none⟩ (.bool s2)).setCell ⟨g, 1, none⟩ (.slice A2 L2 c2)) g x2 y k xs s2 A2 L2 c2 s' A' L' c' Ab cb := by
  have hlt := h.lt
  obtain ⟨r5, r6⟩ := res_set (r1 := .bool s2) (r2 := .slice A2 L2 c2) (e.cell h.t0) (e.cell h.t1)
  have hne : ∀ i j : Nat, (⟨g, i, none⟩ : Addr) ≠ ⟨g + 1, j, none⟩ := fun i j e => by injection e with e1; omega
  have ib := h.i0.ext e
  have K : Kept w5 ((w5.setCell ⟨g, 0, none⟩ (.bool s2)).setCell ⟨g, 1, none⟩ (.slice A2 L2 c2)) := Kept.setI (IsBox.set_ ib) (Kept.setI ib (Kept.refl _))
  refine ⟨hlt, r5, r6, ?_, ?_, ?_, ?_, ?_, ?_, IsBox.set_ (IsBox.set_ ib), IsBox.set_ (IsBox.set_ (h.i1.ext e)), (z.mono (Nat.zero_le _)).kept K, (h.zp.ext e).kept K, ?_, Ext.set_ (Ext.set_ (h.ex.trans e) hlt) hlt⟩
  · rw [frozen_set, frozen_set]; exact e.frozen h.t0 h.f0
  · rw [frozen_set, frozen_set]; exact e.frozen h.t1 h.f1
  · exact ((World.cell?_setCell_other _ _ _ _ (hne _ _)).trans (World.cell?_setCell_other _ _ _ _ (hne _ _))).trans (e.cell h.p0)
  · exact ((World.cell?_setCell_other _ _ _ _ (hne _ _)).trans (World.cell?_setCell_other _ _ _ _ (hne _ _))).trans (e.cell h.p1)
  · rw [frozen_set, frozen_set]; exact e.frozen h.p0 h.h0
  · rw [frozen_set, frozen_set]; exact e.frozen h.p1 h.h1
  · obtain ⟨vals, ho, hb⟩ := h.ow
    refine ⟨vals, ownsRow_same ho fun b h1 h2 => ?_, hb⟩
    exact (Below.heap_setCell _ ⟨g, 1, none⟩ _ b (by show b ≠ g; omega)).trans ((Below.heap_setCell _ ⟨g, 0, none⟩ _ b (by show b ≠ g; omega)).trans (Below.block e b h2))
theorem LB.prod (h : LB w wr g x y k xs s A L c s' A' L' c' Ab cb) (e : Ext wr w5) (z : ZO w5 B s2 A2 c2 L2 x2) :
    LB w ((w5.setCell ⟨g + 1, 0, none⟩ (.bool s2)).setCell ⟨g + 1, 1, none⟩ (.slice A2 L2 c2)) g x x2 k xs s A L c s2 A2 L2 c2 Ab cb := by
  have hlt := h.lt
  obtain ⟨r5, r6⟩ := res_set (r1 := .bool s2) (r2 := .slice A2 L2 c2) (e.cell h.p0) (e.cell h.p1)
  have hne : ∀ i j : Nat, (⟨g + 1, i, none⟩ : Addr) ≠ ⟨g, j, none⟩ := fun i j e => by injection e with e1; omega
  have ib := h.i1.ext e
  have K : Kept w5 ((w5.setCell ⟨g + 1, 0, none⟩ (.bool s2)).setCell ⟨g + 1, 1, none⟩ (.slice A2 L2 c2)) := Kept.setI (IsBox.set_ ib) (Kept.setI ib (Kept.refl _))
  refine ⟨hlt, ?_, ?_, ?_, ?_, r5, r6, ?_, ?_, IsBox.set_ (IsBox.set_ (h.i0.ext e)), IsBox.set_ (IsBox.set_ ib), (h.zs.ext e).kept K, (z.mono (Nat.zero_le _)).kept K, ?_, Ext.set_ (Ext.set_ (h.ex.trans e) (by omega)) (by omega)⟩
  · exact ((World.cell?_setCell_other _ _ _ _ (hne _ _)).trans (World.cell?_setCell_other _ _ _ _ (hne _ _))).trans (e.cell h.t0)
  · exact ((World.cell?_setCell_other _ _ _ _ (hne _ _)).trans (World.cell?_setCell_other _ _ _ _ (hne _ _))).trans (e.cell h.t1)
  · rw [frozen_set, frozen_set]; exact e.frozen h.t0 h.f0
  · rw [frozen_set, frozen_set]; exact e.frozen h.t1 h.f1
  · rw [frozen_set, frozen_set]; exact e.frozen h.p0 h.h0
  · rw [frozen_set, frozen_set]; exact e.frozen h.p1 h.h1
  · obtain ⟨vals, ho, hb⟩ := h.ow
    refine ⟨vals, ownsRow_same ho fun b h1 h2 => ?_, hb⟩
    exact (Below.heap_setCell _ ⟨g + 1, 1, none⟩ _ b (by show b ≠ g + 1; omega)).trans ((Below.heap_setCell _ ⟨g + 1, 0, none⟩ _ b (by show b ≠ g + 1; omega)).trans (Below.block e b h2))
end
section
variable {P : Program} {w : World} {ops : Array Oper} {rest : List Oper} {o : Oper} {a : Act} {Q : Exit → Act → World → Prop}
/-- 'append(s, v)': one struct of two cells. -/
theorem wpList_app1_2 (hgd : o.guard = none) (s x : Operand) (t : TypeId) (ho : o.op = .call { callee := .builtin .append, args := #[s, x], argTypes := #[t, t] })
    (B : Nat) (e : TypeId) (z : Value) (by_ : Nat) (ht : P.underlying t = some (.slice e)) (hi : (P.info? e).map (fun i => (i.zero, i.size, i.bytes)) = some (some z, 2, by_)) (hzs : z.cells.size = 2) (hb8 : by_ ≤ 64)
    (A : Option Addr) (c n : Nat) (vals : List Value) (hs : a.eval s = .slice A n c) (hown : w.ownsRow B e 2 (.slice A n c) n vals)
    (g : Nat) (v0 v1 : Value) (hx : a.eval x = .slice (some ⟨g, 0, none⟩) 1 1) (hc0 : w.cell? ⟨g, 0, none⟩ = some v0) (hc1 : w.cell? ⟨g, 1, none⟩ = some v1) (o0 : v0.oneCell' = true) (o1 : v1.oneCell' = true)
    (hlen : n ≤ 1000) (hB : B ≤ w.heap.size)
    (h : ∀ A' c' w', w'.ownsRow B e 2 (.slice A' (n + 1) c') (n + 1) (vals ++ [v0, v1]) → w.grownBy w' (Value.slice A n c).ownBlock → wpList P ops Q rest (a.put o.dst (.slice A' (n + 1) c')) w') : wpList P ops Q (o :: rest) a w := by
  obtain ⟨i, hi1, hz, hsz, hby⟩ := info_parts hi
  refine wpList_append_own w hgd s x t ho B e i z 2 by_ ht hi1 hz hsz hby hzs (by omega) _ n vals hs hown ⟨g, 0, none⟩ 1 1 [v0, v1] hx (by simp) ?_ ?_ (by unfold maxLen; omega) ?_ hB ?_
  · intro j u hj
    match j, hj with
    | 0, hj => simp at hj; subst hj; simpa [Addr.add] using hc0
    | 1, hj => simp at hj; subst hj; simpa [Addr.add] using hc1
    | j + 2, hj => simp at hj
  · intro u hu
    simp at hu
    rcases hu with rfl | rfl
    · exact o0
    · exact o1
  · have : (n + 1) * by_ ≤ (n + 1) * 64 := Nat.mul_le_mul_left _ hb8
    omega
  · intro v' w' how hgr _
    rcases how.2 with ⟨_, hn⟩ | ⟨g', cap, cur, hv, _⟩
    · omega
    · subst hv
      exact h _ _ w' how hgr
end
theorem LB.app {w wr wa w' : World} {g k c L c' L' cb c2 L2 cb' : Nat} {x y : Int} {xs : List Int} {s s' s2 : Bool} {A A' Ab A2 Ab' : Option Addr} {vals : List Value} (h : LB w wr g x y k xs s A L c s' A' L' c' Ab cb) (e : Ext wr wa)
    (ho : wa.ownsRow (g + 2) 25 2 (.slice Ab k cb) k vals) (hbk : BackOf w xs k vals)
    (hn : w'.ownsRow (g + 2) 25 2 (.slice Ab' (k + 1) cb') (k + 1) (vals ++ [.bool s2, .slice A2 L2 c2])) (hg : wa.grownBy w' (Value.slice Ab k cb).ownBlock)
    (hv : ∀ (hl : xs.length - 1 - k < xs.length), ZV w s2 A2 c2 L2 xs[xs.length - 1 - k]) : LB w w' g x y (k + 1) xs s A L c s' A' L' c' Ab' cb' := by
  have hlt := h.lt
  have hrow : ∀ b, (Value.slice Ab k cb).ownBlock = some b → g + 2 ≤ b := fun b hb => (World.ownsRow.lt ho b hb).1
  have hbx : ∀ b, (Value.slice Ab k cb).ownBlock = some b → IsBox wa b 25 := fun b hb => by
    rcases ho.2 with ⟨h1, h2⟩ | ⟨g', cap, cur, h1, h2, h3, _⟩
    · rw [h1] at hb; cases hb
    · rw [h1] at hb; injection hb with hb; subst hb; exact ⟨cur, _, h3⟩
  have K := Kept.grown hg hbx plain_int
  have blk : ∀ b, b < g + 2 → b < wa.heap.size → w'.heap[b]? = wa.heap[b]? := fun b h1 h2 => hg.block b h2 (fun e => by have := hrow b e.symm; omega)
  have hg0 : g < wa.heap.size := World.block_lt_of_cell? wa _ (e.cell h.t0)
  have hg1 : g + 1 < wa.heap.size := World.block_lt_of_cell? wa _ (e.cell h.p0)
  have b0 := blk g (by omega) hg0
  have b1 := blk (g + 1) (by omega) hg1
  have cell0 : ∀ i, w'.cell? ⟨g, i, none⟩ = wa.cell? ⟨g, i, none⟩ := fun i => World.cell?_of_block b0
  have cell1 : ∀ i, w'.cell? ⟨g + 1, i, none⟩ = wa.cell? ⟨g + 1, i, none⟩ := fun i => World.cell?_of_block b1
  have fr0 : ∀ i, w'.frozen? ⟨g, i, none⟩ = wa.frozen? ⟨g, i, none⟩ := fun i => World.frozen?_of_block b0
  have fr1 : ∀ i, w'.frozen? ⟨g + 1, i, none⟩ = wa.frozen? ⟨g + 1, i, none⟩ := fun i => World.frozen?_of_block b1
  have hb : Below (g + 2) wa w' := (Below.refl (g + 2) wa).grown hg (by omega) (fun b hb => hrow b hb)
  refine ⟨hlt, (cell0 _).trans (e.cell h.t0), (cell0 _).trans (e.cell h.t1), (fr0 _).trans (e.frozen h.t0 h.f0), (fr0 _).trans (e.frozen h.t1 h.f1), (cell1 _).trans (e.cell h.p0), (cell1 _).trans (e.cell h.p1), (fr1 _).trans (e.frozen h.p0 h.h0), (fr1 _).trans (e.frozen h.p1 h.h1),
    ?_, ?_, (h.zs.ext e).kept K, (h.zp.ext e).kept K, ⟨_, hn, ?_⟩, Ext.step (h.ex.trans e) hb (by omega)⟩
  · obtain ⟨cur, fr, hh⟩ := h.i0.ext e
    exact ⟨cur, fr, b0.trans hh⟩
  · obtain ⟨cur, fr, hh⟩ := h.i1.ext e
    exact ⟨cur, fr, b1.trans hh⟩
  · intro j hj hl
    have hlen : vals.length = k * 2 := ho.1
    by_cases hjk : j < k
    · obtain ⟨s3, A3, c3, L3, e0, e1, hz⟩ := hbk j hjk hl
      refine ⟨s3, A3, c3, L3, ?_, ?_, hz⟩
      · rw [List.getElem?_append_left (by omega)]; exact e0
      · rw [List.getElem?_append_left (by omega)]; exact e1
    · obtain rfl : j = k := by omega
      refine ⟨s2, A2, c2, L2, ?_, ?_, hv hl⟩
      · rw [List.getElem?_append_right (by omega), show 2 * j - vals.length = 0 from by omega]; rfl
      · rw [List.getElem?_append_right (by omega), show 2 * j + 1 - vals.length = 1 from by omega]; rfl
end Go.Proofs.Ytcccabgeoaidjaa
