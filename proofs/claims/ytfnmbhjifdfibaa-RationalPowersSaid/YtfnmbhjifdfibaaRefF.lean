/- Contracts of package cylinderref02 (a sign and bits), first part. -/
import Derived.Test.YtfnmbhjifdfibaaRefD
import Derived.Test.YtfnmbhjifdfibaaRefE
import Derived.Test.YtfnmbhjifdfibaaIntB
namespace Go.Proofs.Ytfnmbhjifdfibaa
open Go.RowKit

/-- An integer of the reference: its sign and the canonical bits of its absolute value. -/
structure RZ (w : World) (sg : Int) (A : Option Addr) (c L : Nat) (x : Int) : Prop where
  bn : BN w A c x.natAbs
  sign : sg = x.sign
  len : L = (digs 2 x.natAbs).length
theorem RZ.ext {w w' : World} {sg : Int} {A : Option Addr} {c L : Nat} {x : Int} (h : RZ w sg A c L x) (hx : Ext w w') : RZ w' sg A c L x := ⟨h.bn.ext hx, h.sign, h.len⟩
/-- The call returns the integer x of the reference, and changes nothing. -/
def RetRZ (w : World) (x : Int) (e : Ending) (w' : World) : Prop := ∃ sg A c L, e = .returned (.agg #[.int .i64 sg, .slice A L c]) ∧ RZ w' sg A c L x ∧ Ext w w'

theorem cells_set {w : World} {p : Addr} {v : Value} {b : Nat} {cur : Array Value} {T : TypeId} {fr : Nat × Nat} (h : w.heap[b]? = some (.cells cur T fr)) : ∃ cur', (w.setCell p v).heap[b]? = some (.cells cur' T fr) := by
  by_cases hb : b = p.block
  · subst hb
    simp only [World.setCell, Array.getElem?_modify, h, if_true, Option.map_some]
    exact ⟨_, rfl⟩
  · exact ⟨cur, (Below.heap_setCell w p v b hb).trans h⟩
/-- Canonical bits do not lie in a cell that holds a zero and a slice: writing it leaves them as they are. -/
theorem BN.set_ {w : World} {A B : Option Addr} {c c' l' n g : Nat} {r1 r2 : Value} (h : BN w A c n) (q1 : w.cell? ⟨g, 0, none⟩ = some (.int .i64 0)) (q2 : w.cell? ⟨g, 1, none⟩ = some (.slice B l' c')) :
    BN ((w.setCell ⟨g, 0, none⟩ r1).setCell ⟨g, 1, none⟩ r2) A c n := by
  refine ⟨fun j hj => ?_, h.le, h.cap, h.nz, fun b o s e => by obtain ⟨cur, fr, hh⟩ := h.ty b o s e; obtain ⟨c1, h1⟩ := cells_set (p := ⟨g, 0, none⟩) (v := r1) hh; obtain ⟨c2, h2⟩ := cells_set (p := ⟨g, 1, none⟩) (v := r2) h1; exact ⟨c2, fr, h2⟩⟩
  obtain ⟨b, o, hA, hb, hc⟩ := h.rd j hj
  refine ⟨b, o, hA, by simpa using hb, ?_⟩
  by_cases hg : b = g
  · subst hg
    have hne1 : ∀ i (hi : i < (digs 2 n).length), o + i ≠ 1 := fun i hi he => by
      obtain ⟨b', o', hA', _, hc'⟩ := h.rd i hi
      rw [hA] at hA'
      injection hA' with hA'
      injection hA' with e1 e2
      subst e1 e2
      rw [he, q2] at hc'
      cases hc'
    have hj0 : o + j ≠ 0 := fun he => by
      have hl2 : ¬ 1 < (digs 2 n).length := fun h1 => hne1 1 h1 (by omega)
      have hjz : j = 0 := by omega
      subst hjz
      rw [he, q1] at hc
      have hd : (digs 2 n)[0] = 0 := by
        injection hc with hc
        injection hc with _ hc
        omega
      apply getLast_digs (B := 2) (by omega) n
      rw [List.getLast?_eq_getElem?, show (digs 2 n).length - 1 = 0 from by omega, List.getElem?_eq_getElem hj, hd]
    have hj1 := hne1 j hj
    have e1 : ∀ k : Nat, (⟨k, 1, none⟩ : Addr) ≠ ⟨k, o + j, none⟩ := fun k he => by injection he with _ h2; omega
    have e0 : ∀ k : Nat, (⟨k, 0, none⟩ : Addr) ≠ ⟨k, o + j, none⟩ := fun k he => by injection he with _ h2; omega
    exact ((World.cell?_setCell_other _ _ _ _ (e1 _)).trans (World.cell?_setCell_other _ _ _ _ (e0 _))).trans hc
  · have hb' : ((w.setCell ⟨g, 0, none⟩ r1).setCell ⟨g, 1, none⟩ r2).heap[b]? = w.heap[b]? :=
      (Below.heap_setCell _ ⟨g, 1, none⟩ _ b hg).trans (Below.heap_setCell _ ⟨g, 0, none⟩ _ b hg)
    exact (World.cell?_of_block hb').trans hc

theorem make_rz {w : World} {s : Bool} {A : Option Addr} {c n : Nat} {x : Int} (h : BN w A c n) (hn : x.natAbs = n) (h1 : s = true → x ≤ 0) (h2 : s = false → 0 ≤ x) :
    Calls Try.prog 70 #[.bool s, .slice A (digs 2 n).length c] w (RetRZ w x) := by
  have HT : Hid (∀ w', Ext w w' → Calls Try.prog 109 #[.slice A (digs 2 n).length c] w' fun e w'' => e = .returned (.slice A (digs 2 n).length c) ∧ w' = w'') := fun w' hx => rtrim_bn (h.ext hx)
  have hz := len_zero2 n
  by_cases h0 : n = 0
  · have hz1 : (((digs 2 n).length : Int) == 0) = true := by rw [hz]; simp [h0]
    have hx0 : x = 0 := by omega
    have HX : Hid (∀ w' : World, RZ w' 0 none 0 0 x) := fun w' => by
      subst hx0
      exact ⟨Own.bn (n := 0) (Own.none_ _ 0 _ _), rfl, rfl⟩
    clear h h1 h2 hn hx0 hz h0
    generalize (digs 2 n).length = L at *
    go_enter Try.func70, Try.ntmps70
    go_wp2_with fail
    refine (HT.out _ (Ext.alloc _ _)).mono ?_
    rintro e w' ⟨rfl, rfl⟩
    go_wp2_with fail
    refine bodyPost_ret (v := .agg #[.int .i64 0, .slice none 0 0]) (by simp [results, Try.results70, go_sem]) rfl ?_
    exact ⟨_, _, _, _, rfl, HX.out _, Ext.alloc _ _⟩
  · have hz1 : (((digs 2 n).length : Int) == 0) = false := by rw [hz]; simpa using h0
    cases s
    · have HX : Hid (∀ w', Ext w w' → RZ w' 1 A c (digs 2 n).length x) := fun w' hx => ⟨by rw [hn]; exact h.ext hx, (Int.sign_eq_one_of_pos (by have := h2 rfl; omega)).symm, by rw [hn]⟩
      clear h h1 h2 hn hz h0
      generalize (digs 2 n).length = L at *
      go_enter Try.func70, Try.ntmps70
      go_wp2_with fail
      refine (HT.out _ (Ext.alloc _ _)).mono ?_
      rintro e w' ⟨rfl, rfl⟩
      go_wp2_with fail
      refine bodyPost_ret (v := .agg #[.int .i64 1, .slice A L c]) (by simp [results, Try.results70, go_sem]) rfl ?_
      have hx : Ext w (w.alloc (.cells #[.int .i64 1, .slice A L c] 36)) := Ext.alloc _ _
      exact ⟨_, _, _, _, rfl, HX.out _ hx, hx⟩
    · have HX : Hid (∀ w', Ext w w' → RZ w' (-1) A c (digs 2 n).length x) := fun w' hx => ⟨by rw [hn]; exact h.ext hx, (Int.sign_eq_neg_one_of_neg (by have := h1 rfl; omega)).symm, by rw [hn]⟩
      clear h h1 h2 hn hz h0
      generalize (digs 2 n).length = L at *
      go_enter Try.func70, Try.ntmps70
      go_wp2_with fail
      refine (HT.out _ (Ext.alloc _ _)).mono ?_
      rintro e w' ⟨rfl, rfl⟩
      go_wp2_with fail
      refine bodyPost_ret (v := .agg #[.int .i64 (-1), .slice A L c]) (by simp [results, Try.results70, go_sem]) rfl ?_
      have hx : Ext w (w.alloc (.cells #[.int .i64 (-1), .slice A L c] 36)) := Ext.alloc _ _
      exact ⟨_, _, _, _, rfl, HX.out _ hx, hx⟩

/-- The end of a function that returns an integer of the reference. -/
theorem fin_rz {w w4 : World} {g c L c' l' : Nat} {A B : Option Addr} {sg x : Int} (hg : w.heap.size ≤ g) (hx : Ext w w4) (hz : RZ w4 sg A c L x)
    (q1 : w4.cell? ⟨g, 0, none⟩ = some (.int .i64 0)) (q2 : w4.cell? ⟨g, 1, none⟩ = some (.slice B l' c')) :
    ((w4.setCell ⟨g, 0, none⟩ (.int .i64 sg)).setCell ⟨g, 1, none⟩ (.slice A L c)).cell? ⟨g, 0, none⟩ = some (.int .i64 sg) ∧
      ((w4.setCell ⟨g, 0, none⟩ (.int .i64 sg)).setCell ⟨g, 1, none⟩ (.slice A L c)).cell? ⟨g, 1, none⟩ = some (.slice A L c) ∧
      RZ ((w4.setCell ⟨g, 0, none⟩ (.int .i64 sg)).setCell ⟨g, 1, none⟩ (.slice A L c)) sg A c L x ∧ Ext w ((w4.setCell ⟨g, 0, none⟩ (.int .i64 sg)).setCell ⟨g, 1, none⟩ (.slice A L c)) := by
  obtain ⟨r5, r6⟩ := res_set (r1 := .int .i64 sg) (r2 := .slice A L c) q1 q2
  exact ⟨r5, r6, ⟨hz.bn.set_ q1 q2, hz.sign, hz.len⟩, Below.setCell (Below.setCell hx (p := ⟨g, 0, none⟩) hg _) (p := ⟨g, 1, none⟩) hg _⟩

theorem of_rz {w : World} {s : Bool} {A : Option Addr} {c L : Nat} {x : Int} (h : ZV w s A c L x) (hs : L ≤ 274877906944) :
    Calls Try.prog 18 #[.bool s, .slice A L c] w (RetRZ w x) := by
  go_enter Try.func18, Try.ntmps18
  go_wp2_with fail
  obtain ⟨w0, hw0⟩ : ∃ w0 : World, w0 = w.alloc (.cells #[.int .i64 0, .slice none 0 0] 36) := ⟨_, rfl⟩
  rw [← hw0]
  have b0 := box_new w (.int .i64 0) (.slice none 0 0) 36
  have x0 : Ext w w0 := by rw [hw0]; exact Ext.alloc _ _
  rw [← hw0] at b0
  have q1 := b0.1
  have q2 := b0.2.1
  have f1 := b0.2.2 0
  have f2 := b0.2.2 1
  clear hw0 b0
  go_wp2_with fail
  refine (rof_v (h.nv.ext x0) hs).mono ?_
  rintro e w3 ⟨A3, c3, rfl, hb, hx3⟩
  go_wp2_with fail
  refine (make_rz hb rfl h.neg h.pos).mono ?_
  rintro e w4 ⟨sg, A4, c4, L4, rfl, hz, hx4'⟩
  have hx4 := hx3.trans hx4'
  have p1 := hx4.frozen q1 f1
  have p2 := hx4.frozen q2 f2
  have t1 := hx4.cell q1
  have t2 := hx4.cell q2
  obtain ⟨r5, r6, hz', hxx⟩ := fin_rz (Nat.le_refl _) (x0.trans hx4) hz t1 t2
  go_wp2_with fail
  refine bodyPost_ret (v := .agg #[.int .i64 sg, .slice A4 L4 c4]) (by simp [results, Try.results18, go_sem, r5, r6]) rfl ?_
  exact ⟨_, _, _, _, rfl, hz', hxx⟩
end Go.Proofs.Ytfnmbhjifdfibaa
