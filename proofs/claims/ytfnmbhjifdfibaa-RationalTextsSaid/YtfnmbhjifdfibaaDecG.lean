/- Contracts of package decimal, fifth part: parse, Parse, ParseBase. -/
import Derived.Test.YtfnmbhjifdfibaaDecF
namespace Go.Proofs.Ytfnmbhjifdfibaa
open Go.RowKit
/-- The call returns the integer x in new memory and OK. -/
def RetZE (w : World) (x : Int) (e : Ending) (w' : World) : Prop := ∃ sb A c L, e = .returned (.tuple #[.agg #[.bool sb, .slice A L c], .int .i64 0]) ∧ ZO w' w.heap.size sb A c L x ∧ Ext w w'
/-- The call returns no integer and an error. -/
def RetErr (w : World) (k : Int) (e : Ending) (w' : World) : Prop := e = .returned (.tuple #[.agg #[.bool false, .slice none 0 0], .int .i64 k]) ∧ Ext w w'
theorem parse_yes {w : World} {s : ByteArray} {b : Nat} {x : Int} (h1 : 2 ≤ b) (h2 : b ≤ 36) (hs : s.size ≤ 1000000) (h : bs s = fmtL b x) : Calls Try.prog 120 #[.string s, .int .i64 b] w (RetZE w x) := by
  refine parse_walk h1 h2 hs _ ?_ ?_
  · intro neg T y sb A c L w' hst hg hy hz hx
    have h3 := good_yes h1 h2 hg
    rw [← hst, h, ← hy] at h3
    have h4 := fmtL_inj h1 h2 h3
    subst h4
    exact ⟨sb, A, c, L, rfl, hz, hx⟩
  · intro neg T w' hst hn hg hx
    rw [h] at hst
    exact absurd (good_of h1 h2 hst hn).1 hg
theorem parse_no {w : World} {s : ByteArray} {b : Nat} (h1 : 2 ≤ b) (h2 : b ≤ 36) (hs : s.size ≤ 1000000) (h : ∀ x, bs s ≠ fmtL b x) : Calls Try.prog 120 #[.string s, .int .i64 b] w (RetErr w 6) := by
  refine parse_walk h1 h2 hs _ ?_ ?_
  · intro neg T y sb A c L w' hst hg hy hz hx
    have h3 := good_yes h1 h2 hg
    rw [← hst] at h3
    exact absurd h3.symm (h _)
  · intro neg T w' hst hn hg hx
    exact ⟨rfl, hx⟩
theorem Parse_yes {w : World} {s : ByteArray} {x : Int} (hs : s.size ≤ 1000000) (h : bs s = fmtL 10 x) : Calls Try.prog 91 #[.string s] w (RetZE w x) := by
  have HP : Hid (∀ w, Calls Try.prog 120 #[.string s, .int .i64 10] w (RetZE w x)) := fun w => parse_yes (b := 10) (by omega) (by omega) hs h
  clear hs h
  obtain ⟨w0, hw0⟩ : ∃ z : World, z = w.alloc (.cells #[.bool false, .slice none 0 0] 25) := ⟨_, rfl⟩
  have hx0 : Ext w w0 := by rw [hw0]; exact Ext.alloc _ _
  have hb := box_new w (.bool false) (.slice none 0 0) 25
  rw [← hw0] at hb
  have q1 := hb.1
  have q2 := hb.2.1
  have f1 := hb.2.2 0
  have f2 := hb.2.2 1
  have HW0 := Lib.hid hw0
  have hB := World.block_lt_of_cell? w0 _ q1
  clear hb hw0
  go_enter Try.func91, Try.ntmps91
  go_wp2_with fail
  rw [← HW0.out]
  clear HW0
  refine (HP.out _).mono ?_
  rintro e w4 ⟨sb, A4, c4, L4, rfl, hz, hx4⟩
  have t1 := hx4.cell q1
  have t2 := hx4.cell q2
  have p1 := hx4.frozen q1 f1
  have p2 := hx4.frozen q2 f2
  obtain ⟨r5, r6, hz', hxx⟩ := fin_z (Nat.le_refl _) hB (hx0.trans hx4) hz t1 t2
  go_wp2_with fail
  refine bodyPost_ret (v := .tuple #[.agg #[.bool sb, .slice A4 L4 c4], .int .i64 0]) (by simp [results, Try.results91, go_sem, r5, r6]) rfl ?_
  exact ⟨_, _, _, _, rfl, hz', hxx⟩
theorem Parse_no {w : World} {s : ByteArray} (hs : s.size ≤ 1000000) (h : ∀ x, bs s ≠ fmtL 10 x) : Calls Try.prog 91 #[.string s] w (RetErr w 6) := by
  have HP : Hid (∀ w, Calls Try.prog 120 #[.string s, .int .i64 10] w (RetErr w 6)) := fun w => parse_no (b := 10) (by omega) (by omega) hs h
  clear hs h
  obtain ⟨w0, hw0⟩ : ∃ z : World, z = w.alloc (.cells #[.bool false, .slice none 0 0] 25) := ⟨_, rfl⟩
  have hx0 : Ext w w0 := by rw [hw0]; exact Ext.alloc _ _
  have hb := box_new w (.bool false) (.slice none 0 0) 25
  rw [← hw0] at hb
  have q1 := hb.1
  have q2 := hb.2.1
  have f1 := hb.2.2 0
  have f2 := hb.2.2 1
  have HW0 := Lib.hid hw0
  have hB := World.block_lt_of_cell? w0 _ q1
  clear hb hw0
  go_enter Try.func91, Try.ntmps91
  go_wp2_with fail
  rw [← HW0.out]
  clear HW0
  refine (HP.out _).mono ?_
  rintro e w4 ⟨rfl, hx4⟩
  have t1 := hx4.cell q1
  have t2 := hx4.cell q2
  have p1 := hx4.frozen q1 f1
  have p2 := hx4.frozen q2 f2
  have hxx := hx0.trans hx4
  go_wp2_with fail
  refine bodyPost_ret (v := .tuple #[.agg #[.bool false, .slice none 0 0], .int .i64 6]) (by simp [results, Try.results91, go_sem, t1, t2]) rfl ?_
  exact ⟨rfl, by repeat' (first | with_reducible exact Ext.refl _ | with_reducible assumption | with_reducible apply Ext.alloc_r | with_reducible apply Ext.drew_r | with_reducible apply Ext.drewN_r | with_reducible apply Ext.set_r | with_reducible exact Nat.le_refl _ | with_reducible refine Ext.trans ?_ ‹Ext _ _›)⟩
end Go.Proofs.Ytfnmbhjifdfibaa
