/- Contracts of package integer, second part. -/
import Derived.Test.YtfnmbhjifdfibaaIntA
namespace Go.Proofs.Ytfnmbhjifdfibaa
open Go.RowKit

/-- The end of a function that returns an integer: its cell is written. -/
theorem fin_z {w w4 : World} {B g c L : Nat} {A : Option Addr} {s : Bool} {x : Int} {v1 v2 : Value} (hg : w.heap.size ≤ g) (hB : g < B) (hx : Ext w w4) (hz : ZO w4 B s A c L x)
    (q1 : w4.cell? ⟨g, 0, none⟩ = some v1) (q2 : w4.cell? ⟨g, 1, none⟩ = some v2) :
    ((w4.setCell ⟨g, 0, none⟩ (.bool s)).setCell ⟨g, 1, none⟩ (.slice A L c)).cell? ⟨g, 0, none⟩ = some (.bool s) ∧
      ((w4.setCell ⟨g, 0, none⟩ (.bool s)).setCell ⟨g, 1, none⟩ (.slice A L c)).cell? ⟨g, 1, none⟩ = some (.slice A L c) ∧
      ZO ((w4.setCell ⟨g, 0, none⟩ (.bool s)).setCell ⟨g, 1, none⟩ (.slice A L c)) w.heap.size s A c L x ∧ Ext w ((w4.setCell ⟨g, 0, none⟩ (.bool s)).setCell ⟨g, 1, none⟩ (.slice A L c)) := by
  obtain ⟨r5, r6⟩ := res_set (r1 := .bool s) (r2 := .slice A L c) q1 q2
  refine ⟨r5, r6, ⟨Own.mono ((Own.set_far hz.no (p := ⟨g, 0, none⟩) hB _).set_far (p := ⟨g, 1, none⟩) hB _) (by omega), hz.sign, hz.len⟩, ?_⟩
  exact Below.setCell (Below.setCell hx (p := ⟨g, 0, none⟩) hg _) (p := ⟨g, 1, none⟩) hg _
/-- 'signed' of a normal number. -/
theorem zo_signed {w : World} {B c n : Nat} {A : Option Addr} {s : Bool} {x : Int} (ho : NO w B A c n) (hn : x.natAbs = n) (h1 : s = true → x ≤ 0) (h2 : s = false → 0 ≤ x) :
    ZO w B (s && decide (0 < (digs B32 n).length)) A c (digs B32 n).length x := by
  refine ⟨by rw [hn]; exact ho, ?_, by rw [hn]⟩
  rw [len_pos]
  cases s
  · exact (decide_eq_false (by have := h2 rfl; omega)).symm
  · show decide (n ≠ 0) = _
    have := h1 rfl
    rw [decide_eq_decide]
    omega

theorem from_z {w : World} {s : Bool} {A : Option Addr} {c L : Nat} {x : Int} (h : ZV w s A c L x) (hs : dl x.natAbs ≤ 17592186044416) :
    Calls Try.prog 88 #[.bool s, .slice A L c] w (RetZ w x) := by
  go_enter Try.func88, Try.ntmps88
  go_wp2_with fail
  obtain ⟨w0, hw0⟩ : ∃ w0 : World, w0 = (w.alloc (.cells #[.bool false, .slice none 0 0] 25)) := ⟨_, rfl⟩
  rw [← hw0]
  have b0 := box_new w (.bool false) (.slice none 0 0) 25
  rw [← hw0] at b0
  have y0 : Ext w w0 := by rw [hw0]; exact Ext.alloc _ _
  have x0 : Ext w w0 := y0
  have q1 := b0.1
  have q2 := b0.2.1
  have f1 := b0.2.2 0
  have f2 := b0.2.2 1
  clear hw0 b0 y0
  refine (normal_v (h.nv.ext x0) (by omega)).mono ?_
  rintro e w3 ⟨A3, c3, rfl, ho, hx3⟩
  go_wp2_with fail
  refine signed_any.mono ?_
  rintro e w4 ⟨rfl, hx4'⟩
  have hx4 := hx3.trans hx4'
  have hB := World.block_lt_of_cell? w0 _ q1
  have hz := zo_signed (ho.ext hx4') rfl h.neg h.pos
  have p1 := hx4.frozen q1 f1
  have p2 := hx4.frozen q2 f2
  have t1 := hx4.cell q1
  have t2 := hx4.cell q2
  obtain ⟨r5, r6, hz', hxx⟩ := fin_z (Nat.le_refl _) hB (x0.trans hx4) hz t1 t2
  generalize (s && decide (0 < (digs B32 x.natAbs).length)) = s' at *
  generalize (digs B32 x.natAbs).length = L' at *
  go_wp2_with fail
  refine bodyPost_ret (v := .agg #[.bool s', .slice A3 L' c3]) (by simp [results, Try.results88, go_sem, r5, r6]) rfl ?_
  exact ⟨_, _, _, _, rfl, hz', hxx⟩

theorem ZV.neg_ {w : World} {s : Bool} {A : Option Addr} {c L : Nat} {x : Int} (h : ZV w s A c L x) : ZV w (!s) A c L (-x) := by
  refine ⟨by rw [Int.natAbs_neg]; exact h.nv, fun hs => ?_, fun hs => ?_⟩
  · have := h.pos (by simpa using hs); omega
  · have := h.neg (by simpa using hs); omega
theorem ZV.abs_ {w : World} {s : Bool} {A : Option Addr} {c L : Nat} {x : Int} (h : ZV w s A c L x) : ZV w false A c L (x.natAbs : Int) :=
  ⟨by rw [Int.natAbs_natCast]; exact h.nv, (fun hs => by cases hs), fun _ => Int.natCast_nonneg _⟩

theorem znormal_z {w : World} {s : Bool} {A : Option Addr} {c L : Nat} {x : Int} (h : ZV w s A c L x) (hs : dl x.natAbs ≤ 17592186044416) :
    Calls Try.prog 75 #[.agg #[.bool s, .slice A L c]] w (RetZ w x) := by
  go_enter Try.func75, Try.ntmps75
  go_wp2_with fail
  obtain ⟨w0, hw0⟩ : ∃ w0 : World, w0 = ((w.alloc (.cells #[.bool s, .slice A L c] 25)).alloc (.cells #[.bool false, .slice none 0 0] 25)) := ⟨_, rfl⟩
  rw [← hw0]
  have b0 := box_new w (.bool s) (.slice A L c) 25
  have b1 := box_new (w.alloc (.cells #[.bool s, .slice A L c] 25)) (.bool false) (.slice none 0 0) 25
  rw [← hw0] at b1
  have y1 : Ext (w.alloc (.cells #[.bool s, .slice A L c] 25)) w0 := by rw [hw0]; exact Ext.alloc _ _
  have y0 : Ext w w0 := (Ext.alloc _ _).trans y1
  have x0 : Ext w w0 := y0
  have e0a := y1.cell b0.1
  have e0b := y1.cell b0.2.1
  have q1 := b1.1
  have q2 := b1.2.1
  have f1 := b1.2.2 0
  have f2 := b1.2.2 1
  simp at q1 q2 f1 f2
  clear hw0 b0 b1 y0 y1
  go_wp2_with fail
  refine (from_z (h.ext x0) hs).mono ?_
  rintro e w4 ⟨s4, A4, c4, L4, rfl, hz, hx4⟩
  have hB := World.block_lt_of_cell? w0 _ q1
  have p1 := hx4.frozen q1 f1
  have p2 := hx4.frozen q2 f2
  have t1 := hx4.cell q1
  have t2 := hx4.cell q2
  obtain ⟨r5, r6, hz', hxx⟩ := fin_z (Nat.le_succ _) hB (x0.trans hx4) hz t1 t2
  go_wp2_with fail
  refine bodyPost_ret (v := .agg #[.bool s4, .slice A4 L4 c4]) (by simp [results, Try.results75, go_sem, r5, r6]) rfl ?_
  exact ⟨_, _, _, _, rfl, hz', hxx⟩

theorem abs_z {w : World} {s : Bool} {A : Option Addr} {c L : Nat} {x : Int} (h : ZV w s A c L x) (hs : dl x.natAbs ≤ 17592186044416) :
    Calls Try.prog 61 #[.agg #[.bool s, .slice A L c]] w (RetZ w (x.natAbs : Int)) := by
  go_enter Try.func61, Try.ntmps61
  go_wp2_with fail
  obtain ⟨w0, hw0⟩ : ∃ w0 : World, w0 = ((w.alloc (.cells #[.bool s, .slice A L c] 25)).alloc (.cells #[.bool false, .slice none 0 0] 25)) := ⟨_, rfl⟩
  rw [← hw0]
  have b0 := box_new w (.bool s) (.slice A L c) 25
  have b1 := box_new (w.alloc (.cells #[.bool s, .slice A L c] 25)) (.bool false) (.slice none 0 0) 25
  rw [← hw0] at b1
  have y1 : Ext (w.alloc (.cells #[.bool s, .slice A L c] 25)) w0 := by rw [hw0]; exact Ext.alloc _ _
  have y0 : Ext w w0 := (Ext.alloc _ _).trans y1
  have x0 : Ext w w0 := y0
  have e0a := y1.cell b0.1
  have e0b := y1.cell b0.2.1
  have q1 := b1.1
  have q2 := b1.2.1
  have f1 := b1.2.2 0
  have f2 := b1.2.2 1
  simp at q1 q2 f1 f2
  clear hw0 b0 b1 y0 y1
  go_wp2_with fail
  refine (from_z (h.abs_.ext x0) (by rw [Int.natAbs_natCast]; exact hs)).mono ?_
  rintro e w4 ⟨s4, A4, c4, L4, rfl, hz, hx4⟩
  have hB := World.block_lt_of_cell? w0 _ q1
  have p1 := hx4.frozen q1 f1
  have p2 := hx4.frozen q2 f2
  have t1 := hx4.cell q1
  have t2 := hx4.cell q2
  obtain ⟨r5, r6, hz', hxx⟩ := fin_z (Nat.le_succ _) hB (x0.trans hx4) hz t1 t2
  go_wp2_with fail
  refine bodyPost_ret (v := .agg #[.bool s4, .slice A4 L4 c4]) (by simp [results, Try.results61, go_sem, r5, r6]) rfl ?_
  exact ⟨_, _, _, _, rfl, hz', hxx⟩

theorem neg_z {w : World} {s : Bool} {A : Option Addr} {c L : Nat} {x : Int} (h : ZV w s A c L x) (hs : dl x.natAbs ≤ 17592186044416) :
    Calls Try.prog 72 #[.agg #[.bool s, .slice A L c]] w (RetZ w (-x)) := by
  go_enter Try.func72, Try.ntmps72
  go_wp2_with fail
  obtain ⟨w0, hw0⟩ : ∃ w0 : World, w0 = ((w.alloc (.cells #[.bool s, .slice A L c] 25)).alloc (.cells #[.bool false, .slice none 0 0] 25)) := ⟨_, rfl⟩
  rw [← hw0]
  have b0 := box_new w (.bool s) (.slice A L c) 25
  have b1 := box_new (w.alloc (.cells #[.bool s, .slice A L c] 25)) (.bool false) (.slice none 0 0) 25
  rw [← hw0] at b1
  have y1 : Ext (w.alloc (.cells #[.bool s, .slice A L c] 25)) w0 := by rw [hw0]; exact Ext.alloc _ _
  have y0 : Ext w w0 := (Ext.alloc _ _).trans y1
  have x0 : Ext w w0 := y0
  have e0a := y1.cell b0.1
  have e0b := y1.cell b0.2.1
  have q1 := b1.1
  have q2 := b1.2.1
  have f1 := b1.2.2 0
  have f2 := b1.2.2 1
  simp at q1 q2 f1 f2
  clear hw0 b0 b1 y0 y1
  go_wp2_with fail
  refine (from_z (h.neg_.ext x0) (by rw [Int.natAbs_neg]; exact hs)).mono ?_
  rintro e w4 ⟨s4, A4, c4, L4, rfl, hz, hx4⟩
  have hB := World.block_lt_of_cell? w0 _ q1
  have p1 := hx4.frozen q1 f1
  have p2 := hx4.frozen q2 f2
  have t1 := hx4.cell q1
  have t2 := hx4.cell q2
  obtain ⟨r5, r6, hz', hxx⟩ := fin_z (Nat.le_succ _) hB (x0.trans hx4) hz t1 t2
  go_wp2_with fail
  refine bodyPost_ret (v := .agg #[.bool s4, .slice A4 L4 c4]) (by simp [results, Try.results72, go_sem, r5, r6]) rfl ?_
  exact ⟨_, _, _, _, rfl, hz', hxx⟩

theorem sign_z {w : World} {s : Bool} {A : Option Addr} {c L : Nat} {x : Int} (h : ZV w s A c L x) :
    Calls Try.prog 33 #[.agg #[.bool s, .slice A L c]] w fun e w' => e = .returned (.int .i64 x.sign) ∧ Ext w w' := by
  by_cases h0 : x = 0
  · have hz : (x.natAbs == 0) = true := by simp [h0]
    have HS : Hid (x.sign = 0) := by show _ = _; rw [h0]; rfl
    go_enter Try.func33, Try.ntmps33
    go_wp2_with fail
    obtain ⟨w0, hw0⟩ : ∃ w0 : World, w0 = (w.alloc (.cells #[.bool s, .slice A L c] 25)) := ⟨_, rfl⟩
    rw [← hw0]
    have b0 := box_new w (.bool s) (.slice A L c) 25
    rw [← hw0] at b0
    have y0 : Ext w w0 := by rw [hw0]; exact Ext.alloc _ _
    have x0 : Ext w w0 := y0
    have e0a := b0.1
    have e0b := b0.2.1
    clear hw0 b0 y0
    go_wp2_with fail
    refine (isZero_v (h.nv.ext x0)).mono ?_
    rintro e w' ⟨rfl, rfl⟩
    rw [hz]
    go_wp2_with fail
    go_ret
    exact ⟨by rw [HS.out]; rfl, x0⟩
  · have hz : (x.natAbs == 0) = false := by simp; omega
    cases s
    · have HS : Hid (x.sign = 1) := by show _ = _; exact Int.sign_eq_one_of_pos (by have := h.pos rfl; omega)
      go_enter Try.func33, Try.ntmps33
      go_wp2_with fail
      obtain ⟨w0, hw0⟩ : ∃ w0 : World, w0 = (w.alloc (.cells #[.bool false, .slice A L c] 25)) := ⟨_, rfl⟩
      rw [← hw0]
      have b0 := box_new w (.bool false) (.slice A L c) 25
      rw [← hw0] at b0
      have y0 : Ext w w0 := by rw [hw0]; exact Ext.alloc _ _
      have x0 : Ext w w0 := y0
      have e0a := b0.1
      have e0b := b0.2.1
      clear hw0 b0 y0
      go_wp2_with fail
      refine (isZero_v (h.nv.ext x0)).mono ?_
      rintro e w' ⟨rfl, rfl⟩
      rw [hz]
      go_wp2_with fail
      go_ret
      exact ⟨by rw [HS.out]; rfl, x0⟩
    · have HS : Hid (x.sign = -1) := by show _ = _; exact Int.sign_eq_neg_one_of_neg (by have := h.neg rfl; omega)
      go_enter Try.func33, Try.ntmps33
      go_wp2_with fail
      obtain ⟨w0, hw0⟩ : ∃ w0 : World, w0 = (w.alloc (.cells #[.bool true, .slice A L c] 25)) := ⟨_, rfl⟩
      rw [← hw0]
      have b0 := box_new w (.bool true) (.slice A L c) 25
      rw [← hw0] at b0
      have y0 : Ext w w0 := by rw [hw0]; exact Ext.alloc _ _
      have x0 : Ext w w0 := y0
      have e0a := b0.1
      have e0b := b0.2.1
      clear hw0 b0 y0
      go_wp2_with fail
      refine (isZero_v (h.nv.ext x0)).mono ?_
      rintro e w' ⟨rfl, rfl⟩
      rw [hz]
      go_wp2_with fail
      go_ret
      exact ⟨by rw [HS.out]; rfl, x0⟩

theorem of_z {w : World} {n : Int} (hn : -9223372036854775808 ≤ n ∧ n ≤ 9223372036854775807) : Calls Try.prog 56 #[.int .i64 n] w (RetZ w n) := by
  obtain ⟨hn1, hn2⟩ := hn
  have HO : Hid (∀ (w : World) (e : Int), e = (n.natAbs : Nat) → Calls Try.prog 76 #[.int .u64 e] w (RetN w n.natAbs)) := fun w e he => by subst he; exact of_any _ (by omega)
  rcases Int.lt_or_le n 0 with h0 | h0
  · have hdn : decide (n < 0) = true := by exact decide_eq_true h0
    go_enter Try.func56, Try.ntmps56
    go_wp2_with fail
    obtain ⟨w0, hw0⟩ : ∃ w0 : World, w0 = (w.alloc (.cells #[.bool false, .slice none 0 0] 25)) := ⟨_, rfl⟩
    rw [← hw0]
    have b0 := box_new w (.bool false) (.slice none 0 0) 25
    rw [← hw0] at b0
    have y0 : Ext w w0 := by rw [hw0]; exact Ext.alloc _ _
    have x0 : Ext w w0 := y0
    have q1 := b0.1
    have q2 := b0.2.1
    have f1 := b0.2.2 0
    have f2 := b0.2.2 1
    clear hw0 b0 y0
    go_wp2_with fail
    refine (HO.out _ _ (by first | omega | (have e : ∀ z : Int, IntKind.u64.wrap z = z % 18446744073709551616 := fun z => rfl; rw [e, e]; omega))).mono ?_
    rintro e w4 ⟨A4, c4, rfl, ho, hx4⟩
    have hB := World.block_lt_of_cell? w0 _ q1
    have p1 := hx4.frozen q1 f1
    have p2 := hx4.frozen q2 f2
    have t1 := hx4.cell q1
    have t2 := hx4.cell q2
    have hz : ZO w4 w0.heap.size true A4 c4 (digs B32 n.natAbs).length n := ⟨ho, hdn.symm, rfl⟩
    obtain ⟨r5, r6, hz', hxx⟩ := fin_z (Nat.le_refl _) hB (x0.trans hx4) hz t1 t2
    generalize (digs B32 n.natAbs).length = L' at *
    go_wp2_with fail
    refine bodyPost_ret (v := .agg #[.bool true, .slice A4 L' c4]) (by simp [results, Try.results56, go_sem, r5, r6]) rfl ?_
    exact ⟨_, _, _, _, rfl, hz', hxx⟩
  · have hdn : decide (n < 0) = false := by exact decide_eq_false (by omega)
    go_enter Try.func56, Try.ntmps56
    go_wp2_with fail
    obtain ⟨w0, hw0⟩ : ∃ w0 : World, w0 = (w.alloc (.cells #[.bool false, .slice none 0 0] 25)) := ⟨_, rfl⟩
    rw [← hw0]
    have b0 := box_new w (.bool false) (.slice none 0 0) 25
    rw [← hw0] at b0
    have y0 : Ext w w0 := by rw [hw0]; exact Ext.alloc _ _
    have x0 : Ext w w0 := y0
    have q1 := b0.1
    have q2 := b0.2.1
    have f1 := b0.2.2 0
    have f2 := b0.2.2 1
    clear hw0 b0 y0
    go_wp2_with fail
    refine (HO.out _ _ (by first | omega | (have e : ∀ z : Int, IntKind.u64.wrap z = z % 18446744073709551616 := fun z => rfl; rw [e, e]; omega))).mono ?_
    rintro e w4 ⟨A4, c4, rfl, ho, hx4⟩
    have hB := World.block_lt_of_cell? w0 _ q1
    have p1 := hx4.frozen q1 f1
    have p2 := hx4.frozen q2 f2
    have t1 := hx4.cell q1
    have t2 := hx4.cell q2
    have hz : ZO w4 w0.heap.size false A4 c4 (digs B32 n.natAbs).length n := ⟨ho, hdn.symm, rfl⟩
    obtain ⟨r5, r6, hz', hxx⟩ := fin_z (Nat.le_refl _) hB (x0.trans hx4) hz t1 t2
    generalize (digs B32 n.natAbs).length = L' at *
    go_wp2_with fail
    refine bodyPost_ret (v := .agg #[.bool false, .slice A4 L' c4]) (by simp [results, Try.results56, go_sem, r5, r6]) rfl ?_
    exact ⟨_, _, _, _, rfl, hz', hxx⟩

/-- The order of two integers: -1, 0, 1. -/
def cmpZ (x y : Int) : Int := if x < y then -1 else if y < x then 1 else 0
theorem cmpZ_lt {x y : Int} (h : x < y) : cmpZ x y = -1 := if_pos h
theorem cmpZ_gt {x y : Int} (h : y < x) : cmpZ x y = 1 := by unfold cmpZ; rw [if_neg (by omega), if_pos h]
theorem cmpZ_eq (x : Int) : cmpZ x x = 0 := by unfold cmpZ; rw [if_neg (by omega), if_neg (by omega)]
theorem cmpZ_pos {x y : Int} (hx : 0 ≤ x) (hy : 0 ≤ y) : cmpN x.natAbs y.natAbs = cmpZ x y := by
  unfold cmpN cmpZ
  split <;> split <;> (try split) <;> (try split) <;> omega
theorem cmpZ_neg {x y : Int} (hx : x ≤ 0) (hy : y ≤ 0) : cmpN y.natAbs x.natAbs = cmpZ x y := by
  unfold cmpN cmpZ
  split <;> split <;> (try split) <;> (try split) <;> omega
theorem sign_cases (x : Int) : (x < 0 ∧ x.sign = -1) ∨ (x = 0 ∧ x.sign = 0) ∨ (0 < x ∧ x.sign = 1) := by
  rcases Int.lt_trichotomy x 0 with h | h | h
  · exact .inl ⟨h, Int.sign_eq_neg_one_of_neg h⟩
  · exact .inr (.inl ⟨h, by rw [h]; rfl⟩)
  · exact .inr (.inr ⟨h, Int.sign_eq_one_of_pos h⟩)

theorem cmp_z {w : World} {s1 s2 : Bool} {A1 A2 : Option Addr} {c1 c2 L1 L2 : Nat} {x y : Int} (h1 : ZV w s1 A1 c1 L1 x) (h2 : ZV w s2 A2 c2 L2 y) :
    Calls Try.prog 82 #[.agg #[.bool s1, .slice A1 L1 c1], .agg #[.bool s2, .slice A2 L2 c2]] w fun e w' => e = .returned (.int .i64 (cmpZ x y)) ∧ Ext w w' := by
  have hsx := sign_cases x
  have hsy := sign_cases y
  have HW : Hid (∀ w', Ext w w' → x.sign = y.sign → x.sign < 0 → Calls Try.prog 99 #[.slice A2 L2 c2, .slice A1 L1 c1] w' fun e w'' => e = .returned (.int .i64 (cmpZ x y)) ∧ Ext w' w'') := fun w' hx he hl => by
    refine (cmp_v (h2.nv.ext hx) (h1.nv.ext hx)).mono ?_
    rintro e w'' ⟨rfl, hq⟩
    exact ⟨by rw [cmpZ_neg (by omega) (by omega)], hq.ext⟩
  have HV : Hid (∀ w', Ext w w' → x.sign = y.sign → ¬ x.sign < 0 → Calls Try.prog 99 #[.slice A1 L1 c1, .slice A2 L2 c2] w' fun e w'' => e = .returned (.int .i64 (cmpZ x y)) ∧ Ext w' w'') := fun w' hx he hl => by
    refine (cmp_v (h1.nv.ext hx) (h2.nv.ext hx)).mono ?_
    rintro e w'' ⟨rfl, hq⟩
    exact ⟨by rw [cmpZ_pos (by omega) (by omega)], hq.ext⟩
  have HL : Hid (x.sign < y.sign → cmpZ x y = -1) := fun h => cmpZ_lt (by omega)
  have HG : Hid (y.sign < x.sign → cmpZ x y = 1) := fun h => cmpZ_gt (by omega)
  have HS1 : Hid (∀ w', Ext w w' → Calls Try.prog 33 #[.agg #[.bool s1, .slice A1 L1 c1]] w' fun e w'' => e = .returned (.int .i64 x.sign) ∧ Ext w' w'') := fun w' hx => sign_z (h1.ext hx)
  have HS2 : Hid (∀ w', Ext w w' → Calls Try.prog 33 #[.agg #[.bool s2, .slice A2 L2 c2]] w' fun e w'' => e = .returned (.int .i64 y.sign) ∧ Ext w' w'') := fun w' hx => sign_z (h2.ext hx)
  have k1 : -1 ≤ x.sign ∧ x.sign ≤ 1 := by omega
  have k2 : -1 ≤ y.sign ∧ y.sign ≤ 1 := by omega
  clear hsx hsy h1 h2
  generalize x.sign = sx at *
  generalize y.sign = sy at *
  generalize cmpZ x y = R at *
  go_enter Try.func82, Try.ntmps82
  go_wp2_with fail
  obtain ⟨w0, hw0⟩ : ∃ w0 : World, w0 = ((w.alloc (.cells #[.bool s1, .slice A1 L1 c1] 25)).alloc (.cells #[.bool s2, .slice A2 L2 c2] 25)) := ⟨_, rfl⟩
  rw [← hw0]
  have b0 := box_new w (.bool s1) (.slice A1 L1 c1) 25
  have b1 := box_new (w.alloc (.cells #[.bool s1, .slice A1 L1 c1] 25)) (.bool s2) (.slice A2 L2 c2) 25
  rw [← hw0] at b1
  have y1 : Ext (w.alloc (.cells #[.bool s1, .slice A1 L1 c1] 25)) w0 := by rw [hw0]; exact Ext.alloc _ _
  have y0 : Ext w w0 := (Ext.alloc _ _).trans y1
  have x0 : Ext w w0 := y0
  have e0a := y1.cell b0.1
  have e0b := y1.cell b0.2.1
  have e1a := b1.1
  have e1b := b1.2.1
  simp at e1a e1b
  clear hw0 b0 b1 y0 y1
  go_region_held3 (fun w' => Ext w w' ∧ w'.cell? ⟨w.heap.size, 0, none⟩ = some (.bool s1) ∧ w'.cell? ⟨w.heap.size, 1, none⟩ = some (.slice A1 L1 c1) ∧ w'.cell? ⟨w.heap.size + 1, 0, none⟩ = some (.bool s2) ∧ w'.cell? ⟨w.heap.size + 1, 1, none⟩ = some (.slice A2 L2 c2))
    (first | exact ⟨hH.trans hy, hy.cell hc1, hy.cell hc2, hy.cell hc3, hy.cell hc4⟩ | exact ⟨x0.trans (Ext.drew _), e0a, e0b, e1a, e1b⟩)
    (first
      | (go_at_call_of 33 (Value.agg #[.bool s1, .slice A1 L1 c1]); obtain ⟨hH, hc1, hc2, hc3, hc4⟩ := ‹Ext w _ ∧ _ ∧ _ ∧ _ ∧ _›; refine (HS1.out _ hH).mono ?_; rintro e w3 ⟨rfl, hy⟩)
      | (go_at_call_of 33 (Value.agg #[.bool s2, .slice A2 L2 c2]); obtain ⟨hH, hc1, hc2, hc3, hc4⟩ := ‹Ext w _ ∧ _ ∧ _ ∧ _ ∧ _›; refine (HS2.out _ hH).mono ?_; rintro e w3 ⟨rfl, hy⟩))
  have d2 := hy.cell hc2
  have d4 := hy.cell hc4
  have hWx := hH.trans hy
  clear hc1 hc2 hc3 hc4 hH hy
  rcases Int.lt_trichotomy sx sy with h | h | h
  · have HR : Hid (R = -1) := HL.out h
    go_wp2_with fail
    go_ret
    exact ⟨by rw [HR.out]; rfl, hWx⟩
  · by_cases hn : sx < 0
    · have HC := Lib.hid (HW.out _ hWx h hn)
      have g1 : ¬ sx < sy := by omega
      have g2 : ¬ sy < sx := by omega
      clear HW HV HL HG h
      go_wp2_with fail
      refine HC.out.mono ?_
      rintro e w5 ⟨rfl, h5⟩
      go_wp2_with fail
      go_ret
      exact ⟨rfl, hWx.trans h5⟩
    · have HC := Lib.hid (HV.out _ hWx h (by omega))
      have g1 : ¬ sx < sy := by omega
      have g2 : ¬ sy < sx := by omega
      clear HW HV HL HG h
      go_wp2_with fail
      refine HC.out.mono ?_
      rintro e w5 ⟨rfl, h5⟩
      go_wp2_with fail
      go_ret
      exact ⟨rfl, hWx.trans h5⟩
  · have HR : Hid (R = 1) := HG.out h
    have g1 : ¬ sx < sy := by omega
    go_wp2_with fail
    go_ret
    exact ⟨by rw [HR.out]; rfl, hWx⟩

theorem cmpZ_eq0 (x y : Int) : (cmpZ x y == 0) = (x == y) := by
  unfold cmpZ
  rw [Bool.eq_iff_iff]
  split <;> (try split) <;> simp <;> omega
theorem same_z {w : World} {s1 s2 : Bool} {A1 A2 : Option Addr} {c1 c2 L1 L2 : Nat} {x y : Int} (h1 : ZV w s1 A1 c1 L1 x) (h2 : ZV w s2 A2 c2 L2 y) :
    Calls Try.prog 34 #[.agg #[.bool s1, .slice A1 L1 c1], .agg #[.bool s2, .slice A2 L2 c2]] w fun e w' => e = .returned (.bool (x == y)) ∧ Ext w w' := by
  have HQ := Lib.hid (cmpZ_eq0 x y)
  go_enter Try.func34, Try.ntmps34
  go_wp2_with fail
  obtain ⟨w0, hw0⟩ : ∃ w0 : World, w0 = ((w.alloc (.cells #[.bool s1, .slice A1 L1 c1] 25)).alloc (.cells #[.bool s2, .slice A2 L2 c2] 25)) := ⟨_, rfl⟩
  rw [← hw0]
  have b0 := box_new w (.bool s1) (.slice A1 L1 c1) 25
  have b1 := box_new (w.alloc (.cells #[.bool s1, .slice A1 L1 c1] 25)) (.bool s2) (.slice A2 L2 c2) 25
  rw [← hw0] at b1
  have y1 : Ext (w.alloc (.cells #[.bool s1, .slice A1 L1 c1] 25)) w0 := by rw [hw0]; exact Ext.alloc _ _
  have y0 : Ext w w0 := (Ext.alloc _ _).trans y1
  have x0 : Ext w w0 := y0
  have e0a := y1.cell b0.1
  have e0b := y1.cell b0.2.1
  have e1a := b1.1
  have e1b := b1.2.1
  simp at e1a e1b
  clear hw0 b0 b1 y0 y1
  go_wp2_with fail
  refine (cmp_z (h1.ext x0) (h2.ext x0)).mono ?_
  rintro e w3 ⟨rfl, hx3⟩
  generalize cmpZ x y = R at *
  go_wp2_with fail
  go_ret
  exact ⟨by rw [← HQ.out]; rfl, x0.trans hx3⟩
end Go.Proofs.Ytfnmbhjifdfibaa
