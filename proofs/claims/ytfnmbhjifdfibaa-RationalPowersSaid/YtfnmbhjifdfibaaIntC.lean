/- Contracts of package integer, third part: Shl, Add, Sub. -/
import Derived.Test.YtfnmbhjifdfibaaIntB
namespace Go.Proofs.Ytfnmbhjifdfibaa
open Go.RowKit

/-- One box, and a result's cell behind it that is written. -/
theorem one_set {w w4 : World} {g : Nat} {v1 v2 r1 r2 : Value} (hg : w.heap.size ≤ g) (hx : Ext w w4) (h1 : w4.cell? ⟨g, 0, none⟩ = some v1) (h2 : w4.cell? ⟨g, 1, none⟩ = some v2) :
    Ext w ((w4.setCell ⟨g + 1, 0, none⟩ r1).setCell ⟨g + 1, 1, none⟩ r2) ∧ ((w4.setCell ⟨g + 1, 0, none⟩ r1).setCell ⟨g + 1, 1, none⟩ r2).cell? ⟨g, 0, none⟩ = some v1 ∧
      ((w4.setCell ⟨g + 1, 0, none⟩ r1).setCell ⟨g + 1, 1, none⟩ r2).cell? ⟨g, 1, none⟩ = some v2 := by
  have hb : ∀ k, k ≠ g + 1 → ((w4.setCell ⟨g + 1, 0, none⟩ r1).setCell ⟨g + 1, 1, none⟩ r2).heap[k]? = w4.heap[k]? := fun k hk =>
    (Below.heap_setCell _ ⟨g + 1, 1, none⟩ _ k hk).trans (Below.heap_setCell _ ⟨g + 1, 0, none⟩ _ k hk)
  have hc : ∀ k i, k ≠ g + 1 → ((w4.setCell ⟨g + 1, 0, none⟩ r1).setCell ⟨g + 1, 1, none⟩ r2).cell? ⟨k, i, none⟩ = w4.cell? ⟨k, i, none⟩ := fun k i hk => World.cell?_of_block (hb k hk)
  refine ⟨Below.setCell (Below.setCell hx (p := ⟨g + 1, 0, none⟩) (by show _ ≤ g + 1; omega) _) (p := ⟨g + 1, 1, none⟩) (by show _ ≤ g + 1; omega) _, ?_, ?_⟩
  · rw [hc _ _ (by omega)]; exact h1
  · rw [hc _ _ (by omega)]; exact h2

theorem natAbs_shl (x : Int) (m : Nat) : (x * 2 ^ m).natAbs = x.natAbs * 2 ^ m := by
  rw [Int.natAbs_mul, Int.natAbs_pow]; rfl
theorem zshl_z {w : World} {s : Bool} {A1 : Option Addr} {c1 L m : Nat} {x n : Int} (h : ZV w s A1 c1 L x) (hs : dl x.natAbs ≤ 17592186044416) (hn : n ≤ 16777216) (hm : m = n.toNat) :
    Calls Try.prog 59 #[.agg #[.bool s, .slice A1 L c1], .int .i64 n] w (RetZ w (x * 2 ^ m)) := by
  have hp : (0 : Int) ≤ 2 ^ m := Int.pow_nonneg (by omega)
  have hneg : s = true → x * 2 ^ m ≤ 0 := fun e => by
    have := Int.mul_nonneg (Int.neg_nonneg_of_nonpos (h.neg e)) hp
    rw [Int.neg_mul] at this
    omega
  have hpos : s = false → 0 ≤ x * 2 ^ m := fun e => Int.mul_nonneg (h.pos e) hp
  have hnn := natAbs_shl x m
  have HC : Hid (∀ w', Ext w w' → Calls Try.prog 95 #[.slice A1 L c1, .int .i64 n] w' (RetN w' (x.natAbs * 2 ^ m))) := fun w' hx => shl_v (h.nv.ext hx) hs hn hm
  clear hp hm hn
  generalize x * 2 ^ m = X at *
  generalize x.natAbs * 2 ^ m = Y at *
  go_enter Try.func59, Try.ntmps59
  go_wp2_with fail
  obtain ⟨w0, hw0⟩ : ∃ w0 : World, w0 = ((w.alloc (.cells #[.bool s, .slice A1 L c1] 25)).alloc (.cells #[.bool false, .slice none 0 0] 25)) := ⟨_, rfl⟩
  rw [← hw0]
  have b0 := box_new w (.bool s) (.slice A1 L c1) 25
  have b1 := box_new (w.alloc (.cells #[.bool s, .slice A1 L c1] 25)) (.bool false) (.slice none 0 0) 25
  rw [← hw0] at b1
  have y1 : Ext (w.alloc (.cells #[.bool s, .slice A1 L c1] 25)) w0 := by rw [hw0]; exact Ext.alloc _ _
  have y0 : Ext w w0 := (Ext.alloc _ _).trans y1
  have x0 : Ext w w0 := y0
  have e0a := y1.cell b0.1
  have e0b := y1.cell b0.2.1
  have q1 := b1.1
  have q2 := b1.2.1
  have f1 := b1.2.2 0
  have f2 := b1.2.2 1
  simp at q1 q2 f1 f2
  clear hw0 b0 b1 y0 y1
  go_region_held3 (fun w' => Ext w w' ∧ w'.cell? ⟨w.heap.size, 0, none⟩ = some (.bool s) ∧ w'.cell? ⟨w.heap.size, 1, none⟩ = some (.slice A1 L c1))
    (first | exact ⟨x0.trans hx4, hx4.cell e0a, hx4.cell e0b⟩ | exact ⟨x0.trans hx3, hx3.cell e0a, hx3.cell e0b⟩ | exact ⟨x0.trans (Ext.drew _), e0a, e0b⟩ | exact one_set (Nat.le_refl _) (x0.trans hx4) (hx4.cell e0a) (hx4.cell e0b))
    (first
      | (go_at_call 95; refine (HC.out _ (x0.trans (Ext.drew _))).mono ?_; rintro e w3 ⟨A, c, rfl, ho, hx3'⟩; have hx3 := (Ext.drew w0).trans hx3')
      | (go_at_call 94; refine signed_any.mono ?_; rintro e w4 ⟨rfl, hx4'⟩; have hx4 := hx3.trans hx4'; have p1 := hx4.frozen q1 f1; have p2 := hx4.frozen q2 f2; have t1 := hx4.cell q1; have t2 := hx4.cell q2))
  have hB := World.block_lt_of_cell? w0 _ q1
  have hz := zo_signed (x := X) (s := s) (ho.ext hx4') hnn hneg hpos
  obtain ⟨r5, r6, hz', hxx⟩ := fin_z (Nat.le_succ _) hB (x0.trans hx4) hz t1 t2
  go_wp2_with fail
  refine bodyPost_ret (v := .agg #[.bool (s && decide (0 < (digs B32 (Y)).length)), .slice A (digs B32 (Y)).length c]) (by simp [results, Try.results59, go_sem, r5, r6]) rfl ?_
  exact ⟨_, _, _, _, rfl, hz', hxx⟩

set_option maxHeartbeats 2000000 in
theorem add_z {w : World} {s1 s2 : Bool} {A1 A2 : Option Addr} {c1 c2 L1 L2 : Nat} {x y : Int} (h1 : ZV w s1 A1 c1 L1 x) (h2 : ZV w s2 A2 c2 L2 y) (hs1 : dl x.natAbs ≤ 17592186044416) (hs2 : dl y.natAbs ≤ 17592186044416) :
    Calls Try.prog 63 #[.agg #[.bool s1, .slice A1 L1 c1], .agg #[.bool s2, .slice A2 L2 c2]] w (RetZ w (x + y)) := by
  have n1 := h1.neg
  have n2 := h2.neg
  have p1 := h1.pos
  have p2 := h2.pos
  have v1 := h1.nv
  have v2 := h2.nv
  clear h1 h2
  cases s1 <;> cases s2
  · have a1 := p1 rfl
    have a2 := p2 rfl
    clear n1 n2 p1 p2
    have hnn : (x + y).natAbs = x.natAbs + y.natAbs := by omega
    go_enter Try.func63, Try.ntmps63
    go_wp2_with fail
    obtain ⟨w0, hw0⟩ : ∃ w0 : World, w0 = (((w.alloc (.cells #[.bool false, .slice A1 L1 c1] 25)).alloc (.cells #[.bool false, .slice A2 L2 c2] 25)).alloc (.cells #[.bool false, .slice none 0 0] 25)) := ⟨_, rfl⟩
    rw [← hw0]
    have b0 := box_new w (.bool false) (.slice A1 L1 c1) 25
    have b1 := box_new (w.alloc (.cells #[.bool false, .slice A1 L1 c1] 25)) (.bool false) (.slice A2 L2 c2) 25
    have b2 := box_new ((w.alloc (.cells #[.bool false, .slice A1 L1 c1] 25)).alloc (.cells #[.bool false, .slice A2 L2 c2] 25)) (.bool false) (.slice none 0 0) 25
    rw [← hw0] at b2
    have y2 : Ext ((w.alloc (.cells #[.bool false, .slice A1 L1 c1] 25)).alloc (.cells #[.bool false, .slice A2 L2 c2] 25)) w0 := by rw [hw0]; exact Ext.alloc _ _
    have y1 : Ext (w.alloc (.cells #[.bool false, .slice A1 L1 c1] 25)) w0 := (Ext.alloc _ _).trans y2
    have y0 : Ext w w0 := (Ext.alloc _ _).trans y1
    have x0 : Ext w w0 := y0
    have e0a := y1.cell b0.1
    have e0b := y1.cell b0.2.1
    have e1a := y2.cell b1.1
    have e1b := y2.cell b1.2.1
    have q1 := b2.1
    have q2 := b2.2.1
    have f1 := b2.2.2 0
    have f2 := b2.2.2 1
    simp at e1a e1b q1 q2 f1 f2
    clear hw0 b0 b1 b2 y0 y1 y2
    go_wp2_with fail
    go_region_held3 (fun w' => Ext w w' ∧ w'.cell? ⟨w.heap.size, 0, none⟩ = some (.bool false) ∧ w'.cell? ⟨w.heap.size, 1, none⟩ = some (.slice A1 L1 c1) ∧ w'.cell? ⟨w.heap.size + 1, 0, none⟩ = some (.bool false) ∧ w'.cell? ⟨w.heap.size + 1, 1, none⟩ = some (.slice A2 L2 c2))
      (first | exact ⟨x0.trans hx4, hx4.cell e0a, hx4.cell e0b, hx4.cell e1a, hx4.cell e1b⟩ | exact ⟨x0.trans hx3, hx3.cell e0a, hx3.cell e0b, hx3.cell e1a, hx3.cell e1b⟩ | exact ⟨x0.trans (Ext.drew _), e0a, e0b, e1a, e1b⟩ | exact two_set (Nat.le_refl _) (x0.trans hx4) (hx4.cell e0a) (hx4.cell e0b) (hx4.cell e1a) (hx4.cell e1b))
      (first
        | (go_at_call 98; refine (add_v (v1.ext (x0.trans (Ext.drew _))) (v2.ext (x0.trans (Ext.drew _))) hs1 hs2).mono ?_; rintro e w3 ⟨A, c, rfl, ho, hx3'⟩; have hx3 := (Ext.drew w0).trans hx3')
        | (go_at_call 94; refine signed_any.mono ?_; rintro e w4 ⟨rfl, hx4'⟩; have hx4 := hx3.trans hx4'; have p1 := hx4.frozen q1 f1; have p2 := hx4.frozen q2 f2; have t1 := hx4.cell q1; have t2 := hx4.cell q2))
    have hB := World.block_lt_of_cell? w0 _ q1
    have hz := zo_signed (x := x + y) (s := false) (ho.ext hx4') hnn (fun e => by cases e) (fun _ => by omega)
    obtain ⟨r5, r6, hz', hxx⟩ := fin_z (Nat.le_trans (Nat.le_succ _) (Nat.le_succ _)) hB (x0.trans hx4) hz t1 t2
    simp only [Bool.false_and] at r5 r6 hz' hxx
    go_wp2_with fail
    refine bodyPost_ret (v := .agg #[.bool false, .slice A (digs B32 (x.natAbs + y.natAbs)).length c]) (by simp [results, Try.results63, go_sem, r5, r6]) rfl ?_
    exact ⟨_, _, _, _, rfl, hz', hxx⟩
  · have a1 := p1 rfl
    have a2 := n2 rfl
    clear n1 n2 p1 p2
    rcases Nat.lt_or_ge x.natAbs y.natAbs with hl | hl
    · have hk : cmpN x.natAbs y.natAbs < 0 := by rw [cmpN_lt hl]; omega
      have hnn : (x + y).natAbs = y.natAbs - x.natAbs := by omega
      have hle : x.natAbs ≤ y.natAbs := by omega
      go_enter Try.func63, Try.ntmps63
      go_wp2_with fail
      obtain ⟨w0, hw0⟩ : ∃ w0 : World, w0 = (((w.alloc (.cells #[.bool false, .slice A1 L1 c1] 25)).alloc (.cells #[.bool true, .slice A2 L2 c2] 25)).alloc (.cells #[.bool false, .slice none 0 0] 25)) := ⟨_, rfl⟩
      rw [← hw0]
      have b0 := box_new w (.bool false) (.slice A1 L1 c1) 25
      have b1 := box_new (w.alloc (.cells #[.bool false, .slice A1 L1 c1] 25)) (.bool true) (.slice A2 L2 c2) 25
      have b2 := box_new ((w.alloc (.cells #[.bool false, .slice A1 L1 c1] 25)).alloc (.cells #[.bool true, .slice A2 L2 c2] 25)) (.bool false) (.slice none 0 0) 25
      rw [← hw0] at b2
      have y2 : Ext ((w.alloc (.cells #[.bool false, .slice A1 L1 c1] 25)).alloc (.cells #[.bool true, .slice A2 L2 c2] 25)) w0 := by rw [hw0]; exact Ext.alloc _ _
      have y1 : Ext (w.alloc (.cells #[.bool false, .slice A1 L1 c1] 25)) w0 := (Ext.alloc _ _).trans y2
      have y0 : Ext w w0 := (Ext.alloc _ _).trans y1
      have x0 : Ext w w0 := y0
      have e0a := y1.cell b0.1
      have e0b := y1.cell b0.2.1
      have e1a := y2.cell b1.1
      have e1b := y2.cell b1.2.1
      have q1 := b2.1
      have q2 := b2.2.1
      have f1 := b2.2.2 0
      have f2 := b2.2.2 1
      simp at e1a e1b q1 q2 f1 f2
      clear hw0 b0 b1 b2 y0 y1 y2
      go_wp2_with fail
      refine (cmp_v (v1.ext x0) (v2.ext x0)).mono ?_
      rintro e w1 ⟨rfl, hq⟩
      have hx1 := hq.ext
      clear hq
      generalize cmpN x.natAbs y.natAbs = k at *
      have d1 := hx1.cell e0a
      have d2 := hx1.cell e0b
      have d3 := hx1.cell e1a
      have d4 := hx1.cell e1b
      go_wp2_with fail
      refine (sub_yes_v (v2.ext (x0.trans hx1)) (v1.ext (x0.trans hx1)) hs2 hle).mono ?_
      rintro e w3 ⟨A, c, rfl, ho, hx3'⟩
      have hx3 := hx1.trans hx3'
      have d1 := hx3.cell e0a
      have d2 := hx3.cell e0b
      have d3 := hx3.cell e1a
      have d4 := hx3.cell e1b
      go_wp2_with fail
      refine signed_any.mono ?_
      rintro e w4 ⟨rfl, hx4'⟩
      have hx4 := hx3.trans hx4'
      have u1 := hx4.frozen q1 f1
      have u2 := hx4.frozen q2 f2
      have t1 := hx4.cell q1
      have t2 := hx4.cell q2
      have hB := Nat.lt_of_lt_of_le (World.block_lt_of_cell? w0 _ q1) hx1.size
      have hz := zo_signed (x := x + y) (s := true) (ho.ext hx4') hnn (fun _ => by omega) (fun e => by cases e)
      obtain ⟨r5, r6, hz', hxx⟩ := fin_z (Nat.le_trans (Nat.le_succ _) (Nat.le_succ _)) hB (x0.trans hx4) hz t1 t2
      simp only [Bool.true_and] at r5 r6 hz' hxx
      go_wp2_with fail
      refine bodyPost_ret (v := .agg #[.bool (decide (0 < (digs B32 (y.natAbs - x.natAbs)).length)), .slice A (digs B32 (y.natAbs - x.natAbs)).length c]) (by simp [results, Try.results63, go_sem, r5, r6]) rfl ?_
      exact ⟨_, _, _, _, rfl, hz', hxx⟩
    · have hk : 0 ≤ cmpN x.natAbs y.natAbs := by exact cmpN_ge hl
      have hnn : (x + y).natAbs = x.natAbs - y.natAbs := by omega
      have hle : y.natAbs ≤ x.natAbs := by omega
      go_enter Try.func63, Try.ntmps63
      go_wp2_with fail
      obtain ⟨w0, hw0⟩ : ∃ w0 : World, w0 = (((w.alloc (.cells #[.bool false, .slice A1 L1 c1] 25)).alloc (.cells #[.bool true, .slice A2 L2 c2] 25)).alloc (.cells #[.bool false, .slice none 0 0] 25)) := ⟨_, rfl⟩
      rw [← hw0]
      have b0 := box_new w (.bool false) (.slice A1 L1 c1) 25
      have b1 := box_new (w.alloc (.cells #[.bool false, .slice A1 L1 c1] 25)) (.bool true) (.slice A2 L2 c2) 25
      have b2 := box_new ((w.alloc (.cells #[.bool false, .slice A1 L1 c1] 25)).alloc (.cells #[.bool true, .slice A2 L2 c2] 25)) (.bool false) (.slice none 0 0) 25
      rw [← hw0] at b2
      have y2 : Ext ((w.alloc (.cells #[.bool false, .slice A1 L1 c1] 25)).alloc (.cells #[.bool true, .slice A2 L2 c2] 25)) w0 := by rw [hw0]; exact Ext.alloc _ _
      have y1 : Ext (w.alloc (.cells #[.bool false, .slice A1 L1 c1] 25)) w0 := (Ext.alloc _ _).trans y2
      have y0 : Ext w w0 := (Ext.alloc _ _).trans y1
      have x0 : Ext w w0 := y0
      have e0a := y1.cell b0.1
      have e0b := y1.cell b0.2.1
      have e1a := y2.cell b1.1
      have e1b := y2.cell b1.2.1
      have q1 := b2.1
      have q2 := b2.2.1
      have f1 := b2.2.2 0
      have f2 := b2.2.2 1
      simp at e1a e1b q1 q2 f1 f2
      clear hw0 b0 b1 b2 y0 y1 y2
      go_wp2_with fail
      refine (cmp_v (v1.ext x0) (v2.ext x0)).mono ?_
      rintro e w1 ⟨rfl, hq⟩
      have hx1 := hq.ext
      clear hq
      generalize cmpN x.natAbs y.natAbs = k at *
      have d1 := hx1.cell e0a
      have d2 := hx1.cell e0b
      have d3 := hx1.cell e1a
      have d4 := hx1.cell e1b
      go_wp2_with fail
      refine (sub_yes_v (v1.ext (x0.trans hx1)) (v2.ext (x0.trans hx1)) hs1 hle).mono ?_
      rintro e w3 ⟨A, c, rfl, ho, hx3'⟩
      have hx3 := hx1.trans hx3'
      have d1 := hx3.cell e0a
      have d2 := hx3.cell e0b
      have d3 := hx3.cell e1a
      have d4 := hx3.cell e1b
      go_wp2_with fail
      refine signed_any.mono ?_
      rintro e w4 ⟨rfl, hx4'⟩
      have hx4 := hx3.trans hx4'
      have u1 := hx4.frozen q1 f1
      have u2 := hx4.frozen q2 f2
      have t1 := hx4.cell q1
      have t2 := hx4.cell q2
      have hB := Nat.lt_of_lt_of_le (World.block_lt_of_cell? w0 _ q1) hx1.size
      have hz := zo_signed (x := x + y) (s := false) (ho.ext hx4') hnn (fun e => by cases e) (fun _ => by omega)
      obtain ⟨r5, r6, hz', hxx⟩ := fin_z (Nat.le_trans (Nat.le_succ _) (Nat.le_succ _)) hB (x0.trans hx4) hz t1 t2
      simp only [Bool.false_and] at r5 r6 hz' hxx
      go_wp2_with fail
      refine bodyPost_ret (v := .agg #[.bool false, .slice A (digs B32 (x.natAbs - y.natAbs)).length c]) (by simp [results, Try.results63, go_sem, r5, r6]) rfl ?_
      exact ⟨_, _, _, _, rfl, hz', hxx⟩
  · have a1 := n1 rfl
    have a2 := p2 rfl
    clear n1 n2 p1 p2
    rcases Nat.lt_or_ge x.natAbs y.natAbs with hl | hl
    · have hk : cmpN x.natAbs y.natAbs < 0 := by rw [cmpN_lt hl]; omega
      have hnn : (x + y).natAbs = y.natAbs - x.natAbs := by omega
      have hle : x.natAbs ≤ y.natAbs := by omega
      go_enter Try.func63, Try.ntmps63
      go_wp2_with fail
      obtain ⟨w0, hw0⟩ : ∃ w0 : World, w0 = (((w.alloc (.cells #[.bool true, .slice A1 L1 c1] 25)).alloc (.cells #[.bool false, .slice A2 L2 c2] 25)).alloc (.cells #[.bool false, .slice none 0 0] 25)) := ⟨_, rfl⟩
      rw [← hw0]
      have b0 := box_new w (.bool true) (.slice A1 L1 c1) 25
      have b1 := box_new (w.alloc (.cells #[.bool true, .slice A1 L1 c1] 25)) (.bool false) (.slice A2 L2 c2) 25
      have b2 := box_new ((w.alloc (.cells #[.bool true, .slice A1 L1 c1] 25)).alloc (.cells #[.bool false, .slice A2 L2 c2] 25)) (.bool false) (.slice none 0 0) 25
      rw [← hw0] at b2
      have y2 : Ext ((w.alloc (.cells #[.bool true, .slice A1 L1 c1] 25)).alloc (.cells #[.bool false, .slice A2 L2 c2] 25)) w0 := by rw [hw0]; exact Ext.alloc _ _
      have y1 : Ext (w.alloc (.cells #[.bool true, .slice A1 L1 c1] 25)) w0 := (Ext.alloc _ _).trans y2
      have y0 : Ext w w0 := (Ext.alloc _ _).trans y1
      have x0 : Ext w w0 := y0
      have e0a := y1.cell b0.1
      have e0b := y1.cell b0.2.1
      have e1a := y2.cell b1.1
      have e1b := y2.cell b1.2.1
      have q1 := b2.1
      have q2 := b2.2.1
      have f1 := b2.2.2 0
      have f2 := b2.2.2 1
      simp at e1a e1b q1 q2 f1 f2
      clear hw0 b0 b1 b2 y0 y1 y2
      go_wp2_with fail
      refine (cmp_v (v1.ext x0) (v2.ext x0)).mono ?_
      rintro e w1 ⟨rfl, hq⟩
      have hx1 := hq.ext
      clear hq
      generalize cmpN x.natAbs y.natAbs = k at *
      have d1 := hx1.cell e0a
      have d2 := hx1.cell e0b
      have d3 := hx1.cell e1a
      have d4 := hx1.cell e1b
      go_wp2_with fail
      refine (sub_yes_v (v2.ext (x0.trans hx1)) (v1.ext (x0.trans hx1)) hs2 hle).mono ?_
      rintro e w3 ⟨A, c, rfl, ho, hx3'⟩
      have hx3 := hx1.trans hx3'
      have d1 := hx3.cell e0a
      have d2 := hx3.cell e0b
      have d3 := hx3.cell e1a
      have d4 := hx3.cell e1b
      go_wp2_with fail
      refine signed_any.mono ?_
      rintro e w4 ⟨rfl, hx4'⟩
      have hx4 := hx3.trans hx4'
      have u1 := hx4.frozen q1 f1
      have u2 := hx4.frozen q2 f2
      have t1 := hx4.cell q1
      have t2 := hx4.cell q2
      have hB := Nat.lt_of_lt_of_le (World.block_lt_of_cell? w0 _ q1) hx1.size
      have hz := zo_signed (x := x + y) (s := false) (ho.ext hx4') hnn (fun e => by cases e) (fun _ => by omega)
      obtain ⟨r5, r6, hz', hxx⟩ := fin_z (Nat.le_trans (Nat.le_succ _) (Nat.le_succ _)) hB (x0.trans hx4) hz t1 t2
      simp only [Bool.false_and] at r5 r6 hz' hxx
      go_wp2_with fail
      refine bodyPost_ret (v := .agg #[.bool false, .slice A (digs B32 (y.natAbs - x.natAbs)).length c]) (by simp [results, Try.results63, go_sem, r5, r6]) rfl ?_
      exact ⟨_, _, _, _, rfl, hz', hxx⟩
    · have hk : 0 ≤ cmpN x.natAbs y.natAbs := by exact cmpN_ge hl
      have hnn : (x + y).natAbs = x.natAbs - y.natAbs := by omega
      have hle : y.natAbs ≤ x.natAbs := by omega
      go_enter Try.func63, Try.ntmps63
      go_wp2_with fail
      obtain ⟨w0, hw0⟩ : ∃ w0 : World, w0 = (((w.alloc (.cells #[.bool true, .slice A1 L1 c1] 25)).alloc (.cells #[.bool false, .slice A2 L2 c2] 25)).alloc (.cells #[.bool false, .slice none 0 0] 25)) := ⟨_, rfl⟩
      rw [← hw0]
      have b0 := box_new w (.bool true) (.slice A1 L1 c1) 25
      have b1 := box_new (w.alloc (.cells #[.bool true, .slice A1 L1 c1] 25)) (.bool false) (.slice A2 L2 c2) 25
      have b2 := box_new ((w.alloc (.cells #[.bool true, .slice A1 L1 c1] 25)).alloc (.cells #[.bool false, .slice A2 L2 c2] 25)) (.bool false) (.slice none 0 0) 25
      rw [← hw0] at b2
      have y2 : Ext ((w.alloc (.cells #[.bool true, .slice A1 L1 c1] 25)).alloc (.cells #[.bool false, .slice A2 L2 c2] 25)) w0 := by rw [hw0]; exact Ext.alloc _ _
      have y1 : Ext (w.alloc (.cells #[.bool true, .slice A1 L1 c1] 25)) w0 := (Ext.alloc _ _).trans y2
      have y0 : Ext w w0 := (Ext.alloc _ _).trans y1
      have x0 : Ext w w0 := y0
      have e0a := y1.cell b0.1
      have e0b := y1.cell b0.2.1
      have e1a := y2.cell b1.1
      have e1b := y2.cell b1.2.1
      have q1 := b2.1
      have q2 := b2.2.1
      have f1 := b2.2.2 0
      have f2 := b2.2.2 1
      simp at e1a e1b q1 q2 f1 f2
      clear hw0 b0 b1 b2 y0 y1 y2
      go_wp2_with fail
      refine (cmp_v (v1.ext x0) (v2.ext x0)).mono ?_
      rintro e w1 ⟨rfl, hq⟩
      have hx1 := hq.ext
      clear hq
      generalize cmpN x.natAbs y.natAbs = k at *
      have d1 := hx1.cell e0a
      have d2 := hx1.cell e0b
      have d3 := hx1.cell e1a
      have d4 := hx1.cell e1b
      go_wp2_with fail
      refine (sub_yes_v (v1.ext (x0.trans hx1)) (v2.ext (x0.trans hx1)) hs1 hle).mono ?_
      rintro e w3 ⟨A, c, rfl, ho, hx3'⟩
      have hx3 := hx1.trans hx3'
      have d1 := hx3.cell e0a
      have d2 := hx3.cell e0b
      have d3 := hx3.cell e1a
      have d4 := hx3.cell e1b
      go_wp2_with fail
      refine signed_any.mono ?_
      rintro e w4 ⟨rfl, hx4'⟩
      have hx4 := hx3.trans hx4'
      have u1 := hx4.frozen q1 f1
      have u2 := hx4.frozen q2 f2
      have t1 := hx4.cell q1
      have t2 := hx4.cell q2
      have hB := Nat.lt_of_lt_of_le (World.block_lt_of_cell? w0 _ q1) hx1.size
      have hz := zo_signed (x := x + y) (s := true) (ho.ext hx4') hnn (fun _ => by omega) (fun e => by cases e)
      obtain ⟨r5, r6, hz', hxx⟩ := fin_z (Nat.le_trans (Nat.le_succ _) (Nat.le_succ _)) hB (x0.trans hx4) hz t1 t2
      simp only [Bool.true_and] at r5 r6 hz' hxx
      go_wp2_with fail
      refine bodyPost_ret (v := .agg #[.bool (decide (0 < (digs B32 (x.natAbs - y.natAbs)).length)), .slice A (digs B32 (x.natAbs - y.natAbs)).length c]) (by simp [results, Try.results63, go_sem, r5, r6]) rfl ?_
      exact ⟨_, _, _, _, rfl, hz', hxx⟩
  · have a1 := n1 rfl
    have a2 := n2 rfl
    clear n1 n2 p1 p2
    have hnn : (x + y).natAbs = x.natAbs + y.natAbs := by omega
    go_enter Try.func63, Try.ntmps63
    go_wp2_with fail
    obtain ⟨w0, hw0⟩ : ∃ w0 : World, w0 = (((w.alloc (.cells #[.bool true, .slice A1 L1 c1] 25)).alloc (.cells #[.bool true, .slice A2 L2 c2] 25)).alloc (.cells #[.bool false, .slice none 0 0] 25)) := ⟨_, rfl⟩
    rw [← hw0]
    have b0 := box_new w (.bool true) (.slice A1 L1 c1) 25
    have b1 := box_new (w.alloc (.cells #[.bool true, .slice A1 L1 c1] 25)) (.bool true) (.slice A2 L2 c2) 25
    have b2 := box_new ((w.alloc (.cells #[.bool true, .slice A1 L1 c1] 25)).alloc (.cells #[.bool true, .slice A2 L2 c2] 25)) (.bool false) (.slice none 0 0) 25
    rw [← hw0] at b2
    have y2 : Ext ((w.alloc (.cells #[.bool true, .slice A1 L1 c1] 25)).alloc (.cells #[.bool true, .slice A2 L2 c2] 25)) w0 := by rw [hw0]; exact Ext.alloc _ _
    have y1 : Ext (w.alloc (.cells #[.bool true, .slice A1 L1 c1] 25)) w0 := (Ext.alloc _ _).trans y2
    have y0 : Ext w w0 := (Ext.alloc _ _).trans y1
    have x0 : Ext w w0 := y0
    have e0a := y1.cell b0.1
    have e0b := y1.cell b0.2.1
    have e1a := y2.cell b1.1
    have e1b := y2.cell b1.2.1
    have q1 := b2.1
    have q2 := b2.2.1
    have f1 := b2.2.2 0
    have f2 := b2.2.2 1
    simp at e1a e1b q1 q2 f1 f2
    clear hw0 b0 b1 b2 y0 y1 y2
    go_wp2_with fail
    go_region_held3 (fun w' => Ext w w' ∧ w'.cell? ⟨w.heap.size, 0, none⟩ = some (.bool true) ∧ w'.cell? ⟨w.heap.size, 1, none⟩ = some (.slice A1 L1 c1) ∧ w'.cell? ⟨w.heap.size + 1, 0, none⟩ = some (.bool true) ∧ w'.cell? ⟨w.heap.size + 1, 1, none⟩ = some (.slice A2 L2 c2))
      (first | exact ⟨x0.trans hx4, hx4.cell e0a, hx4.cell e0b, hx4.cell e1a, hx4.cell e1b⟩ | exact ⟨x0.trans hx3, hx3.cell e0a, hx3.cell e0b, hx3.cell e1a, hx3.cell e1b⟩ | exact ⟨x0.trans (Ext.drew _), e0a, e0b, e1a, e1b⟩ | exact two_set (Nat.le_refl _) (x0.trans hx4) (hx4.cell e0a) (hx4.cell e0b) (hx4.cell e1a) (hx4.cell e1b))
      (first
        | (go_at_call 98; refine (add_v (v1.ext (x0.trans (Ext.drew _))) (v2.ext (x0.trans (Ext.drew _))) hs1 hs2).mono ?_; rintro e w3 ⟨A, c, rfl, ho, hx3'⟩; have hx3 := (Ext.drew w0).trans hx3')
        | (go_at_call 94; refine signed_any.mono ?_; rintro e w4 ⟨rfl, hx4'⟩; have hx4 := hx3.trans hx4'; have p1 := hx4.frozen q1 f1; have p2 := hx4.frozen q2 f2; have t1 := hx4.cell q1; have t2 := hx4.cell q2))
    have hB := World.block_lt_of_cell? w0 _ q1
    have hz := zo_signed (x := x + y) (s := true) (ho.ext hx4') hnn (fun _ => by omega) (fun e => by cases e)
    obtain ⟨r5, r6, hz', hxx⟩ := fin_z (Nat.le_trans (Nat.le_succ _) (Nat.le_succ _)) hB (x0.trans hx4) hz t1 t2
    simp only [Bool.true_and] at r5 r6 hz' hxx
    go_wp2_with fail
    refine bodyPost_ret (v := .agg #[.bool (decide (0 < (digs B32 (x.natAbs + y.natAbs)).length)), .slice A (digs B32 (x.natAbs + y.natAbs)).length c]) (by simp [results, Try.results63, go_sem, r5, r6]) rfl ?_
    exact ⟨_, _, _, _, rfl, hz', hxx⟩

theorem sub_z {w : World} {s1 s2 : Bool} {A1 A2 : Option Addr} {c1 c2 L1 L2 : Nat} {x y : Int} (h1 : ZV w s1 A1 c1 L1 x) (h2 : ZV w s2 A2 c2 L2 y) (hs1 : dl x.natAbs ≤ 17592186044416) (hs2 : dl y.natAbs ≤ 17592186044416) :
    Calls Try.prog 84 #[.agg #[.bool s1, .slice A1 L1 c1], .agg #[.bool s2, .slice A2 L2 c2]] w (RetZ w (x - y)) := by
  go_enter Try.func84, Try.ntmps84
  go_wp2_with fail
  obtain ⟨w0, hw0⟩ : ∃ w0 : World, w0 = (((w.alloc (.cells #[.bool s1, .slice A1 L1 c1] 25)).alloc (.cells #[.bool s2, .slice A2 L2 c2] 25)).alloc (.cells #[.bool false, .slice none 0 0] 25)) := ⟨_, rfl⟩
  rw [← hw0]
  have b0 := box_new w (.bool s1) (.slice A1 L1 c1) 25
  have b1 := box_new (w.alloc (.cells #[.bool s1, .slice A1 L1 c1] 25)) (.bool s2) (.slice A2 L2 c2) 25
  have b2 := box_new ((w.alloc (.cells #[.bool s1, .slice A1 L1 c1] 25)).alloc (.cells #[.bool s2, .slice A2 L2 c2] 25)) (.bool false) (.slice none 0 0) 25
  rw [← hw0] at b2
  have y2 : Ext ((w.alloc (.cells #[.bool s1, .slice A1 L1 c1] 25)).alloc (.cells #[.bool s2, .slice A2 L2 c2] 25)) w0 := by rw [hw0]; exact Ext.alloc _ _
  have y1 : Ext (w.alloc (.cells #[.bool s1, .slice A1 L1 c1] 25)) w0 := (Ext.alloc _ _).trans y2
  have y0 : Ext w w0 := (Ext.alloc _ _).trans y1
  have x0 : Ext w w0 := y0
  have e0a := y1.cell b0.1
  have e0b := y1.cell b0.2.1
  have e1a := y2.cell b1.1
  have e1b := y2.cell b1.2.1
  have q1 := b2.1
  have q2 := b2.2.1
  have f1 := b2.2.2 0
  have f2 := b2.2.2 1
  simp at e1a e1b q1 q2 f1 f2
  clear hw0 b0 b1 b2 y0 y1 y2
  go_wp2_with fail
  refine (add_z (h1.ext x0) (h2.neg_.ext x0) hs1 (by rw [Int.natAbs_neg]; exact hs2)).mono ?_
  rintro e w4 ⟨s4, A4, c4, L4, rfl, hz, hx4⟩
  have hB := World.block_lt_of_cell? w0 _ q1
  have p1 := hx4.frozen q1 f1
  have p2 := hx4.frozen q2 f2
  have t1 := hx4.cell q1
  have t2 := hx4.cell q2
  obtain ⟨r5, r6, hz', hxx⟩ := fin_z (Nat.le_trans (Nat.le_succ _) (Nat.le_succ _)) hB (x0.trans hx4) hz t1 t2
  go_wp2_with fail
  refine bodyPost_ret (v := .agg #[.bool s4, .slice A4 L4 c4]) (by simp [results, Try.results84, go_sem, r5, r6]) rfl ?_
  exact ⟨_, _, _, _, rfl, by rw [Int.sub_eq_add_neg]; exact hz', hxx⟩
end Go.Proofs.Ytfnmbhjifdfibaa
