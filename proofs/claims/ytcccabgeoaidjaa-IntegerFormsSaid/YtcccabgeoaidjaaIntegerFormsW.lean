/- The walk of IntegerForms. -/
import Derived.Test.YtcccabgeoaidjaaLaw2c
import Derived.Test.YtcccabgeoaidjaaIntD
namespace Go.Proofs.Ytcccabgeoaidjaa
open Go.RowKit
set_option maxHeartbeats 40000000 in
set_option maxRecDepth 100000 in
theorem integerForms_walk {w : World} {s1 : Bool} {A1 : Option Addr} {c1 L1 : Nat} {z1 : Int} (h1 : ZV w s1 A1 c1 L1 z1) :
    Calls Try.prog 4 #[.agg #[.bool s1, .slice A1 L1 c1]] w fun e w' => e = .returned (.bool true) ∧ Ext w w' := by
  have p1 := h1.nv.cap
  have q1 := h1.nv.le
  by_cases hf : (decide (L1 ≤ 20) && (decide (L1 ≤ 20) && decide (L1 ≤ 20))) = true
  · skip
    have k1 := hf
    simp only [Bool.and_eq_true, decide_eq_true_eq] at k1
    have HF := Lib.hid hf
    clear hf
    have d1 : dl z1.natAbs ≤ 20 := Nat.le_trans h1.nv.dl (by omega)
    have l1 : bl z1.natAbs ≤ 640 := Nat.le_trans h1.nv.bl (by omega)
    rcases Nat.eq_zero_or_pos z1.natAbs with h0 | h0
    · have HL := Lib.hid h0
      clear h0
      go_enter Try.func4, Try.ntmps4
      go_wp2_with fail
      obtain ⟨w0, hw0⟩ : ∃ z : World, z = (w.alloc (.cells #[.bool s1, .slice A1 L1 c1] 25)) := ⟨_, rfl⟩
      rw [← hw0]
      have b0 := box_at w #[.bool s1, .slice A1 L1 c1] 25
      have hsz : w0.heap.size = w.heap.size + 1 := by rw [hw0]; simp
      rw [← hw0] at b0
      have y0 : Ext w w0 := by rw [hw0]; exact Ext.alloc _ _
      have x0 : Ext w w0 := y0
      have e0_0 := b0.1 0 (.bool s1) rfl
      have e0_1 := b0.1 1 (.slice A1 L1 c1) rfl
      clear hw0 b0 y0
      go_wp2_with fail
      refine (lawake_z _).mono ?_
      rintro e w1 ⟨rfl, x1⟩
      replace e0_0 := x1.cell e0_0
      replace e0_1 := x1.cell e0_1
      go_wp2_with fail
      refine (lfew_z (n := 20) (by omega) (by omega) (by omega)).mono ?_
      rintro e w2 ⟨rfl, x2⟩
      replace e0_0 := x2.cell e0_0
      replace e0_1 := x2.cell e0_1
      rw [HF.out]
      clear hsz
      go_wp2_with fail
      refine (lof_z (h1.ext (by repeat' (first | with_reducible exact Ext.refl _ | with_reducible assumption | with_reducible apply Ext.alloc_r | with_reducible apply Ext.drew_r | with_reducible refine Ext.trans ?_ ‹Ext _ _›))) (by omega)).mono ?_
      rintro e w3 ⟨gx, Ax, cx, Lx, rfl, x, x3⟩
      replace e0_0 := x3.cell e0_0
      replace e0_1 := x3.cell e0_1
      have HB : Hid (∀ w', Ext w w' → Calls Try.prog 22 #[.agg #[.bool s1, .slice A1 L1 c1]] w' fun e w'' => e = .returned (.int .i64 Lx) ∧ Ext w' w'') := fun w' hk => by
        rw [x.len]
        exact zbitLen_z (h1.ext hk) (by omega)
      have hLx : Lx = 0 := by rw [x.len, HL.out]; rfl
      subst hLx
      have HO : Hid (∀ w', Ext w w' → Calls Try.prog 23 #[.agg #[.bool s1, .slice A1 L1 c1]] w' fun e w'' => e = .returned (.bool false) ∧ Ext w' w'') := fun w' hk => by
        have := isOdd_z (h1.ext hk)
        rwa [HL.out] at this
      have te0_0 := fun o => (Ext.alloc w3 o).cell e0_0
      have te0_1 := fun o => (Ext.alloc w3 o).cell e0_1
      go_wp2_with fail
      clear te0_0 te0_1
      obtain ⟨w4, hw⟩ : ∃ z : World, z = (w3.alloc (.cells #[.int .i64 gx, .slice Ax 0 cx] 30)) := ⟨_, rfl⟩
      rw [← hw]
      have x4 : Ext w3 w4 := by rw [hw]; exact Ext.alloc _ _
      have bb := box_at w3 #[.int .i64 gx, .slice Ax 0 cx] 30
      rw [← hw] at bb
      replace e0_0 := x4.cell e0_0
      replace e0_1 := x4.cell e0_1
      have x_0 := bb.1 0 (.int .i64 gx) rfl
      have x_1 := bb.1 1 (.slice Ax 0 cx) rfl
      clear hw bb
      go_wp2_with fail
      have HK : Hid (∀ w', Ext w4 w' → Ext w4 w' ∧ w'.cell? ⟨w.heap.size, 0, none⟩ = some (.bool s1) ∧ w'.cell? ⟨w.heap.size, 1, none⟩ = some (.slice A1 L1 c1) ∧ w'.cell? ⟨w3.heap.size, 0, none⟩ = some (.int .i64 gx) ∧ w'.cell? ⟨w3.heap.size, 1, none⟩ = some (.slice Ax 0 cx)) := fun w' hk => ⟨hk, hk.cell e0_0, hk.cell e0_1, hk.cell x_0, hk.cell x_1⟩
      go_region_held3 (fun w' => Ext w4 w' ∧ w'.cell? ⟨w.heap.size, 0, none⟩ = some (.bool s1) ∧ w'.cell? ⟨w.heap.size, 1, none⟩ = some (.slice A1 L1 c1) ∧ w'.cell? ⟨w3.heap.size, 0, none⟩ = some (.int .i64 gx) ∧ w'.cell? ⟨w3.heap.size, 1, none⟩ = some (.slice Ax 0 cx))
        ((refine HK.out _ ?_; (repeat' (first | with_reducible exact Ext.refl _ | with_reducible assumption | with_reducible apply Ext.alloc_r | with_reducible apply Ext.drew_r | with_reducible refine Ext.trans ?_ ‹Ext _ _›))))
        (first
          | (go_at_call 23; have hgd := fb; clear hgd; refine (HO.out _ (by repeat' (first | with_reducible exact Ext.refl _ | with_reducible assumption | with_reducible apply Ext.alloc_r | with_reducible apply Ext.drew_r | with_reducible refine Ext.trans ?_ ‹Ext _ _›))).mono ?_; rintro e w10 ⟨rfl, x10⟩)
          | (go_at_call 22; have hgd := fb; clear hgd; refine (HB.out _ (by repeat' (first | with_reducible exact Ext.refl _ | with_reducible assumption | with_reducible apply Ext.alloc_r | with_reducible apply Ext.drew_r | with_reducible refine Ext.trans ?_ ‹Ext _ _›))).mono ?_; rintro e w9 ⟨rfl, x9⟩)
          | (go_at_call 16; have hgd := fb; clear hgd; refine (lis_z (fb.ext (by repeat' (first | with_reducible exact Ext.refl _ | with_reducible assumption | with_reducible apply Ext.alloc_r | with_reducible apply Ext.drew_r | with_reducible refine Ext.trans ?_ ‹Ext _ _›))) (x.ext (by repeat' (first | with_reducible exact Ext.refl _ | with_reducible assumption | with_reducible apply Ext.alloc_r | with_reducible apply Ext.drew_r | with_reducible refine Ext.trans ?_ ‹Ext _ _›))) (by omega)).mono ?_; rintro e w8 ⟨rfl, x8⟩)
          | (go_at_call 21; have hgd := fa; clear hgd; refine (znormal_z (h1.ext (by repeat' (first | with_reducible exact Ext.refl _ | with_reducible assumption | with_reducible apply Ext.alloc_r | with_reducible apply Ext.drew_r | with_reducible refine Ext.trans ?_ ‹Ext _ _›))) (by omega)).mono ?_; rintro e w7 ⟨sfb, Afb, cfb, Lfb, rfl, fb, x7⟩)
          | (go_at_call 16; have hgd := fa; clear hgd; refine (lis_z (fa.ext (by repeat' (first | with_reducible exact Ext.refl _ | with_reducible assumption | with_reducible apply Ext.alloc_r | with_reducible apply Ext.drew_r | with_reducible refine Ext.trans ?_ ‹Ext _ _›))) (x.ext (by repeat' (first | with_reducible exact Ext.refl _ | with_reducible assumption | with_reducible apply Ext.alloc_r | with_reducible apply Ext.drew_r | with_reducible refine Ext.trans ?_ ‹Ext _ _›))) (by omega)).mono ?_; rintro e w6 ⟨rfl, x6⟩)
          | (go_at_call 20; refine (from_z (h1.ext (by repeat' (first | with_reducible exact Ext.refl _ | with_reducible assumption | with_reducible apply Ext.alloc_r | with_reducible apply Ext.drew_r | with_reducible refine Ext.trans ?_ ‹Ext _ _›))) (by omega)).mono ?_; rintro e w5 ⟨sfa, Afa, cfa, Lfa, rfl, fa, x5⟩))
      clear HK
      have xh : Ext w4 w10 := (by repeat' (first | with_reducible exact Ext.refl _ | with_reducible assumption | with_reducible apply Ext.alloc_r | with_reducible apply Ext.drew_r | with_reducible refine Ext.trans ?_ ‹Ext _ _›))
      replace e0_0 := xh.cell e0_0
      replace e0_1 := xh.cell e0_1
      replace x_0 := xh.cell x_0
      replace x_1 := xh.cell x_1
      clear xh
      go_wp2_with fail
      go_ret
      exact ⟨rfl, (by repeat' (first | with_reducible exact Ext.refl _ | with_reducible assumption | with_reducible apply Ext.alloc_r | with_reducible apply Ext.drew_r | with_reducible refine Ext.trans ?_ ‹Ext _ _›))⟩
    · have HL : Hid (0 < (digs 2 z1.natAbs).length) := Lib.hid (Nat.pos_of_ne_zero fun h => by have := (digs_eq_nil (B := 2) (by omega)).1 (List.length_eq_zero_iff.1 h); omega)
      clear h0
      go_enter Try.func4, Try.ntmps4
      go_wp2_with fail
      obtain ⟨w0, hw0⟩ : ∃ z : World, z = (w.alloc (.cells #[.bool s1, .slice A1 L1 c1] 25)) := ⟨_, rfl⟩
      rw [← hw0]
      have b0 := box_at w #[.bool s1, .slice A1 L1 c1] 25
      have hsz : w0.heap.size = w.heap.size + 1 := by rw [hw0]; simp
      rw [← hw0] at b0
      have y0 : Ext w w0 := by rw [hw0]; exact Ext.alloc _ _
      have x0 : Ext w w0 := y0
      have e0_0 := b0.1 0 (.bool s1) rfl
      have e0_1 := b0.1 1 (.slice A1 L1 c1) rfl
      clear hw0 b0 y0
      go_wp2_with fail
      refine (lawake_z _).mono ?_
      rintro e w1 ⟨rfl, x1⟩
      replace e0_0 := x1.cell e0_0
      replace e0_1 := x1.cell e0_1
      go_wp2_with fail
      refine (lfew_z (n := 20) (by omega) (by omega) (by omega)).mono ?_
      rintro e w2 ⟨rfl, x2⟩
      replace e0_0 := x2.cell e0_0
      replace e0_1 := x2.cell e0_1
      rw [HF.out]
      clear hsz
      go_wp2_with fail
      refine (lof_z (h1.ext (by repeat' (first | with_reducible exact Ext.refl _ | with_reducible assumption | with_reducible apply Ext.alloc_r | with_reducible apply Ext.drew_r | with_reducible refine Ext.trans ?_ ‹Ext _ _›))) (by omega)).mono ?_
      rintro e w3 ⟨gx, Ax, cx, Lx, rfl, x, x3⟩
      replace e0_0 := x3.cell e0_0
      replace e0_1 := x3.cell e0_1
      have HB : Hid (∀ w', Ext w w' → Calls Try.prog 22 #[.agg #[.bool s1, .slice A1 L1 c1]] w' fun e w'' => e = .returned (.int .i64 Lx) ∧ Ext w' w'') := fun w' hk => by
        rw [x.len]
        exact zbitLen_z (h1.ext hk) (by omega)
      obtain ⟨bk, oo, hA, hbb, hcc⟩ := x.bn.rd.at_ (j := 0) HL.out
      rw [digs_get HL.out, bit0] at hcc
      simp only [Nat.add_zero] at hcc
      subst hA
      have hLx : 0 < Lx := by rw [x.len]; exact HL.out
      have HO : Hid (∀ w', Ext w w' → Calls Try.prog 23 #[.agg #[.bool s1, .slice A1 L1 c1]] w' fun e w'' => e = .returned (.bool (((z1.natAbs % 2 : Nat) : Int) == 1)) ∧ Ext w' w'') := fun w' hk => by
        have := isOdd_z (h1.ext hk)
        rwa [show (z1.natAbs % 2 == 1) = (((z1.natAbs % 2 : Nat) : Int) == 1) from by rw [Bool.eq_iff_iff]; simp; omega] at this
      generalize z1.natAbs % 2 = bt at *
      have te0_0 := fun o => (Ext.alloc w3 o).cell e0_0
      have te0_1 := fun o => (Ext.alloc w3 o).cell e0_1
      have thcc := fun o => (Ext.alloc w3 o).cell hcc
      go_wp2_with fail
      clear te0_0 te0_1 thcc
      obtain ⟨w4, hw⟩ : ∃ z : World, z = (w3.alloc (.cells #[.int .i64 gx, .slice (some ⟨bk, oo, none⟩) Lx cx] 30)) := ⟨_, rfl⟩
      rw [← hw]
      have x4 : Ext w3 w4 := by rw [hw]; exact Ext.alloc _ _
      have bb := box_at w3 #[.int .i64 gx, .slice (some ⟨bk, oo, none⟩) Lx cx] 30
      rw [← hw] at bb
      replace e0_0 := x4.cell e0_0
      replace e0_1 := x4.cell e0_1
      replace hcc := x4.cell hcc
      have x_0 := bb.1 0 (.int .i64 gx) rfl
      have x_1 := bb.1 1 (.slice (some ⟨bk, oo, none⟩) Lx cx) rfl
      clear hw bb
      go_wp2_with fail
      have HK : Hid (∀ w', Ext w4 w' → Ext w4 w' ∧ w'.cell? ⟨w.heap.size, 0, none⟩ = some (.bool s1) ∧ w'.cell? ⟨w.heap.size, 1, none⟩ = some (.slice A1 L1 c1) ∧ w'.cell? ⟨bk, oo, none⟩ = some (.int .i64 bt) ∧ w'.cell? ⟨w3.heap.size, 0, none⟩ = some (.int .i64 gx) ∧ w'.cell? ⟨w3.heap.size, 1, none⟩ = some (.slice (some ⟨bk, oo, none⟩) Lx cx)) := fun w' hk => ⟨hk, hk.cell e0_0, hk.cell e0_1, hk.cell hcc, hk.cell x_0, hk.cell x_1⟩
      go_region_held3 (fun w' => Ext w4 w' ∧ w'.cell? ⟨w.heap.size, 0, none⟩ = some (.bool s1) ∧ w'.cell? ⟨w.heap.size, 1, none⟩ = some (.slice A1 L1 c1) ∧ w'.cell? ⟨bk, oo, none⟩ = some (.int .i64 bt) ∧ w'.cell? ⟨w3.heap.size, 0, none⟩ = some (.int .i64 gx) ∧ w'.cell? ⟨w3.heap.size, 1, none⟩ = some (.slice (some ⟨bk, oo, none⟩) Lx cx))
        ((refine HK.out _ ?_; (repeat' (first | with_reducible exact Ext.refl _ | with_reducible assumption | with_reducible apply Ext.alloc_r | with_reducible apply Ext.drew_r | with_reducible refine Ext.trans ?_ ‹Ext _ _›))))
        (first
          | (go_at_call 23; have hgd := fb; clear hgd; refine (HO.out _ (by repeat' (first | with_reducible exact Ext.refl _ | with_reducible assumption | with_reducible apply Ext.alloc_r | with_reducible apply Ext.drew_r | with_reducible refine Ext.trans ?_ ‹Ext _ _›))).mono ?_; rintro e w10 ⟨rfl, x10⟩)
          | (go_at_call 22; have hgd := fb; clear hgd; refine (HB.out _ (by repeat' (first | with_reducible exact Ext.refl _ | with_reducible assumption | with_reducible apply Ext.alloc_r | with_reducible apply Ext.drew_r | with_reducible refine Ext.trans ?_ ‹Ext _ _›))).mono ?_; rintro e w9 ⟨rfl, x9⟩)
          | (go_at_call 16; have hgd := fb; clear hgd; refine (lis_z (fb.ext (by repeat' (first | with_reducible exact Ext.refl _ | with_reducible assumption | with_reducible apply Ext.alloc_r | with_reducible apply Ext.drew_r | with_reducible refine Ext.trans ?_ ‹Ext _ _›))) (x.ext (by repeat' (first | with_reducible exact Ext.refl _ | with_reducible assumption | with_reducible apply Ext.alloc_r | with_reducible apply Ext.drew_r | with_reducible refine Ext.trans ?_ ‹Ext _ _›))) (by omega)).mono ?_; rintro e w8 ⟨rfl, x8⟩)
          | (go_at_call 21; have hgd := fa; clear hgd; refine (znormal_z (h1.ext (by repeat' (first | with_reducible exact Ext.refl _ | with_reducible assumption | with_reducible apply Ext.alloc_r | with_reducible apply Ext.drew_r | with_reducible refine Ext.trans ?_ ‹Ext _ _›))) (by omega)).mono ?_; rintro e w7 ⟨sfb, Afb, cfb, Lfb, rfl, fb, x7⟩)
          | (go_at_call 16; have hgd := fa; clear hgd; refine (lis_z (fa.ext (by repeat' (first | with_reducible exact Ext.refl _ | with_reducible assumption | with_reducible apply Ext.alloc_r | with_reducible apply Ext.drew_r | with_reducible refine Ext.trans ?_ ‹Ext _ _›))) (x.ext (by repeat' (first | with_reducible exact Ext.refl _ | with_reducible assumption | with_reducible apply Ext.alloc_r | with_reducible apply Ext.drew_r | with_reducible refine Ext.trans ?_ ‹Ext _ _›))) (by omega)).mono ?_; rintro e w6 ⟨rfl, x6⟩)
          | (go_at_call 20; refine (from_z (h1.ext (by repeat' (first | with_reducible exact Ext.refl _ | with_reducible assumption | with_reducible apply Ext.alloc_r | with_reducible apply Ext.drew_r | with_reducible refine Ext.trans ?_ ‹Ext _ _›))) (by omega)).mono ?_; rintro e w5 ⟨sfa, Afa, cfa, Lfa, rfl, fa, x5⟩))
      clear HK
      have xh : Ext w4 w10 := (by repeat' (first | with_reducible exact Ext.refl _ | with_reducible assumption | with_reducible apply Ext.alloc_r | with_reducible apply Ext.drew_r | with_reducible refine Ext.trans ?_ ‹Ext _ _›))
      replace e0_0 := xh.cell e0_0
      replace e0_1 := xh.cell e0_1
      replace hcc := xh.cell hcc
      replace x_0 := xh.cell x_0
      replace x_1 := xh.cell x_1
      clear xh
      go_wp2_with fail
      go_ret
      exact ⟨rfl, (by repeat' (first | with_reducible exact Ext.refl _ | with_reducible assumption | with_reducible apply Ext.alloc_r | with_reducible apply Ext.drew_r | with_reducible refine Ext.trans ?_ ‹Ext _ _›))⟩
  · have hf' : (decide (L1 ≤ 20) && (decide (L1 ≤ 20) && decide (L1 ≤ 20))) = false := by simpa using hf
    have HF := Lib.hid hf'
    clear hf hf'
    go_enter Try.func4, Try.ntmps4
    go_wp2_with fail
    obtain ⟨w0, hw0⟩ : ∃ z : World, z = (w.alloc (.cells #[.bool s1, .slice A1 L1 c1] 25)) := ⟨_, rfl⟩
    rw [← hw0]
    have b0 := box_at w #[.bool s1, .slice A1 L1 c1] 25
    have hsz : w0.heap.size = w.heap.size + 1 := by rw [hw0]; simp
    rw [← hw0] at b0
    have y0 : Ext w w0 := by rw [hw0]; exact Ext.alloc _ _
    have x0 : Ext w w0 := y0
    have e0_0 := b0.1 0 (.bool s1) rfl
    have e0_1 := b0.1 1 (.slice A1 L1 c1) rfl
    clear hw0 b0 y0
    go_wp2_with fail
    refine (lawake_z _).mono ?_
    rintro e w1 ⟨rfl, x1⟩
    replace e0_0 := x1.cell e0_0
    replace e0_1 := x1.cell e0_1
    go_wp2_with fail
    refine (lfew_z (n := 20) (by omega) (by omega) (by omega)).mono ?_
    rintro e w2 ⟨rfl, x2⟩
    replace e0_0 := x2.cell e0_0
    replace e0_1 := x2.cell e0_1
    rw [HF.out]
    clear hsz
    go_wp2_with fail
    refine (lawake_z _).mono ?_
    rintro e w3 ⟨rfl, x3⟩
    replace e0_0 := x3.cell e0_0
    replace e0_1 := x3.cell e0_1
    go_wp2_with fail
    go_ret
    exact ⟨rfl, (by repeat' (first | with_reducible exact Ext.refl _ | with_reducible assumption | with_reducible apply Ext.alloc_r | with_reducible apply Ext.drew_r | with_reducible refine Ext.trans ?_ ‹Ext _ _›))⟩
end Go.Proofs.Ytcccabgeoaidjaa
