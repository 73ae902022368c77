/- The walk of IntegerWords. -/
import Derived.Test.YtcccabgeoaidjaaLaw2f
import Derived.Test.YtcccabgeoaidjaaIntD
namespace Go.Proofs.Ytcccabgeoaidjaa
open Go.RowKit
set_option maxHeartbeats 40000000 in
set_option maxRecDepth 100000 in
theorem integerWords_walk {w : World} {n m : Int} {s1 : Bool} {A1 : Option Addr} {c1 L1 : Nat} {z1 : Int} (hn : -9223372036854775808 ≤ n ∧ n ≤ 9223372036854775807) (hm : -9223372036854775808 ≤ m ∧ m ≤ 9223372036854775807) (h1 : ZV w s1 A1 c1 L1 z1) :
    Calls Try.prog 8 #[.int .i64 n, .int .i64 m, .agg #[.bool s1, .slice A1 L1 c1]] w fun e w' => e = .returned (.bool true) ∧ Ext w w' := by
  have p1 := h1.nv.cap
  have q1 := h1.nv.le
  by_cases hf : (decide (L1 ≤ 20) && (decide (L1 ≤ 20) && decide (L1 ≤ 20))) = true
  · skip
    have k1 := hf
    simp only [Bool.and_eq_true, decide_eq_true_eq] at k1
    have HF := Lib.hid hf
    clear hf
    have d1 : dl z1.natAbs ≤ 20 := Nat.le_trans h1.nv.dl (by omega)
    have l1 : bl z1.natAbs ≤ 640 := Nat.le_trans h1.nv.bl (by omega)
    obtain ⟨K, hK⟩ : ∃ K : Int, K = cmpZ n m := ⟨_, rfl⟩
    obtain ⟨B, hB⟩ : ∃ B : Bool, decide (n < m) = B := ⟨_, rfl⟩
    have hB2 : decide (K < 0) = B := by
      rw [← hB, decide_eq_decide, hK]
      unfold cmpZ
      repeat' split <;> omega
    have HK := Lib.hid hK
    clear hK
    by_cases qA : (bl z1.natAbs < 64) ∧ (-9223372036854775808 ≤ z1 ∧ z1 ≤ 9223372036854775807)
    · have HL := Lib.hid qA.1
      have HZ := Lib.hid qA.2
      clear qA
      go_enter Try.func8, Try.ntmps8
      go_wp2_with fail
      obtain ⟨w0, hw0⟩ : ∃ z : World, z = (w.alloc (.cells #[.bool s1, .slice A1 L1 c1] 25)) := ⟨_, rfl⟩
      rw [← hw0]
      have b0 := box_at w #[.bool s1, .slice A1 L1 c1] 25
      have hsz : w0.heap.size = w.heap.size + 1 := by rw [hw0]; simp
      rw [← hw0] at b0
      have y0 : Ext w w0 := by rw [hw0]; exact Ext.alloc _ _
      have x0 : Ext w w0 := y0
      have e0_0 := b0.1 0 (.bool s1) rfl
      have e0_1 := b0.1 1 (.slice A1 L1 c1) rfl
      clear hw0 b0 y0
      go_wp2_with fail
      refine (lawake_z _).mono ?_
      rintro e w1 ⟨rfl, x1⟩
      replace e0_0 := x1.cell e0_0
      replace e0_1 := x1.cell e0_1
      go_wp2_with fail
      refine (lfew_z (n := 20) (by omega) (by omega) (by omega)).mono ?_
      rintro e w2 ⟨rfl, x2⟩
      replace e0_0 := x2.cell e0_0
      replace e0_1 := x2.cell e0_1
      rw [HF.out]
      clear hsz
      go_wp2_with fail
      refine (of_z hn).mono ?_
      rintro e w3 ⟨son, Aon, con, Lon, rfl, on, x3⟩
      replace e0_0 := x3.cell e0_0
      replace e0_1 := x3.cell e0_1
      go_wp2_with fail
      refine (int64_yes on.zv hn.1 hn.2).mono ?_
      rintro e w4 ⟨rfl, x4⟩
      replace e0_0 := x4.cell e0_0
      replace e0_1 := x4.cell e0_1
      go_wp2_with fail
      refine (int64_yes (h1.ext (by repeat' (first | with_reducible exact Ext.refl _ | with_reducible assumption | with_reducible apply Ext.alloc_r | with_reducible apply Ext.drew_r | with_reducible apply Ext.drewN_r | with_reducible refine Ext.trans ?_ ‹Ext _ _›))) HZ.out.1 HZ.out.2).mono ?_
      rintro e w5 ⟨rfl, x5⟩
      replace e0_0 := x5.cell e0_0
      replace e0_1 := x5.cell e0_1
      go_wp2_with fail
      refine (of_z hn).mono ?_
      rintro e w6 ⟨soa, Aoa, coa, Loa, rfl, oa, x6⟩
      replace e0_0 := x6.cell e0_0
      replace e0_1 := x6.cell e0_1
      go_wp2_with fail
      refine (of_z hm).mono ?_
      rintro e w7 ⟨sob, Aob, cob, Lob, rfl, ob, x7⟩
      replace e0_0 := x7.cell e0_0
      replace e0_1 := x7.cell e0_1
      go_wp2_with fail
      refine (cmp_is (k := K) (oa.zv.ext (by repeat' (first | with_reducible exact Ext.refl _ | with_reducible assumption | with_reducible apply Ext.alloc_r | with_reducible apply Ext.drew_r | with_reducible apply Ext.drewN_r | with_reducible refine Ext.trans ?_ ‹Ext _ _›))) (ob.zv.ext (by repeat' (first | with_reducible exact Ext.refl _ | with_reducible assumption | with_reducible apply Ext.alloc_r | with_reducible apply Ext.drew_r | with_reducible apply Ext.drewN_r | with_reducible refine Ext.trans ?_ ‹Ext _ _›))) HK.out.symm).mono ?_
      rintro e w8 ⟨rfl, x8⟩
      replace e0_0 := x8.cell e0_0
      replace e0_1 := x8.cell e0_1
      go_wp2_with fail
      refine (lof_z (h1.ext (by repeat' (first | with_reducible exact Ext.refl _ | with_reducible assumption | with_reducible apply Ext.alloc_r | with_reducible apply Ext.drew_r | with_reducible apply Ext.drewN_r | with_reducible refine Ext.trans ?_ ‹Ext _ _›))) (by omega)).mono ?_
      rintro e w9 ⟨gx, Ax, cx, Lx, rfl, x, x9⟩
      replace e0_0 := x9.cell e0_0
      replace e0_1 := x9.cell e0_1
      have hlx : (Lx : Int) < 64 := by have := x.len; have h2 := HL.out; unfold bl at h2; omega
      have te0_0 := fun o => (Ext.alloc w9 o).cell e0_0
      have te0_1 := fun o => (Ext.alloc w9 o).cell e0_1
      go_wp2_with fail
      clear te0_0 te0_1
      obtain ⟨w10, hw⟩ : ∃ z : World, z = (w9.alloc (.cells #[.int .i64 gx, .slice Ax Lx cx] 30)) := ⟨_, rfl⟩
      rw [← hw]
      have x10 : Ext w9 w10 := by rw [hw]; exact Ext.alloc _ _
      have bb := box_at w9 #[.int .i64 gx, .slice Ax Lx cx] 30
      rw [← hw] at bb
      replace e0_0 := x10.cell e0_0
      replace e0_1 := x10.cell e0_1
      have x_0 := bb.1 0 (.int .i64 gx) rfl
      have x_1 := bb.1 1 (.slice Ax Lx cx) rfl
      clear hw bb
      have e1 : ((Lx : Int) == 64) = false := by simp; omega
      have e2 : decide ((Lx : Int) < 64) = true := decide_eq_true hlx
      clear hlx
      go_wp2_with fail
      go_quiet (fail)
      go_wp2_with fail
      have HK : Hid (∀ w', Ext w10 w' → Ext w10 w' ∧ w'.cell? ⟨w.heap.size, 0, none⟩ = some (.bool s1) ∧ w'.cell? ⟨w.heap.size, 1, none⟩ = some (.slice A1 L1 c1) ∧ w'.cell? ⟨w9.heap.size, 0, none⟩ = some (.int .i64 gx) ∧ w'.cell? ⟨w9.heap.size, 1, none⟩ = some (.slice Ax Lx cx)) := fun w' hk => ⟨hk, hk.cell e0_0, hk.cell e0_1, hk.cell x_0, hk.cell x_1⟩
      first
      | go_region_held_law (fun w' => Ext w10 w' ∧ w'.cell? ⟨w.heap.size, 0, none⟩ = some (.bool s1) ∧ w'.cell? ⟨w.heap.size, 1, none⟩ = some (.slice A1 L1 c1) ∧ w'.cell? ⟨w9.heap.size, 0, none⟩ = some (.int .i64 gx) ∧ w'.cell? ⟨w9.heap.size, 1, none⟩ = some (.slice Ax Lx cx))
          ((refine HK.out _ ?_; (repeat' (first | with_reducible exact Ext.refl _ | with_reducible assumption | with_reducible apply Ext.alloc_r | with_reducible apply Ext.drew_r | with_reducible apply Ext.drewN_r | with_reducible refine Ext.trans ?_ ‹Ext _ _›))))
          (first
            | (go_at_call 29; have hgd := oz; clear hgd; refine (same_yes (oz.zv.ext (by repeat' (first | with_reducible exact Ext.refl _ | with_reducible assumption | with_reducible apply Ext.alloc_r | with_reducible apply Ext.drew_r | with_reducible apply Ext.drewN_r | with_reducible refine Ext.trans ?_ ‹Ext _ _›))) (h1.ext (by repeat' (first | with_reducible exact Ext.refl _ | with_reducible assumption | with_reducible apply Ext.alloc_r | with_reducible apply Ext.drew_r | with_reducible apply Ext.drewN_r | with_reducible refine Ext.trans ?_ ‹Ext _ _›))) rfl).mono ?_; rintro e w12 ⟨rfl, x12⟩)
            | (go_at_call 28; refine (of_z HZ.out).mono ?_; rintro e w11 ⟨soz, Aoz, coz, Loz, rfl, oz, x11⟩))
      | fail
      clear HK
      have xh : Ext w10 w12 := (by repeat' (first | with_reducible exact Ext.refl _ | with_reducible assumption | with_reducible apply Ext.alloc_r | with_reducible apply Ext.drew_r | with_reducible apply Ext.drewN_r | with_reducible refine Ext.trans ?_ ‹Ext _ _›))
      replace e0_0 := xh.cell e0_0
      replace e0_1 := xh.cell e0_1
      replace x_0 := xh.cell x_0
      replace x_1 := xh.cell x_1
      clear xh
      go_wp2_with fail
      go_ret
      exact ⟨rfl, (by repeat' (first | with_reducible exact Ext.refl _ | with_reducible assumption | with_reducible apply Ext.alloc_r | with_reducible apply Ext.drew_r | with_reducible apply Ext.drewN_r | with_reducible refine Ext.trans ?_ ‹Ext _ _›))⟩
    by_cases qB : (bl z1.natAbs = 64) ∧ (-9223372036854775808 ≤ z1 ∧ z1 ≤ 9223372036854775807) ∧ (z1.sign < 0)
    · have HL := Lib.hid qB.1
      have HZ := Lib.hid qB.2.1
      have HS := Lib.hid qB.2.2
      clear qA qB
      go_enter Try.func8, Try.ntmps8
      go_wp2_with fail
      obtain ⟨w0, hw0⟩ : ∃ z : World, z = (w.alloc (.cells #[.bool s1, .slice A1 L1 c1] 25)) := ⟨_, rfl⟩
      rw [← hw0]
      have b0 := box_at w #[.bool s1, .slice A1 L1 c1] 25
      have hsz : w0.heap.size = w.heap.size + 1 := by rw [hw0]; simp
      rw [← hw0] at b0
      have y0 : Ext w w0 := by rw [hw0]; exact Ext.alloc _ _
      have x0 : Ext w w0 := y0
      have e0_0 := b0.1 0 (.bool s1) rfl
      have e0_1 := b0.1 1 (.slice A1 L1 c1) rfl
      clear hw0 b0 y0
      go_wp2_with fail
      refine (lawake_z _).mono ?_
      rintro e w1 ⟨rfl, x1⟩
      replace e0_0 := x1.cell e0_0
      replace e0_1 := x1.cell e0_1
      go_wp2_with fail
      refine (lfew_z (n := 20) (by omega) (by omega) (by omega)).mono ?_
      rintro e w2 ⟨rfl, x2⟩
      replace e0_0 := x2.cell e0_0
      replace e0_1 := x2.cell e0_1
      rw [HF.out]
      clear hsz
      go_wp2_with fail
      refine (of_z hn).mono ?_
      rintro e w3 ⟨son, Aon, con, Lon, rfl, on, x3⟩
      replace e0_0 := x3.cell e0_0
      replace e0_1 := x3.cell e0_1
      go_wp2_with fail
      refine (int64_yes on.zv hn.1 hn.2).mono ?_
      rintro e w4 ⟨rfl, x4⟩
      replace e0_0 := x4.cell e0_0
      replace e0_1 := x4.cell e0_1
      go_wp2_with fail
      refine (int64_yes (h1.ext (by repeat' (first | with_reducible exact Ext.refl _ | with_reducible assumption | with_reducible apply Ext.alloc_r | with_reducible apply Ext.drew_r | with_reducible apply Ext.drewN_r | with_reducible refine Ext.trans ?_ ‹Ext _ _›))) HZ.out.1 HZ.out.2).mono ?_
      rintro e w5 ⟨rfl, x5⟩
      replace e0_0 := x5.cell e0_0
      replace e0_1 := x5.cell e0_1
      go_wp2_with fail
      refine (of_z hn).mono ?_
      rintro e w6 ⟨soa, Aoa, coa, Loa, rfl, oa, x6⟩
      replace e0_0 := x6.cell e0_0
      replace e0_1 := x6.cell e0_1
      go_wp2_with fail
      refine (of_z hm).mono ?_
      rintro e w7 ⟨sob, Aob, cob, Lob, rfl, ob, x7⟩
      replace e0_0 := x7.cell e0_0
      replace e0_1 := x7.cell e0_1
      go_wp2_with fail
      refine (cmp_is (k := K) (oa.zv.ext (by repeat' (first | with_reducible exact Ext.refl _ | with_reducible assumption | with_reducible apply Ext.alloc_r | with_reducible apply Ext.drew_r | with_reducible apply Ext.drewN_r | with_reducible refine Ext.trans ?_ ‹Ext _ _›))) (ob.zv.ext (by repeat' (first | with_reducible exact Ext.refl _ | with_reducible assumption | with_reducible apply Ext.alloc_r | with_reducible apply Ext.drew_r | with_reducible apply Ext.drewN_r | with_reducible refine Ext.trans ?_ ‹Ext _ _›))) HK.out.symm).mono ?_
      rintro e w8 ⟨rfl, x8⟩
      replace e0_0 := x8.cell e0_0
      replace e0_1 := x8.cell e0_1
      go_wp2_with fail
      refine (lof_z (h1.ext (by repeat' (first | with_reducible exact Ext.refl _ | with_reducible assumption | with_reducible apply Ext.alloc_r | with_reducible apply Ext.drew_r | with_reducible apply Ext.drewN_r | with_reducible refine Ext.trans ?_ ‹Ext _ _›))) (by omega)).mono ?_
      rintro e w9 ⟨gx, Ax, cx, Lx, rfl, x, x9⟩
      replace e0_0 := x9.cell e0_0
      replace e0_1 := x9.cell e0_1
      have hlx : Lx = 64 := by have := x.len; have h2 := HL.out; unfold bl at h2; omega
      subst hlx
      have hsg : gx < 0 := by rw [x.sign]; exact HS.out
      have te0_0 := fun o => (Ext.alloc w9 o).cell e0_0
      have te0_1 := fun o => (Ext.alloc w9 o).cell e0_1
      go_wp2_with fail
      clear te0_0 te0_1
      obtain ⟨w10, hw⟩ : ∃ z : World, z = (w9.alloc (.cells #[.int .i64 gx, .slice Ax 64 cx] 30)) := ⟨_, rfl⟩
      rw [← hw]
      have x10 : Ext w9 w10 := by rw [hw]; exact Ext.alloc _ _
      have bb := box_at w9 #[.int .i64 gx, .slice Ax 64 cx] 30
      rw [← hw] at bb
      replace e0_0 := x10.cell e0_0
      replace e0_1 := x10.cell e0_1
      have x_0 := bb.1 0 (.int .i64 gx) rfl
      have x_1 := bb.1 1 (.slice Ax 64 cx) rfl
      clear hw bb
      have e1 : decide (gx < 0) = true := decide_eq_true hsg
      clear hsg
      go_wp2_with fail
      have HK : Hid (∀ w', Ext w10 w' → Ext w10 w' ∧ w'.cell? ⟨w.heap.size, 0, none⟩ = some (.bool s1) ∧ w'.cell? ⟨w.heap.size, 1, none⟩ = some (.slice A1 L1 c1) ∧ w'.cell? ⟨w9.heap.size, 0, none⟩ = some (.int .i64 gx) ∧ w'.cell? ⟨w9.heap.size, 1, none⟩ = some (.slice Ax 64 cx)) := fun w' hk => ⟨hk, hk.cell e0_0, hk.cell e0_1, hk.cell x_0, hk.cell x_1⟩
      first
      | go_region_held3 (fun w' => Ext w10 w' ∧ w'.cell? ⟨w.heap.size, 0, none⟩ = some (.bool s1) ∧ w'.cell? ⟨w.heap.size, 1, none⟩ = some (.slice A1 L1 c1) ∧ w'.cell? ⟨w9.heap.size, 0, none⟩ = some (.int .i64 gx) ∧ w'.cell? ⟨w9.heap.size, 1, none⟩ = some (.slice Ax 64 cx))
          ((refine HK.out _ ?_; (repeat' (first | with_reducible exact Ext.refl _ | with_reducible assumption | with_reducible apply Ext.alloc_r | with_reducible apply Ext.drew_r | with_reducible apply Ext.drewN_r | with_reducible refine Ext.trans ?_ ‹Ext _ _›))))
          (first
            | (go_at_call 36; have hgd := up; clear hgd; refine (rcmp_is (k := 0) (x.ext (by repeat' (first | with_reducible exact Ext.refl _ | with_reducible assumption | with_reducible apply Ext.alloc_r | with_reducible apply Ext.drew_r | with_reducible apply Ext.drewN_r | with_reducible refine Ext.trans ?_ ‹Ext _ _›))) (up.ext (by repeat' (first | with_reducible exact Ext.refl _ | with_reducible assumption | with_reducible apply Ext.alloc_r | with_reducible apply Ext.drew_r | with_reducible apply Ext.drewN_r | with_reducible refine Ext.trans ?_ ‹Ext _ _›))) (by omega) (words_eq HZ.out HS.out HL.out)).mono ?_; rintro e w12 ⟨rfl, x12⟩)
            | (go_at_call 15; refine (up_one (by first | exact Row.drew (Row.new _ _ _ [1]) | exact Row.new _ _ _ [1])).mono ?_; rintro e w11 ⟨Aup, cup, rfl, up, x11⟩))
      | fail
      clear HK
      have xh : Ext w10 w12 := (by repeat' (first | with_reducible exact Ext.refl _ | with_reducible assumption | with_reducible apply Ext.alloc_r | with_reducible apply Ext.drew_r | with_reducible apply Ext.drewN_r | with_reducible refine Ext.trans ?_ ‹Ext _ _›))
      replace e0_0 := xh.cell e0_0
      replace e0_1 := xh.cell e0_1
      replace x_0 := xh.cell x_0
      replace x_1 := xh.cell x_1
      clear xh
      go_wp2_with fail
      have HK : Hid (∀ w', Ext w12 w' → Ext w12 w' ∧ w'.cell? ⟨w.heap.size, 0, none⟩ = some (.bool s1) ∧ w'.cell? ⟨w.heap.size, 1, none⟩ = some (.slice A1 L1 c1) ∧ w'.cell? ⟨w9.heap.size, 0, none⟩ = some (.int .i64 gx) ∧ w'.cell? ⟨w9.heap.size, 1, none⟩ = some (.slice Ax 64 cx)) := fun w' hk => ⟨hk, hk.cell e0_0, hk.cell e0_1, hk.cell x_0, hk.cell x_1⟩
      first
      | go_region_held_law (fun w' => Ext w12 w' ∧ w'.cell? ⟨w.heap.size, 0, none⟩ = some (.bool s1) ∧ w'.cell? ⟨w.heap.size, 1, none⟩ = some (.slice A1 L1 c1) ∧ w'.cell? ⟨w9.heap.size, 0, none⟩ = some (.int .i64 gx) ∧ w'.cell? ⟨w9.heap.size, 1, none⟩ = some (.slice Ax 64 cx))
          ((refine HK.out _ ?_; (repeat' (first | with_reducible exact Ext.refl _ | with_reducible assumption | with_reducible apply Ext.alloc_r | with_reducible apply Ext.drew_r | with_reducible apply Ext.drewN_r | with_reducible refine Ext.trans ?_ ‹Ext _ _›))))
          (first
            | (go_at_call 29; have hgd := oz; clear hgd; refine (same_yes (oz.zv.ext (by repeat' (first | with_reducible exact Ext.refl _ | with_reducible assumption | with_reducible apply Ext.alloc_r | with_reducible apply Ext.drew_r | with_reducible apply Ext.drewN_r | with_reducible refine Ext.trans ?_ ‹Ext _ _›))) (h1.ext (by repeat' (first | with_reducible exact Ext.refl _ | with_reducible assumption | with_reducible apply Ext.alloc_r | with_reducible apply Ext.drew_r | with_reducible apply Ext.drewN_r | with_reducible refine Ext.trans ?_ ‹Ext _ _›))) rfl).mono ?_; rintro e w14 ⟨rfl, x14⟩)
            | (go_at_call 28; refine (of_z HZ.out).mono ?_; rintro e w13 ⟨soz, Aoz, coz, Loz, rfl, oz, x13⟩))
      | fail
      clear HK
      have xh : Ext w12 w14 := (by repeat' (first | with_reducible exact Ext.refl _ | with_reducible assumption | with_reducible apply Ext.alloc_r | with_reducible apply Ext.drew_r | with_reducible apply Ext.drewN_r | with_reducible refine Ext.trans ?_ ‹Ext _ _›))
      replace e0_0 := xh.cell e0_0
      replace e0_1 := xh.cell e0_1
      replace x_0 := xh.cell x_0
      replace x_1 := xh.cell x_1
      clear xh
      go_wp2_with fail
      go_ret
      exact ⟨rfl, (by repeat' (first | with_reducible exact Ext.refl _ | with_reducible assumption | with_reducible apply Ext.alloc_r | with_reducible apply Ext.drew_r | with_reducible apply Ext.drewN_r | with_reducible refine Ext.trans ?_ ‹Ext _ _›))⟩
    by_cases qC : (bl z1.natAbs = 64) ∧ (¬ (-9223372036854775808 ≤ z1 ∧ z1 ≤ 9223372036854775807)) ∧ (z1.sign < 0)
    · have HL := Lib.hid qC.1
      have HZ := Lib.hid qC.2.1
      have HS := Lib.hid qC.2.2
      clear qA qB qC
      go_enter Try.func8, Try.ntmps8
      go_wp2_with fail
      obtain ⟨w0, hw0⟩ : ∃ z : World, z = (w.alloc (.cells #[.bool s1, .slice A1 L1 c1] 25)) := ⟨_, rfl⟩
      rw [← hw0]
      have b0 := box_at w #[.bool s1, .slice A1 L1 c1] 25
      have hsz : w0.heap.size = w.heap.size + 1 := by rw [hw0]; simp
      rw [← hw0] at b0
      have y0 : Ext w w0 := by rw [hw0]; exact Ext.alloc _ _
      have x0 : Ext w w0 := y0
      have e0_0 := b0.1 0 (.bool s1) rfl
      have e0_1 := b0.1 1 (.slice A1 L1 c1) rfl
      clear hw0 b0 y0
      go_wp2_with fail
      refine (lawake_z _).mono ?_
      rintro e w1 ⟨rfl, x1⟩
      replace e0_0 := x1.cell e0_0
      replace e0_1 := x1.cell e0_1
      go_wp2_with fail
      refine (lfew_z (n := 20) (by omega) (by omega) (by omega)).mono ?_
      rintro e w2 ⟨rfl, x2⟩
      replace e0_0 := x2.cell e0_0
      replace e0_1 := x2.cell e0_1
      rw [HF.out]
      clear hsz
      go_wp2_with fail
      refine (of_z hn).mono ?_
      rintro e w3 ⟨son, Aon, con, Lon, rfl, on, x3⟩
      replace e0_0 := x3.cell e0_0
      replace e0_1 := x3.cell e0_1
      go_wp2_with fail
      refine (int64_yes on.zv hn.1 hn.2).mono ?_
      rintro e w4 ⟨rfl, x4⟩
      replace e0_0 := x4.cell e0_0
      replace e0_1 := x4.cell e0_1
      go_wp2_with fail
      refine (int64_no (h1.ext (by repeat' (first | with_reducible exact Ext.refl _ | with_reducible assumption | with_reducible apply Ext.alloc_r | with_reducible apply Ext.drew_r | with_reducible apply Ext.drewN_r | with_reducible refine Ext.trans ?_ ‹Ext _ _›))) HZ.out).mono ?_
      rintro e w5 ⟨rfl, x5⟩
      replace e0_0 := x5.cell e0_0
      replace e0_1 := x5.cell e0_1
      go_wp2_with fail
      refine (of_z hn).mono ?_
      rintro e w6 ⟨soa, Aoa, coa, Loa, rfl, oa, x6⟩
      replace e0_0 := x6.cell e0_0
      replace e0_1 := x6.cell e0_1
      go_wp2_with fail
      refine (of_z hm).mono ?_
      rintro e w7 ⟨sob, Aob, cob, Lob, rfl, ob, x7⟩
      replace e0_0 := x7.cell e0_0
      replace e0_1 := x7.cell e0_1
      go_wp2_with fail
      refine (cmp_is (k := K) (oa.zv.ext (by repeat' (first | with_reducible exact Ext.refl _ | with_reducible assumption | with_reducible apply Ext.alloc_r | with_reducible apply Ext.drew_r | with_reducible apply Ext.drewN_r | with_reducible refine Ext.trans ?_ ‹Ext _ _›))) (ob.zv.ext (by repeat' (first | with_reducible exact Ext.refl _ | with_reducible assumption | with_reducible apply Ext.alloc_r | with_reducible apply Ext.drew_r | with_reducible apply Ext.drewN_r | with_reducible refine Ext.trans ?_ ‹Ext _ _›))) HK.out.symm).mono ?_
      rintro e w8 ⟨rfl, x8⟩
      replace e0_0 := x8.cell e0_0
      replace e0_1 := x8.cell e0_1
      go_wp2_with fail
      refine (lof_z (h1.ext (by repeat' (first | with_reducible exact Ext.refl _ | with_reducible assumption | with_reducible apply Ext.alloc_r | with_reducible apply Ext.drew_r | with_reducible apply Ext.drewN_r | with_reducible refine Ext.trans ?_ ‹Ext _ _›))) (by omega)).mono ?_
      rintro e w9 ⟨gx, Ax, cx, Lx, rfl, x, x9⟩
      replace e0_0 := x9.cell e0_0
      replace e0_1 := x9.cell e0_1
      have hlx : Lx = 64 := by have := x.len; have h2 := HL.out; unfold bl at h2; omega
      subst hlx
      have hsg : gx < 0 := by rw [x.sign]; exact HS.out
      have te0_0 := fun o => (Ext.alloc w9 o).cell e0_0
      have te0_1 := fun o => (Ext.alloc w9 o).cell e0_1
      go_wp2_with fail
      clear te0_0 te0_1
      obtain ⟨w10, hw⟩ : ∃ z : World, z = (w9.alloc (.cells #[.int .i64 gx, .slice Ax 64 cx] 30)) := ⟨_, rfl⟩
      rw [← hw]
      have x10 : Ext w9 w10 := by rw [hw]; exact Ext.alloc _ _
      have bb := box_at w9 #[.int .i64 gx, .slice Ax 64 cx] 30
      rw [← hw] at bb
      replace e0_0 := x10.cell e0_0
      replace e0_1 := x10.cell e0_1
      have x_0 := bb.1 0 (.int .i64 gx) rfl
      have x_1 := bb.1 1 (.slice Ax 64 cx) rfl
      clear hw bb
      have e1 : decide (gx < 0) = true := decide_eq_true hsg
      clear hsg
      go_wp2_with fail
      have HK : Hid (∀ w', Ext w10 w' → Ext w10 w' ∧ w'.cell? ⟨w.heap.size, 0, none⟩ = some (.bool s1) ∧ w'.cell? ⟨w.heap.size, 1, none⟩ = some (.slice A1 L1 c1) ∧ w'.cell? ⟨w9.heap.size, 0, none⟩ = some (.int .i64 gx) ∧ w'.cell? ⟨w9.heap.size, 1, none⟩ = some (.slice Ax 64 cx)) := fun w' hk => ⟨hk, hk.cell e0_0, hk.cell e0_1, hk.cell x_0, hk.cell x_1⟩
      first
      | go_region_held3 (fun w' => Ext w10 w' ∧ w'.cell? ⟨w.heap.size, 0, none⟩ = some (.bool s1) ∧ w'.cell? ⟨w.heap.size, 1, none⟩ = some (.slice A1 L1 c1) ∧ w'.cell? ⟨w9.heap.size, 0, none⟩ = some (.int .i64 gx) ∧ w'.cell? ⟨w9.heap.size, 1, none⟩ = some (.slice Ax 64 cx))
          ((refine HK.out _ ?_; (repeat' (first | with_reducible exact Ext.refl _ | with_reducible assumption | with_reducible apply Ext.alloc_r | with_reducible apply Ext.drew_r | with_reducible apply Ext.drewN_r | with_reducible refine Ext.trans ?_ ‹Ext _ _›))))
          (first
            | (go_at_call 36; have hgd := up; clear hgd; refine (rcmp_is (k := 1) (x.ext (by repeat' (first | with_reducible exact Ext.refl _ | with_reducible assumption | with_reducible apply Ext.alloc_r | with_reducible apply Ext.drew_r | with_reducible apply Ext.drewN_r | with_reducible refine Ext.trans ?_ ‹Ext _ _›))) (up.ext (by repeat' (first | with_reducible exact Ext.refl _ | with_reducible assumption | with_reducible apply Ext.alloc_r | with_reducible apply Ext.drew_r | with_reducible apply Ext.drewN_r | with_reducible refine Ext.trans ?_ ‹Ext _ _›))) (by omega) (words_gt HZ.out HS.out)).mono ?_; rintro e w12 ⟨rfl, x12⟩)
            | (go_at_call 15; refine (up_one (by first | exact Row.drew (Row.new _ _ _ [1]) | exact Row.new _ _ _ [1])).mono ?_; rintro e w11 ⟨Aup, cup, rfl, up, x11⟩))
      | fail
      clear HK
      have xh : Ext w10 w12 := (by repeat' (first | with_reducible exact Ext.refl _ | with_reducible assumption | with_reducible apply Ext.alloc_r | with_reducible apply Ext.drew_r | with_reducible apply Ext.drewN_r | with_reducible refine Ext.trans ?_ ‹Ext _ _›))
      replace e0_0 := xh.cell e0_0
      replace e0_1 := xh.cell e0_1
      replace x_0 := xh.cell x_0
      replace x_1 := xh.cell x_1
      clear xh
      go_wp2_with fail
      go_quiet (fail)
      go_wp2_with fail
      go_ret
      exact ⟨rfl, (by repeat' (first | with_reducible exact Ext.refl _ | with_reducible assumption | with_reducible apply Ext.alloc_r | with_reducible apply Ext.drew_r | with_reducible apply Ext.drewN_r | with_reducible refine Ext.trans ?_ ‹Ext _ _›))⟩
    by_cases qD : (bl z1.natAbs = 64) ∧ (¬ (-9223372036854775808 ≤ z1 ∧ z1 ≤ 9223372036854775807)) ∧ (0 ≤ z1.sign)
    · have HL := Lib.hid qD.1
      have HZ := Lib.hid qD.2.1
      have HS := Lib.hid qD.2.2
      clear qA qB qC qD
      go_enter Try.func8, Try.ntmps8
      go_wp2_with fail
      obtain ⟨w0, hw0⟩ : ∃ z : World, z = (w.alloc (.cells #[.bool s1, .slice A1 L1 c1] 25)) := ⟨_, rfl⟩
      rw [← hw0]
      have b0 := box_at w #[.bool s1, .slice A1 L1 c1] 25
      have hsz : w0.heap.size = w.heap.size + 1 := by rw [hw0]; simp
      rw [← hw0] at b0
      have y0 : Ext w w0 := by rw [hw0]; exact Ext.alloc _ _
      have x0 : Ext w w0 := y0
      have e0_0 := b0.1 0 (.bool s1) rfl
      have e0_1 := b0.1 1 (.slice A1 L1 c1) rfl
      clear hw0 b0 y0
      go_wp2_with fail
      refine (lawake_z _).mono ?_
      rintro e w1 ⟨rfl, x1⟩
      replace e0_0 := x1.cell e0_0
      replace e0_1 := x1.cell e0_1
      go_wp2_with fail
      refine (lfew_z (n := 20) (by omega) (by omega) (by omega)).mono ?_
      rintro e w2 ⟨rfl, x2⟩
      replace e0_0 := x2.cell e0_0
      replace e0_1 := x2.cell e0_1
      rw [HF.out]
      clear hsz
      go_wp2_with fail
      refine (of_z hn).mono ?_
      rintro e w3 ⟨son, Aon, con, Lon, rfl, on, x3⟩
      replace e0_0 := x3.cell e0_0
      replace e0_1 := x3.cell e0_1
      go_wp2_with fail
      refine (int64_yes on.zv hn.1 hn.2).mono ?_
      rintro e w4 ⟨rfl, x4⟩
      replace e0_0 := x4.cell e0_0
      replace e0_1 := x4.cell e0_1
      go_wp2_with fail
      refine (int64_no (h1.ext (by repeat' (first | with_reducible exact Ext.refl _ | with_reducible assumption | with_reducible apply Ext.alloc_r | with_reducible apply Ext.drew_r | with_reducible apply Ext.drewN_r | with_reducible refine Ext.trans ?_ ‹Ext _ _›))) HZ.out).mono ?_
      rintro e w5 ⟨rfl, x5⟩
      replace e0_0 := x5.cell e0_0
      replace e0_1 := x5.cell e0_1
      go_wp2_with fail
      refine (of_z hn).mono ?_
      rintro e w6 ⟨soa, Aoa, coa, Loa, rfl, oa, x6⟩
      replace e0_0 := x6.cell e0_0
      replace e0_1 := x6.cell e0_1
      go_wp2_with fail
      refine (of_z hm).mono ?_
      rintro e w7 ⟨sob, Aob, cob, Lob, rfl, ob, x7⟩
      replace e0_0 := x7.cell e0_0
      replace e0_1 := x7.cell e0_1
      go_wp2_with fail
      refine (cmp_is (k := K) (oa.zv.ext (by repeat' (first | with_reducible exact Ext.refl _ | with_reducible assumption | with_reducible apply Ext.alloc_r | with_reducible apply Ext.drew_r | with_reducible apply Ext.drewN_r | with_reducible refine Ext.trans ?_ ‹Ext _ _›))) (ob.zv.ext (by repeat' (first | with_reducible exact Ext.refl _ | with_reducible assumption | with_reducible apply Ext.alloc_r | with_reducible apply Ext.drew_r | with_reducible apply Ext.drewN_r | with_reducible refine Ext.trans ?_ ‹Ext _ _›))) HK.out.symm).mono ?_
      rintro e w8 ⟨rfl, x8⟩
      replace e0_0 := x8.cell e0_0
      replace e0_1 := x8.cell e0_1
      go_wp2_with fail
      refine (lof_z (h1.ext (by repeat' (first | with_reducible exact Ext.refl _ | with_reducible assumption | with_reducible apply Ext.alloc_r | with_reducible apply Ext.drew_r | with_reducible apply Ext.drewN_r | with_reducible refine Ext.trans ?_ ‹Ext _ _›))) (by omega)).mono ?_
      rintro e w9 ⟨gx, Ax, cx, Lx, rfl, x, x9⟩
      replace e0_0 := x9.cell e0_0
      replace e0_1 := x9.cell e0_1
      have hlx : Lx = 64 := by have := x.len; have h2 := HL.out; unfold bl at h2; omega
      subst hlx
      have hsg : 0 ≤ gx := by rw [x.sign]; exact HS.out
      have te0_0 := fun o => (Ext.alloc w9 o).cell e0_0
      have te0_1 := fun o => (Ext.alloc w9 o).cell e0_1
      go_wp2_with fail
      clear te0_0 te0_1
      obtain ⟨w10, hw⟩ : ∃ z : World, z = (w9.alloc (.cells #[.int .i64 gx, .slice Ax 64 cx] 30)) := ⟨_, rfl⟩
      rw [← hw]
      have x10 : Ext w9 w10 := by rw [hw]; exact Ext.alloc _ _
      have bb := box_at w9 #[.int .i64 gx, .slice Ax 64 cx] 30
      rw [← hw] at bb
      replace e0_0 := x10.cell e0_0
      replace e0_1 := x10.cell e0_1
      have x_0 := bb.1 0 (.int .i64 gx) rfl
      have x_1 := bb.1 1 (.slice Ax 64 cx) rfl
      clear hw bb
      have e1 : decide (gx < 0) = false := decide_eq_false (by omega)
      clear hsg
      go_wp2_with fail
      go_quiet (fail)
      go_wp2_with fail
      go_quiet (fail)
      go_wp2_with fail
      go_ret
      exact ⟨rfl, (by repeat' (first | with_reducible exact Ext.refl _ | with_reducible assumption | with_reducible apply Ext.alloc_r | with_reducible apply Ext.drew_r | with_reducible apply Ext.drewN_r | with_reducible refine Ext.trans ?_ ‹Ext _ _›))⟩
    by_cases qE : (64 < bl z1.natAbs) ∧ (¬ (-9223372036854775808 ≤ z1 ∧ z1 ≤ 9223372036854775807))
    · have HL := Lib.hid qE.1
      have HZ := Lib.hid qE.2
      clear qA qB qC qD qE
      go_enter Try.func8, Try.ntmps8
      go_wp2_with fail
      obtain ⟨w0, hw0⟩ : ∃ z : World, z = (w.alloc (.cells #[.bool s1, .slice A1 L1 c1] 25)) := ⟨_, rfl⟩
      rw [← hw0]
      have b0 := box_at w #[.bool s1, .slice A1 L1 c1] 25
      have hsz : w0.heap.size = w.heap.size + 1 := by rw [hw0]; simp
      rw [← hw0] at b0
      have y0 : Ext w w0 := by rw [hw0]; exact Ext.alloc _ _
      have x0 : Ext w w0 := y0
      have e0_0 := b0.1 0 (.bool s1) rfl
      have e0_1 := b0.1 1 (.slice A1 L1 c1) rfl
      clear hw0 b0 y0
      go_wp2_with fail
      refine (lawake_z _).mono ?_
      rintro e w1 ⟨rfl, x1⟩
      replace e0_0 := x1.cell e0_0
      replace e0_1 := x1.cell e0_1
      go_wp2_with fail
      refine (lfew_z (n := 20) (by omega) (by omega) (by omega)).mono ?_
      rintro e w2 ⟨rfl, x2⟩
      replace e0_0 := x2.cell e0_0
      replace e0_1 := x2.cell e0_1
      rw [HF.out]
      clear hsz
      go_wp2_with fail
      refine (of_z hn).mono ?_
      rintro e w3 ⟨son, Aon, con, Lon, rfl, on, x3⟩
      replace e0_0 := x3.cell e0_0
      replace e0_1 := x3.cell e0_1
      go_wp2_with fail
      refine (int64_yes on.zv hn.1 hn.2).mono ?_
      rintro e w4 ⟨rfl, x4⟩
      replace e0_0 := x4.cell e0_0
      replace e0_1 := x4.cell e0_1
      go_wp2_with fail
      refine (int64_no (h1.ext (by repeat' (first | with_reducible exact Ext.refl _ | with_reducible assumption | with_reducible apply Ext.alloc_r | with_reducible apply Ext.drew_r | with_reducible apply Ext.drewN_r | with_reducible refine Ext.trans ?_ ‹Ext _ _›))) HZ.out).mono ?_
      rintro e w5 ⟨rfl, x5⟩
      replace e0_0 := x5.cell e0_0
      replace e0_1 := x5.cell e0_1
      go_wp2_with fail
      refine (of_z hn).mono ?_
      rintro e w6 ⟨soa, Aoa, coa, Loa, rfl, oa, x6⟩
      replace e0_0 := x6.cell e0_0
      replace e0_1 := x6.cell e0_1
      go_wp2_with fail
      refine (of_z hm).mono ?_
      rintro e w7 ⟨sob, Aob, cob, Lob, rfl, ob, x7⟩
      replace e0_0 := x7.cell e0_0
      replace e0_1 := x7.cell e0_1
      go_wp2_with fail
      refine (cmp_is (k := K) (oa.zv.ext (by repeat' (first | with_reducible exact Ext.refl _ | with_reducible assumption | with_reducible apply Ext.alloc_r | with_reducible apply Ext.drew_r | with_reducible apply Ext.drewN_r | with_reducible refine Ext.trans ?_ ‹Ext _ _›))) (ob.zv.ext (by repeat' (first | with_reducible exact Ext.refl _ | with_reducible assumption | with_reducible apply Ext.alloc_r | with_reducible apply Ext.drew_r | with_reducible apply Ext.drewN_r | with_reducible refine Ext.trans ?_ ‹Ext _ _›))) HK.out.symm).mono ?_
      rintro e w8 ⟨rfl, x8⟩
      replace e0_0 := x8.cell e0_0
      replace e0_1 := x8.cell e0_1
      go_wp2_with fail
      refine (lof_z (h1.ext (by repeat' (first | with_reducible exact Ext.refl _ | with_reducible assumption | with_reducible apply Ext.alloc_r | with_reducible apply Ext.drew_r | with_reducible apply Ext.drewN_r | with_reducible refine Ext.trans ?_ ‹Ext _ _›))) (by omega)).mono ?_
      rintro e w9 ⟨gx, Ax, cx, Lx, rfl, x, x9⟩
      replace e0_0 := x9.cell e0_0
      replace e0_1 := x9.cell e0_1
      have hlx : 64 < (Lx : Int) := by have := x.len; have h2 := HL.out; unfold bl at h2; omega
      have te0_0 := fun o => (Ext.alloc w9 o).cell e0_0
      have te0_1 := fun o => (Ext.alloc w9 o).cell e0_1
      go_wp2_with fail
      clear te0_0 te0_1
      obtain ⟨w10, hw⟩ : ∃ z : World, z = (w9.alloc (.cells #[.int .i64 gx, .slice Ax Lx cx] 30)) := ⟨_, rfl⟩
      rw [← hw]
      have x10 : Ext w9 w10 := by rw [hw]; exact Ext.alloc _ _
      have bb := box_at w9 #[.int .i64 gx, .slice Ax Lx cx] 30
      rw [← hw] at bb
      replace e0_0 := x10.cell e0_0
      replace e0_1 := x10.cell e0_1
      have x_0 := bb.1 0 (.int .i64 gx) rfl
      have x_1 := bb.1 1 (.slice Ax Lx cx) rfl
      clear hw bb
      have e1 : ((Lx : Int) == 64) = false := by simp; omega
      have e2 : decide ((Lx : Int) < 64) = false := decide_eq_false (by omega)
      clear hlx
      go_wp2_with fail
      go_quiet (fail)
      go_wp2_with fail
      go_quiet (fail)
      go_wp2_with fail
      go_ret
      exact ⟨rfl, (by repeat' (first | with_reducible exact Ext.refl _ | with_reducible assumption | with_reducible apply Ext.alloc_r | with_reducible apply Ext.drew_r | with_reducible apply Ext.drewN_r | with_reducible refine Ext.trans ?_ ‹Ext _ _›))⟩
    rcases words_cases z1 with h | h | h | h | h
    · exact absurd h qA
    · exact absurd h qB
    · exact absurd h qC
    · exact absurd h qD
    · exact absurd h qE
  · have hf' : (decide (L1 ≤ 20) && (decide (L1 ≤ 20) && decide (L1 ≤ 20))) = false := by simpa using hf
    have HF := Lib.hid hf'
    clear hf hf'
    go_enter Try.func8, Try.ntmps8
    go_wp2_with fail
    obtain ⟨w0, hw0⟩ : ∃ z : World, z = (w.alloc (.cells #[.bool s1, .slice A1 L1 c1] 25)) := ⟨_, rfl⟩
    rw [← hw0]
    have b0 := box_at w #[.bool s1, .slice A1 L1 c1] 25
    have hsz : w0.heap.size = w.heap.size + 1 := by rw [hw0]; simp
    rw [← hw0] at b0
    have y0 : Ext w w0 := by rw [hw0]; exact Ext.alloc _ _
    have x0 : Ext w w0 := y0
    have e0_0 := b0.1 0 (.bool s1) rfl
    have e0_1 := b0.1 1 (.slice A1 L1 c1) rfl
    clear hw0 b0 y0
    go_wp2_with fail
    refine (lawake_z _).mono ?_
    rintro e w1 ⟨rfl, x1⟩
    replace e0_0 := x1.cell e0_0
    replace e0_1 := x1.cell e0_1
    go_wp2_with fail
    refine (lfew_z (n := 20) (by omega) (by omega) (by omega)).mono ?_
    rintro e w2 ⟨rfl, x2⟩
    replace e0_0 := x2.cell e0_0
    replace e0_1 := x2.cell e0_1
    rw [HF.out]
    clear hsz
    go_wp2_with fail
    refine (lawake_z _).mono ?_
    rintro e w3 ⟨rfl, x3⟩
    replace e0_0 := x3.cell e0_0
    replace e0_1 := x3.cell e0_1
    go_wp2_with fail
    go_ret
    exact ⟨rfl, (by repeat' (first | with_reducible exact Ext.refl _ | with_reducible assumption | with_reducible apply Ext.alloc_r | with_reducible apply Ext.drew_r | with_reducible apply Ext.drewN_r | with_reducible refine Ext.trans ?_ ‹Ext _ _›))⟩
end Go.Proofs.Ytcccabgeoaidjaa
