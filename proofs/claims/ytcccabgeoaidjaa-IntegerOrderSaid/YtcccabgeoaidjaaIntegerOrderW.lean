/- The walk of IntegerOrder. -/
import Derived.Test.YtcccabgeoaidjaaLaw2f
import Derived.Test.YtcccabgeoaidjaaIntD
namespace Go.Proofs.Ytcccabgeoaidjaa
open Go.RowKit
set_option maxHeartbeats 40000000 in
set_option maxRecDepth 100000 in
theorem integerOrder_walk {w : World} {s1 : Bool} {A1 : Option Addr} {c1 L1 : Nat} {z1 : Int} {s2 : Bool} {A2 : Option Addr} {c2 L2 : Nat} {z2 : Int} {s3 : Bool} {A3 : Option Addr} {c3 L3 : Nat} {z3 : Int} (h1 : ZV w s1 A1 c1 L1 z1) (h2 : ZV w s2 A2 c2 L2 z2) (h3 : ZV w s3 A3 c3 L3 z3) :
    Calls Try.prog 5 #[.agg #[.bool s1, .slice A1 L1 c1], .agg #[.bool s2, .slice A2 L2 c2], .agg #[.bool s3, .slice A3 L3 c3]] w fun e w' => e = .returned (.bool true) ∧ Ext w w' := by
  have p1 := h1.nv.cap
  have q1 := h1.nv.le
  have p2 := h2.nv.cap
  have q2 := h2.nv.le
  have p3 := h3.nv.cap
  have q3 := h3.nv.le
  by_cases hf : (decide (L1 ≤ 8) && (decide (L2 ≤ 8) && decide (L3 ≤ 8))) = true
  · skip
    have k1 := hf
    simp only [Bool.and_eq_true, decide_eq_true_eq] at k1
    have HF := Lib.hid hf
    clear hf
    have d1 : dl z1.natAbs ≤ 8 := Nat.le_trans h1.nv.dl (by omega)
    have l1 : bl z1.natAbs ≤ 256 := Nat.le_trans h1.nv.bl (by omega)
    have d2 : dl z2.natAbs ≤ 8 := Nat.le_trans h2.nv.dl (by omega)
    have l2 : bl z2.natAbs ≤ 256 := Nat.le_trans h2.nv.bl (by omega)
    have d3 : dl z3.natAbs ≤ 8 := Nat.le_trans h3.nv.dl (by omega)
    have l3 : bl z3.natAbs ≤ 256 := Nat.le_trans h3.nv.bl (by omega)
    have bX := cmpZ_bd z1 z2
    have bS := sign_bd z3
    obtain ⟨X, hX⟩ : ∃ X : Int, X = cmpZ z1 z2 := ⟨_, rfl⟩
    obtain ⟨Y, hY⟩ : ∃ Y : Int, Y = cmpZ z2 z3 := ⟨_, rfl⟩
    obtain ⟨Z, hZ⟩ : ∃ Z : Int, Z = cmpZ z1 z3 := ⟨_, rfl⟩
    obtain ⟨S, hS⟩ : ∃ S : Int, S = z3.sign := ⟨_, rfl⟩
    obtain ⟨P, hP⟩ : ∃ P : Int, X * S = P := ⟨_, rfl⟩
    have hT : X ≤ 0 → Y ≤ 0 → Z ≤ 0 := fun a b => by rw [hZ]; exact cmpZ_tri (by rw [← hX]; exact a) (by rw [← hY]; exact b)
    rw [← hX] at bX
    rw [← hS] at bS
    have hPb : -1 ≤ X * S ∧ X * S ≤ 1 := by rw [hX, hS, ← cmpZ_mul]; exact cmpZ_bd _ _
    have hw1 : IntKind.i64.wrap (-X) = -X := IntWalk.i64_in _ (by omega)
    have hw2 : IntKind.i64.wrap (X * S) = P := by rw [← hP]; exact IntWalk.i64_in _ (by omega)
    have HX := Lib.hid hX
    have HY := Lib.hid hY
    have HZ := Lib.hid hZ
    have HS := Lib.hid hS
    have HP : Hid (X * z3.sign = P) := Lib.hid (by rw [← hS]; exact hP)
    clear hX hY hZ hS hP hPb
    rcases Int.lt_or_le 0 X with hx | hx
    · have hx' : decide (X ≤ 0) = false := decide_eq_false (by omega)
      clear hT
      go_enter Try.func5, Try.ntmps5
      go_wp2_with fail
      obtain ⟨w0, hw0⟩ : ∃ z : World, z = (((w.alloc (.cells #[.bool s1, .slice A1 L1 c1] 25)).alloc (.cells #[.bool s2, .slice A2 L2 c2] 25)).alloc (.cells #[.bool s3, .slice A3 L3 c3] 25)) := ⟨_, rfl⟩
      rw [← hw0]
      have b0 := box_at w #[.bool s1, .slice A1 L1 c1] 25
      have b1 := box_at (w.alloc (.cells #[.bool s1, .slice A1 L1 c1] 25)) #[.bool s2, .slice A2 L2 c2] 25
      have b2 := box_at ((w.alloc (.cells #[.bool s1, .slice A1 L1 c1] 25)).alloc (.cells #[.bool s2, .slice A2 L2 c2] 25)) #[.bool s3, .slice A3 L3 c3] 25
      have hsz : w0.heap.size = w.heap.size + 1 + 1 + 1 := by rw [hw0]; simp
      rw [← hw0] at b2
      have y2 : Ext ((w.alloc (.cells #[.bool s1, .slice A1 L1 c1] 25)).alloc (.cells #[.bool s2, .slice A2 L2 c2] 25)) w0 := by rw [hw0]; exact Ext.alloc _ _
      have y1 : Ext (w.alloc (.cells #[.bool s1, .slice A1 L1 c1] 25)) w0 := (Ext.alloc _ _).trans y2
      have y0 : Ext w w0 := (Ext.alloc _ _).trans y1
      have x0 : Ext w w0 := y0
      have e0_0 := y1.cell (b0.1 0 (.bool s1) rfl)
      have e0_1 := y1.cell (b0.1 1 (.slice A1 L1 c1) rfl)
      have e1_0 := y2.cell (b1.1 0 (.bool s2) rfl)
      have e1_1 := y2.cell (b1.1 1 (.slice A2 L2 c2) rfl)
      have e2_0 := b2.1 0 (.bool s3) rfl
      have e2_1 := b2.1 1 (.slice A3 L3 c3) rfl
      simp only [World.size_alloc] at e1_0 e1_1 e2_0 e2_1
      clear hw0 b0 b1 b2 y0 y1 y2
      go_wp2_with fail
      refine (lawake_z _).mono ?_
      rintro e w1 ⟨rfl, x1⟩
      replace e0_0 := x1.cell e0_0
      replace e0_1 := x1.cell e0_1
      replace e1_0 := x1.cell e1_0
      replace e1_1 := x1.cell e1_1
      replace e2_0 := x1.cell e2_0
      replace e2_1 := x1.cell e2_1
      go_wp2_with fail
      refine (lfew_z (n := 8) (by omega) (by omega) (by omega)).mono ?_
      rintro e w2 ⟨rfl, x2⟩
      replace e0_0 := x2.cell e0_0
      replace e0_1 := x2.cell e0_1
      replace e1_0 := x2.cell e1_0
      replace e1_1 := x2.cell e1_1
      replace e2_0 := x2.cell e2_0
      replace e2_1 := x2.cell e2_1
      rw [HF.out]
      clear hsz
      go_wp2_with fail
      have HK : Hid (∀ w', Ext w2 w' → Ext w2 w' ∧ w'.cell? ⟨w.heap.size, 0, none⟩ = some (.bool s1) ∧ w'.cell? ⟨w.heap.size, 1, none⟩ = some (.slice A1 L1 c1) ∧ w'.cell? ⟨w.heap.size + 1, 0, none⟩ = some (.bool s2) ∧ w'.cell? ⟨w.heap.size + 1, 1, none⟩ = some (.slice A2 L2 c2) ∧ w'.cell? ⟨w.heap.size + 1 + 1, 0, none⟩ = some (.bool s3) ∧ w'.cell? ⟨w.heap.size + 1 + 1, 1, none⟩ = some (.slice A3 L3 c3)) := fun w' hk => ⟨hk, hk.cell e0_0, hk.cell e0_1, hk.cell e1_0, hk.cell e1_1, hk.cell e2_0, hk.cell e2_1⟩
      first
      | go_region_held3 (fun w' => Ext w2 w' ∧ w'.cell? ⟨w.heap.size, 0, none⟩ = some (.bool s1) ∧ w'.cell? ⟨w.heap.size, 1, none⟩ = some (.slice A1 L1 c1) ∧ w'.cell? ⟨w.heap.size + 1, 0, none⟩ = some (.bool s2) ∧ w'.cell? ⟨w.heap.size + 1, 1, none⟩ = some (.slice A2 L2 c2) ∧ w'.cell? ⟨w.heap.size + 1 + 1, 0, none⟩ = some (.bool s3) ∧ w'.cell? ⟨w.heap.size + 1 + 1, 1, none⟩ = some (.slice A3 L3 c3))
          ((refine HK.out _ ?_; (repeat' (first | with_reducible exact Ext.refl _ | with_reducible assumption | with_reducible apply Ext.alloc_r | with_reducible apply Ext.drew_r | with_reducible apply Ext.drewN_r | with_reducible refine Ext.trans ?_ ‹Ext _ _›))))
          (first
            | (go_at_call_of 24 (#[Value.agg #[Value.bool s1, Value.slice A1 L1 c1], Value.agg #[Value.bool s3, Value.slice A3 L3 c3]]); refine (cmp_is (k := _) (h1.ext (by repeat' (first | with_reducible exact Ext.refl _ | with_reducible assumption | with_reducible apply Ext.alloc_r | with_reducible apply Ext.drew_r | with_reducible apply Ext.drewN_r | with_reducible refine Ext.trans ?_ ‹Ext _ _›))) (h3.ext (by repeat' (first | with_reducible exact Ext.refl _ | with_reducible assumption | with_reducible apply Ext.alloc_r | with_reducible apply Ext.drew_r | with_reducible apply Ext.drewN_r | with_reducible refine Ext.trans ?_ ‹Ext _ _›))) (HZ.out.symm)).mono ?_; rintro e w5 ⟨rfl, x5⟩)
            | (go_at_call_of 24 (#[Value.agg #[Value.bool s2, Value.slice A2 L2 c2], Value.agg #[Value.bool s3, Value.slice A3 L3 c3]]); refine (cmp_is (k := _) (h2.ext (by repeat' (first | with_reducible exact Ext.refl _ | with_reducible assumption | with_reducible apply Ext.alloc_r | with_reducible apply Ext.drew_r | with_reducible apply Ext.drewN_r | with_reducible refine Ext.trans ?_ ‹Ext _ _›))) (h3.ext (by repeat' (first | with_reducible exact Ext.refl _ | with_reducible assumption | with_reducible apply Ext.alloc_r | with_reducible apply Ext.drew_r | with_reducible apply Ext.drewN_r | with_reducible refine Ext.trans ?_ ‹Ext _ _›))) (HY.out.symm)).mono ?_; rintro e w4 ⟨rfl, x4⟩)
            | (go_at_call_of 24 (#[Value.agg #[Value.bool s1, Value.slice A1 L1 c1], Value.agg #[Value.bool s2, Value.slice A2 L2 c2]]); refine (cmp_is (k := _) (h1.ext (by repeat' (first | with_reducible exact Ext.refl _ | with_reducible assumption | with_reducible apply Ext.alloc_r | with_reducible apply Ext.drew_r | with_reducible apply Ext.drewN_r | with_reducible refine Ext.trans ?_ ‹Ext _ _›))) (h2.ext (by repeat' (first | with_reducible exact Ext.refl _ | with_reducible assumption | with_reducible apply Ext.alloc_r | with_reducible apply Ext.drew_r | with_reducible apply Ext.drewN_r | with_reducible refine Ext.trans ?_ ‹Ext _ _›))) (HX.out.symm)).mono ?_; rintro e w3 ⟨rfl, x3⟩))
      | fail
      clear HK
      have xh : Ext w2 w5 := (by repeat' (first | with_reducible exact Ext.refl _ | with_reducible assumption | with_reducible apply Ext.alloc_r | with_reducible apply Ext.drew_r | with_reducible apply Ext.drewN_r | with_reducible refine Ext.trans ?_ ‹Ext _ _›))
      replace e0_0 := xh.cell e0_0
      replace e0_1 := xh.cell e0_1
      replace e1_0 := xh.cell e1_0
      replace e1_1 := xh.cell e1_1
      replace e2_0 := xh.cell e2_0
      replace e2_1 := xh.cell e2_1
      clear xh
      go_wp2_with fail
      have HK : Hid (∀ w', Ext w5 w' → Ext w5 w' ∧ w'.cell? ⟨w.heap.size, 0, none⟩ = some (.bool s1) ∧ w'.cell? ⟨w.heap.size, 1, none⟩ = some (.slice A1 L1 c1) ∧ w'.cell? ⟨w.heap.size + 1, 0, none⟩ = some (.bool s2) ∧ w'.cell? ⟨w.heap.size + 1, 1, none⟩ = some (.slice A2 L2 c2) ∧ w'.cell? ⟨w.heap.size + 1 + 1, 0, none⟩ = some (.bool s3) ∧ w'.cell? ⟨w.heap.size + 1 + 1, 1, none⟩ = some (.slice A3 L3 c3)) := fun w' hk => ⟨hk, hk.cell e0_0, hk.cell e0_1, hk.cell e1_0, hk.cell e1_1, hk.cell e2_0, hk.cell e2_1⟩
      first
      | go_region_held_law (fun w' => Ext w5 w' ∧ w'.cell? ⟨w.heap.size, 0, none⟩ = some (.bool s1) ∧ w'.cell? ⟨w.heap.size, 1, none⟩ = some (.slice A1 L1 c1) ∧ w'.cell? ⟨w.heap.size + 1, 0, none⟩ = some (.bool s2) ∧ w'.cell? ⟨w.heap.size + 1, 1, none⟩ = some (.slice A2 L2 c2) ∧ w'.cell? ⟨w.heap.size + 1 + 1, 0, none⟩ = some (.bool s3) ∧ w'.cell? ⟨w.heap.size + 1 + 1, 1, none⟩ = some (.slice A3 L3 c3))
          ((refine HK.out _ ?_; (repeat' (first | with_reducible exact Ext.refl _ | with_reducible assumption | with_reducible apply Ext.alloc_r | with_reducible apply Ext.drew_r | with_reducible apply Ext.drewN_r | with_reducible refine Ext.trans ?_ ‹Ext _ _›))))
          (first
            | (go_at_call_of 24 (#[Value.agg #[Value.bool spa, Value.slice Apa Lpa cpa], Value.agg #[Value.bool spb, Value.slice Apb Lpb cpb]]); have hgd := pb; clear hgd; refine (cmp_is (k := X) (pa.zv.ext (by repeat' (first | with_reducible exact Ext.refl _ | with_reducible assumption | with_reducible apply Ext.alloc_r | with_reducible apply Ext.drew_r | with_reducible apply Ext.drewN_r | with_reducible refine Ext.trans ?_ ‹Ext _ _›))) (pb.zv.ext (by repeat' (first | with_reducible exact Ext.refl _ | with_reducible assumption | with_reducible apply Ext.alloc_r | with_reducible apply Ext.drew_r | with_reducible apply Ext.drewN_r | with_reducible refine Ext.trans ?_ ‹Ext _ _›))) (by rw [cmpZ_add, ← HX.out])).mono ?_; rintro e w9 ⟨rfl, x9⟩)
            | (go_at_call_of 25 (#[Value.agg #[Value.bool s2, Value.slice A2 L2 c2], Value.agg #[Value.bool s3, Value.slice A3 L3 c3]]); have hgd := pa; clear hgd; refine (add_z (h2.ext (by repeat' (first | with_reducible exact Ext.refl _ | with_reducible assumption | with_reducible apply Ext.alloc_r | with_reducible apply Ext.drew_r | with_reducible apply Ext.drewN_r | with_reducible refine Ext.trans ?_ ‹Ext _ _›))) (h3.ext (by repeat' (first | with_reducible exact Ext.refl _ | with_reducible assumption | with_reducible apply Ext.alloc_r | with_reducible apply Ext.drew_r | with_reducible apply Ext.drewN_r | with_reducible refine Ext.trans ?_ ‹Ext _ _›))) (by omega) (by omega)).mono ?_; rintro e w8 ⟨spb, Apb, cpb, Lpb, rfl, pb, x8⟩)
            | (go_at_call_of 25 (#[Value.agg #[Value.bool s1, Value.slice A1 L1 c1], Value.agg #[Value.bool s3, Value.slice A3 L3 c3]]); refine (add_z (h1.ext (by repeat' (first | with_reducible exact Ext.refl _ | with_reducible assumption | with_reducible apply Ext.alloc_r | with_reducible apply Ext.drew_r | with_reducible apply Ext.drewN_r | with_reducible refine Ext.trans ?_ ‹Ext _ _›))) (h3.ext (by repeat' (first | with_reducible exact Ext.refl _ | with_reducible assumption | with_reducible apply Ext.alloc_r | with_reducible apply Ext.drew_r | with_reducible apply Ext.drewN_r | with_reducible refine Ext.trans ?_ ‹Ext _ _›))) (by omega) (by omega)).mono ?_; rintro e w7 ⟨spa, Apa, cpa, Lpa, rfl, pa, x7⟩)
            | (go_at_call_of 24 (#[Value.agg #[Value.bool s2, Value.slice A2 L2 c2], Value.agg #[Value.bool s1, Value.slice A1 L1 c1]]); refine (cmp_is (k := -X) (h2.ext (by repeat' (first | with_reducible exact Ext.refl _ | with_reducible assumption | with_reducible apply Ext.alloc_r | with_reducible apply Ext.drew_r | with_reducible apply Ext.drewN_r | with_reducible refine Ext.trans ?_ ‹Ext _ _›))) (h1.ext (by repeat' (first | with_reducible exact Ext.refl _ | with_reducible assumption | with_reducible apply Ext.alloc_r | with_reducible apply Ext.drew_r | with_reducible apply Ext.drewN_r | with_reducible refine Ext.trans ?_ ‹Ext _ _›))) (by rw [cmpZ_swap, ← HX.out])).mono ?_; rintro e w6 ⟨rfl, x6⟩))
      | fail
      clear HK
      have xh : Ext w5 w9 := (by repeat' (first | with_reducible exact Ext.refl _ | with_reducible assumption | with_reducible apply Ext.alloc_r | with_reducible apply Ext.drew_r | with_reducible apply Ext.drewN_r | with_reducible refine Ext.trans ?_ ‹Ext _ _›))
      replace e0_0 := xh.cell e0_0
      replace e0_1 := xh.cell e0_1
      replace e1_0 := xh.cell e1_0
      replace e1_1 := xh.cell e1_1
      replace e2_0 := xh.cell e2_0
      replace e2_1 := xh.cell e2_1
      clear xh
      go_wp2_with fail
      have HK : Hid (∀ w', Ext w9 w' → Ext w9 w' ∧ w'.cell? ⟨w.heap.size, 0, none⟩ = some (.bool s1) ∧ w'.cell? ⟨w.heap.size, 1, none⟩ = some (.slice A1 L1 c1) ∧ w'.cell? ⟨w.heap.size + 1, 0, none⟩ = some (.bool s2) ∧ w'.cell? ⟨w.heap.size + 1, 1, none⟩ = some (.slice A2 L2 c2) ∧ w'.cell? ⟨w.heap.size + 1 + 1, 0, none⟩ = some (.bool s3) ∧ w'.cell? ⟨w.heap.size + 1 + 1, 1, none⟩ = some (.slice A3 L3 c3)) := fun w' hk => ⟨hk, hk.cell e0_0, hk.cell e0_1, hk.cell e1_0, hk.cell e1_1, hk.cell e2_0, hk.cell e2_1⟩
      first
      | go_region_held3 (fun w' => Ext w9 w' ∧ w'.cell? ⟨w.heap.size, 0, none⟩ = some (.bool s1) ∧ w'.cell? ⟨w.heap.size, 1, none⟩ = some (.slice A1 L1 c1) ∧ w'.cell? ⟨w.heap.size + 1, 0, none⟩ = some (.bool s2) ∧ w'.cell? ⟨w.heap.size + 1, 1, none⟩ = some (.slice A2 L2 c2) ∧ w'.cell? ⟨w.heap.size + 1 + 1, 0, none⟩ = some (.bool s3) ∧ w'.cell? ⟨w.heap.size + 1 + 1, 1, none⟩ = some (.slice A3 L3 c3))
          ((refine HK.out _ ?_; (repeat' (first | with_reducible exact Ext.refl _ | with_reducible assumption | with_reducible apply Ext.alloc_r | with_reducible apply Ext.drew_r | with_reducible apply Ext.drewN_r | with_reducible refine Ext.trans ?_ ‹Ext _ _›))))
          (first
            | (go_at_call_of 26 (#[Value.agg #[Value.bool ssb, Value.slice Asb Lsb csb]]); have hgd := sb; clear hgd; refine (sign_is (k := X) (sb.zv.ext (by repeat' (first | with_reducible exact Ext.refl _ | with_reducible assumption | with_reducible apply Ext.alloc_r | with_reducible apply Ext.drew_r | with_reducible apply Ext.drewN_r | with_reducible refine Ext.trans ?_ ‹Ext _ _›))) (by rw [cmpZ_sub, ← HX.out])).mono ?_; rintro e w15 ⟨rfl, x15⟩)
            | (go_at_call_of 27 (#[Value.agg #[Value.bool s1, Value.slice A1 L1 c1], Value.agg #[Value.bool s2, Value.slice A2 L2 c2]]); have hgd := mb; clear hgd; refine (sub_z (h1.ext (by repeat' (first | with_reducible exact Ext.refl _ | with_reducible assumption | with_reducible apply Ext.alloc_r | with_reducible apply Ext.drew_r | with_reducible apply Ext.drewN_r | with_reducible refine Ext.trans ?_ ‹Ext _ _›))) (h2.ext (by repeat' (first | with_reducible exact Ext.refl _ | with_reducible assumption | with_reducible apply Ext.alloc_r | with_reducible apply Ext.drew_r | with_reducible apply Ext.drewN_r | with_reducible refine Ext.trans ?_ ‹Ext _ _›))) (by omega) (by omega)).mono ?_; rintro e w14 ⟨ssb, Asb, csb, Lsb, rfl, sb, x14⟩)
            | (go_at_call_of 26 (#[Value.agg #[Value.bool s3, Value.slice A3 L3 c3]]); have hgd := mb; clear hgd; refine (sign_is (h3.ext (by repeat' (first | with_reducible exact Ext.refl _ | with_reducible assumption | with_reducible apply Ext.alloc_r | with_reducible apply Ext.drew_r | with_reducible apply Ext.drewN_r | with_reducible refine Ext.trans ?_ ‹Ext _ _›))) HS.out.symm).mono ?_; rintro e w13 ⟨rfl, x13⟩)
            | (go_at_call_of 24 (#[Value.agg #[Value.bool sma, Value.slice Ama Lma cma], Value.agg #[Value.bool smb, Value.slice Amb Lmb cmb]]); have hgd := mb; clear hgd; refine (cmp_is (k := P) (ma.zv.ext (by repeat' (first | with_reducible exact Ext.refl _ | with_reducible assumption | with_reducible apply Ext.alloc_r | with_reducible apply Ext.drew_r | with_reducible apply Ext.drewN_r | with_reducible refine Ext.trans ?_ ‹Ext _ _›))) (mb.zv.ext (by repeat' (first | with_reducible exact Ext.refl _ | with_reducible assumption | with_reducible apply Ext.alloc_r | with_reducible apply Ext.drew_r | with_reducible apply Ext.drewN_r | with_reducible refine Ext.trans ?_ ‹Ext _ _›))) (by rw [cmpZ_mul, ← HX.out]; exact HP.out)).mono ?_; rintro e w12 ⟨rfl, x12⟩)
            | (go_at_call_of 17 (#[Value.agg #[Value.bool s2, Value.slice A2 L2 c2], Value.agg #[Value.bool s3, Value.slice A3 L3 c3]]); have hgd := ma; clear hgd; refine (mul_z (h2.ext (by repeat' (first | with_reducible exact Ext.refl _ | with_reducible assumption | with_reducible apply Ext.alloc_r | with_reducible apply Ext.drew_r | with_reducible apply Ext.drewN_r | with_reducible refine Ext.trans ?_ ‹Ext _ _›))) (h3.ext (by repeat' (first | with_reducible exact Ext.refl _ | with_reducible assumption | with_reducible apply Ext.alloc_r | with_reducible apply Ext.drew_r | with_reducible apply Ext.drewN_r | with_reducible refine Ext.trans ?_ ‹Ext _ _›))) (by omega) (by omega)).mono ?_; rintro e w11 ⟨smb, Amb, cmb, Lmb, rfl, mb, x11⟩)
            | (go_at_call_of 17 (#[Value.agg #[Value.bool s1, Value.slice A1 L1 c1], Value.agg #[Value.bool s3, Value.slice A3 L3 c3]]); refine (mul_z (h1.ext (by repeat' (first | with_reducible exact Ext.refl _ | with_reducible assumption | with_reducible apply Ext.alloc_r | with_reducible apply Ext.drew_r | with_reducible apply Ext.drewN_r | with_reducible refine Ext.trans ?_ ‹Ext _ _›))) (h3.ext (by repeat' (first | with_reducible exact Ext.refl _ | with_reducible assumption | with_reducible apply Ext.alloc_r | with_reducible apply Ext.drew_r | with_reducible apply Ext.drewN_r | with_reducible refine Ext.trans ?_ ‹Ext _ _›))) (by omega) (by omega)).mono ?_; rintro e w10 ⟨sma, Ama, cma, Lma, rfl, ma, x10⟩))
      | fail
      clear HK
      have xh : Ext w9 w15 := (by repeat' (first | with_reducible exact Ext.refl _ | with_reducible assumption | with_reducible apply Ext.alloc_r | with_reducible apply Ext.drew_r | with_reducible apply Ext.drewN_r | with_reducible refine Ext.trans ?_ ‹Ext _ _›))
      replace e0_0 := xh.cell e0_0
      replace e0_1 := xh.cell e0_1
      replace e1_0 := xh.cell e1_0
      replace e1_1 := xh.cell e1_1
      replace e2_0 := xh.cell e2_0
      replace e2_1 := xh.cell e2_1
      clear xh
      go_wp2_with fail
      go_ret
      exact ⟨rfl, (by repeat' (first | with_reducible exact Ext.refl _ | with_reducible assumption | with_reducible apply Ext.alloc_r | with_reducible apply Ext.drew_r | with_reducible apply Ext.drewN_r | with_reducible refine Ext.trans ?_ ‹Ext _ _›))⟩
    · rcases Int.lt_or_le 0 Y with hy | hy
      · have hy' : decide (Y ≤ 0) = false := decide_eq_false (by omega)
        have hx' : decide (X ≤ 0) = true := decide_eq_true hx
        clear hT
        go_enter Try.func5, Try.ntmps5
        go_wp2_with fail
        obtain ⟨w0, hw0⟩ : ∃ z : World, z = (((w.alloc (.cells #[.bool s1, .slice A1 L1 c1] 25)).alloc (.cells #[.bool s2, .slice A2 L2 c2] 25)).alloc (.cells #[.bool s3, .slice A3 L3 c3] 25)) := ⟨_, rfl⟩
        rw [← hw0]
        have b0 := box_at w #[.bool s1, .slice A1 L1 c1] 25
        have b1 := box_at (w.alloc (.cells #[.bool s1, .slice A1 L1 c1] 25)) #[.bool s2, .slice A2 L2 c2] 25
        have b2 := box_at ((w.alloc (.cells #[.bool s1, .slice A1 L1 c1] 25)).alloc (.cells #[.bool s2, .slice A2 L2 c2] 25)) #[.bool s3, .slice A3 L3 c3] 25
        have hsz : w0.heap.size = w.heap.size + 1 + 1 + 1 := by rw [hw0]; simp
        rw [← hw0] at b2
        have y2 : Ext ((w.alloc (.cells #[.bool s1, .slice A1 L1 c1] 25)).alloc (.cells #[.bool s2, .slice A2 L2 c2] 25)) w0 := by rw [hw0]; exact Ext.alloc _ _
        have y1 : Ext (w.alloc (.cells #[.bool s1, .slice A1 L1 c1] 25)) w0 := (Ext.alloc _ _).trans y2
        have y0 : Ext w w0 := (Ext.alloc _ _).trans y1
        have x0 : Ext w w0 := y0
        have e0_0 := y1.cell (b0.1 0 (.bool s1) rfl)
        have e0_1 := y1.cell (b0.1 1 (.slice A1 L1 c1) rfl)
        have e1_0 := y2.cell (b1.1 0 (.bool s2) rfl)
        have e1_1 := y2.cell (b1.1 1 (.slice A2 L2 c2) rfl)
        have e2_0 := b2.1 0 (.bool s3) rfl
        have e2_1 := b2.1 1 (.slice A3 L3 c3) rfl
        simp only [World.size_alloc] at e1_0 e1_1 e2_0 e2_1
        clear hw0 b0 b1 b2 y0 y1 y2
        go_wp2_with fail
        refine (lawake_z _).mono ?_
        rintro e w1 ⟨rfl, x1⟩
        replace e0_0 := x1.cell e0_0
        replace e0_1 := x1.cell e0_1
        replace e1_0 := x1.cell e1_0
        replace e1_1 := x1.cell e1_1
        replace e2_0 := x1.cell e2_0
        replace e2_1 := x1.cell e2_1
        go_wp2_with fail
        refine (lfew_z (n := 8) (by omega) (by omega) (by omega)).mono ?_
        rintro e w2 ⟨rfl, x2⟩
        replace e0_0 := x2.cell e0_0
        replace e0_1 := x2.cell e0_1
        replace e1_0 := x2.cell e1_0
        replace e1_1 := x2.cell e1_1
        replace e2_0 := x2.cell e2_0
        replace e2_1 := x2.cell e2_1
        rw [HF.out]
        clear hsz
        go_wp2_with fail
        have HK : Hid (∀ w', Ext w2 w' → Ext w2 w' ∧ w'.cell? ⟨w.heap.size, 0, none⟩ = some (.bool s1) ∧ w'.cell? ⟨w.heap.size, 1, none⟩ = some (.slice A1 L1 c1) ∧ w'.cell? ⟨w.heap.size + 1, 0, none⟩ = some (.bool s2) ∧ w'.cell? ⟨w.heap.size + 1, 1, none⟩ = some (.slice A2 L2 c2) ∧ w'.cell? ⟨w.heap.size + 1 + 1, 0, none⟩ = some (.bool s3) ∧ w'.cell? ⟨w.heap.size + 1 + 1, 1, none⟩ = some (.slice A3 L3 c3)) := fun w' hk => ⟨hk, hk.cell e0_0, hk.cell e0_1, hk.cell e1_0, hk.cell e1_1, hk.cell e2_0, hk.cell e2_1⟩
        first
        | go_region_held3 (fun w' => Ext w2 w' ∧ w'.cell? ⟨w.heap.size, 0, none⟩ = some (.bool s1) ∧ w'.cell? ⟨w.heap.size, 1, none⟩ = some (.slice A1 L1 c1) ∧ w'.cell? ⟨w.heap.size + 1, 0, none⟩ = some (.bool s2) ∧ w'.cell? ⟨w.heap.size + 1, 1, none⟩ = some (.slice A2 L2 c2) ∧ w'.cell? ⟨w.heap.size + 1 + 1, 0, none⟩ = some (.bool s3) ∧ w'.cell? ⟨w.heap.size + 1 + 1, 1, none⟩ = some (.slice A3 L3 c3))
            ((refine HK.out _ ?_; (repeat' (first | with_reducible exact Ext.refl _ | with_reducible assumption | with_reducible apply Ext.alloc_r | with_reducible apply Ext.drew_r | with_reducible apply Ext.drewN_r | with_reducible refine Ext.trans ?_ ‹Ext _ _›))))
            (first
              | (go_at_call_of 24 (#[Value.agg #[Value.bool s1, Value.slice A1 L1 c1], Value.agg #[Value.bool s3, Value.slice A3 L3 c3]]); refine (cmp_is (k := _) (h1.ext (by repeat' (first | with_reducible exact Ext.refl _ | with_reducible assumption | with_reducible apply Ext.alloc_r | with_reducible apply Ext.drew_r | with_reducible apply Ext.drewN_r | with_reducible refine Ext.trans ?_ ‹Ext _ _›))) (h3.ext (by repeat' (first | with_reducible exact Ext.refl _ | with_reducible assumption | with_reducible apply Ext.alloc_r | with_reducible apply Ext.drew_r | with_reducible apply Ext.drewN_r | with_reducible refine Ext.trans ?_ ‹Ext _ _›))) (HZ.out.symm)).mono ?_; rintro e w5 ⟨rfl, x5⟩)
              | (go_at_call_of 24 (#[Value.agg #[Value.bool s2, Value.slice A2 L2 c2], Value.agg #[Value.bool s3, Value.slice A3 L3 c3]]); refine (cmp_is (k := _) (h2.ext (by repeat' (first | with_reducible exact Ext.refl _ | with_reducible assumption | with_reducible apply Ext.alloc_r | with_reducible apply Ext.drew_r | with_reducible apply Ext.drewN_r | with_reducible refine Ext.trans ?_ ‹Ext _ _›))) (h3.ext (by repeat' (first | with_reducible exact Ext.refl _ | with_reducible assumption | with_reducible apply Ext.alloc_r | with_reducible apply Ext.drew_r | with_reducible apply Ext.drewN_r | with_reducible refine Ext.trans ?_ ‹Ext _ _›))) (HY.out.symm)).mono ?_; rintro e w4 ⟨rfl, x4⟩)
              | (go_at_call_of 24 (#[Value.agg #[Value.bool s1, Value.slice A1 L1 c1], Value.agg #[Value.bool s2, Value.slice A2 L2 c2]]); refine (cmp_is (k := _) (h1.ext (by repeat' (first | with_reducible exact Ext.refl _ | with_reducible assumption | with_reducible apply Ext.alloc_r | with_reducible apply Ext.drew_r | with_reducible apply Ext.drewN_r | with_reducible refine Ext.trans ?_ ‹Ext _ _›))) (h2.ext (by repeat' (first | with_reducible exact Ext.refl _ | with_reducible assumption | with_reducible apply Ext.alloc_r | with_reducible apply Ext.drew_r | with_reducible apply Ext.drewN_r | with_reducible refine Ext.trans ?_ ‹Ext _ _›))) (HX.out.symm)).mono ?_; rintro e w3 ⟨rfl, x3⟩))
        | fail
        clear HK
        have xh : Ext w2 w5 := (by repeat' (first | with_reducible exact Ext.refl _ | with_reducible assumption | with_reducible apply Ext.alloc_r | with_reducible apply Ext.drew_r | with_reducible apply Ext.drewN_r | with_reducible refine Ext.trans ?_ ‹Ext _ _›))
        replace e0_0 := xh.cell e0_0
        replace e0_1 := xh.cell e0_1
        replace e1_0 := xh.cell e1_0
        replace e1_1 := xh.cell e1_1
        replace e2_0 := xh.cell e2_0
        replace e2_1 := xh.cell e2_1
        clear xh
        go_wp2_with fail
        have HK : Hid (∀ w', Ext w5 w' → Ext w5 w' ∧ w'.cell? ⟨w.heap.size, 0, none⟩ = some (.bool s1) ∧ w'.cell? ⟨w.heap.size, 1, none⟩ = some (.slice A1 L1 c1) ∧ w'.cell? ⟨w.heap.size + 1, 0, none⟩ = some (.bool s2) ∧ w'.cell? ⟨w.heap.size + 1, 1, none⟩ = some (.slice A2 L2 c2) ∧ w'.cell? ⟨w.heap.size + 1 + 1, 0, none⟩ = some (.bool s3) ∧ w'.cell? ⟨w.heap.size + 1 + 1, 1, none⟩ = some (.slice A3 L3 c3)) := fun w' hk => ⟨hk, hk.cell e0_0, hk.cell e0_1, hk.cell e1_0, hk.cell e1_1, hk.cell e2_0, hk.cell e2_1⟩
        first
        | go_region_held_law (fun w' => Ext w5 w' ∧ w'.cell? ⟨w.heap.size, 0, none⟩ = some (.bool s1) ∧ w'.cell? ⟨w.heap.size, 1, none⟩ = some (.slice A1 L1 c1) ∧ w'.cell? ⟨w.heap.size + 1, 0, none⟩ = some (.bool s2) ∧ w'.cell? ⟨w.heap.size + 1, 1, none⟩ = some (.slice A2 L2 c2) ∧ w'.cell? ⟨w.heap.size + 1 + 1, 0, none⟩ = some (.bool s3) ∧ w'.cell? ⟨w.heap.size + 1 + 1, 1, none⟩ = some (.slice A3 L3 c3))
            ((refine HK.out _ ?_; (repeat' (first | with_reducible exact Ext.refl _ | with_reducible assumption | with_reducible apply Ext.alloc_r | with_reducible apply Ext.drew_r | with_reducible apply Ext.drewN_r | with_reducible refine Ext.trans ?_ ‹Ext _ _›))))
            (first
              | (go_at_call_of 24 (#[Value.agg #[Value.bool spa, Value.slice Apa Lpa cpa], Value.agg #[Value.bool spb, Value.slice Apb Lpb cpb]]); have hgd := pb; clear hgd; refine (cmp_is (k := X) (pa.zv.ext (by repeat' (first | with_reducible exact Ext.refl _ | with_reducible assumption | with_reducible apply Ext.alloc_r | with_reducible apply Ext.drew_r | with_reducible apply Ext.drewN_r | with_reducible refine Ext.trans ?_ ‹Ext _ _›))) (pb.zv.ext (by repeat' (first | with_reducible exact Ext.refl _ | with_reducible assumption | with_reducible apply Ext.alloc_r | with_reducible apply Ext.drew_r | with_reducible apply Ext.drewN_r | with_reducible refine Ext.trans ?_ ‹Ext _ _›))) (by rw [cmpZ_add, ← HX.out])).mono ?_; rintro e w9 ⟨rfl, x9⟩)
              | (go_at_call_of 25 (#[Value.agg #[Value.bool s2, Value.slice A2 L2 c2], Value.agg #[Value.bool s3, Value.slice A3 L3 c3]]); have hgd := pa; clear hgd; refine (add_z (h2.ext (by repeat' (first | with_reducible exact Ext.refl _ | with_reducible assumption | with_reducible apply Ext.alloc_r | with_reducible apply Ext.drew_r | with_reducible apply Ext.drewN_r | with_reducible refine Ext.trans ?_ ‹Ext _ _›))) (h3.ext (by repeat' (first | with_reducible exact Ext.refl _ | with_reducible assumption | with_reducible apply Ext.alloc_r | with_reducible apply Ext.drew_r | with_reducible apply Ext.drewN_r | with_reducible refine Ext.trans ?_ ‹Ext _ _›))) (by omega) (by omega)).mono ?_; rintro e w8 ⟨spb, Apb, cpb, Lpb, rfl, pb, x8⟩)
              | (go_at_call_of 25 (#[Value.agg #[Value.bool s1, Value.slice A1 L1 c1], Value.agg #[Value.bool s3, Value.slice A3 L3 c3]]); refine (add_z (h1.ext (by repeat' (first | with_reducible exact Ext.refl _ | with_reducible assumption | with_reducible apply Ext.alloc_r | with_reducible apply Ext.drew_r | with_reducible apply Ext.drewN_r | with_reducible refine Ext.trans ?_ ‹Ext _ _›))) (h3.ext (by repeat' (first | with_reducible exact Ext.refl _ | with_reducible assumption | with_reducible apply Ext.alloc_r | with_reducible apply Ext.drew_r | with_reducible apply Ext.drewN_r | with_reducible refine Ext.trans ?_ ‹Ext _ _›))) (by omega) (by omega)).mono ?_; rintro e w7 ⟨spa, Apa, cpa, Lpa, rfl, pa, x7⟩)
              | (go_at_call_of 24 (#[Value.agg #[Value.bool s2, Value.slice A2 L2 c2], Value.agg #[Value.bool s1, Value.slice A1 L1 c1]]); refine (cmp_is (k := -X) (h2.ext (by repeat' (first | with_reducible exact Ext.refl _ | with_reducible assumption | with_reducible apply Ext.alloc_r | with_reducible apply Ext.drew_r | with_reducible apply Ext.drewN_r | with_reducible refine Ext.trans ?_ ‹Ext _ _›))) (h1.ext (by repeat' (first | with_reducible exact Ext.refl _ | with_reducible assumption | with_reducible apply Ext.alloc_r | with_reducible apply Ext.drew_r | with_reducible apply Ext.drewN_r | with_reducible refine Ext.trans ?_ ‹Ext _ _›))) (by rw [cmpZ_swap, ← HX.out])).mono ?_; rintro e w6 ⟨rfl, x6⟩))
        | fail
        clear HK
        have xh : Ext w5 w9 := (by repeat' (first | with_reducible exact Ext.refl _ | with_reducible assumption | with_reducible apply Ext.alloc_r | with_reducible apply Ext.drew_r | with_reducible apply Ext.drewN_r | with_reducible refine Ext.trans ?_ ‹Ext _ _›))
        replace e0_0 := xh.cell e0_0
        replace e0_1 := xh.cell e0_1
        replace e1_0 := xh.cell e1_0
        replace e1_1 := xh.cell e1_1
        replace e2_0 := xh.cell e2_0
        replace e2_1 := xh.cell e2_1
        clear xh
        go_wp2_with fail
        have HK : Hid (∀ w', Ext w9 w' → Ext w9 w' ∧ w'.cell? ⟨w.heap.size, 0, none⟩ = some (.bool s1) ∧ w'.cell? ⟨w.heap.size, 1, none⟩ = some (.slice A1 L1 c1) ∧ w'.cell? ⟨w.heap.size + 1, 0, none⟩ = some (.bool s2) ∧ w'.cell? ⟨w.heap.size + 1, 1, none⟩ = some (.slice A2 L2 c2) ∧ w'.cell? ⟨w.heap.size + 1 + 1, 0, none⟩ = some (.bool s3) ∧ w'.cell? ⟨w.heap.size + 1 + 1, 1, none⟩ = some (.slice A3 L3 c3)) := fun w' hk => ⟨hk, hk.cell e0_0, hk.cell e0_1, hk.cell e1_0, hk.cell e1_1, hk.cell e2_0, hk.cell e2_1⟩
        first
        | go_region_held3 (fun w' => Ext w9 w' ∧ w'.cell? ⟨w.heap.size, 0, none⟩ = some (.bool s1) ∧ w'.cell? ⟨w.heap.size, 1, none⟩ = some (.slice A1 L1 c1) ∧ w'.cell? ⟨w.heap.size + 1, 0, none⟩ = some (.bool s2) ∧ w'.cell? ⟨w.heap.size + 1, 1, none⟩ = some (.slice A2 L2 c2) ∧ w'.cell? ⟨w.heap.size + 1 + 1, 0, none⟩ = some (.bool s3) ∧ w'.cell? ⟨w.heap.size + 1 + 1, 1, none⟩ = some (.slice A3 L3 c3))
            ((refine HK.out _ ?_; (repeat' (first | with_reducible exact Ext.refl _ | with_reducible assumption | with_reducible apply Ext.alloc_r | with_reducible apply Ext.drew_r | with_reducible apply Ext.drewN_r | with_reducible refine Ext.trans ?_ ‹Ext _ _›))))
            (first
              | (go_at_call_of 26 (#[Value.agg #[Value.bool ssb, Value.slice Asb Lsb csb]]); have hgd := sb; clear hgd; refine (sign_is (k := X) (sb.zv.ext (by repeat' (first | with_reducible exact Ext.refl _ | with_reducible assumption | with_reducible apply Ext.alloc_r | with_reducible apply Ext.drew_r | with_reducible apply Ext.drewN_r | with_reducible refine Ext.trans ?_ ‹Ext _ _›))) (by rw [cmpZ_sub, ← HX.out])).mono ?_; rintro e w15 ⟨rfl, x15⟩)
              | (go_at_call_of 27 (#[Value.agg #[Value.bool s1, Value.slice A1 L1 c1], Value.agg #[Value.bool s2, Value.slice A2 L2 c2]]); have hgd := mb; clear hgd; refine (sub_z (h1.ext (by repeat' (first | with_reducible exact Ext.refl _ | with_reducible assumption | with_reducible apply Ext.alloc_r | with_reducible apply Ext.drew_r | with_reducible apply Ext.drewN_r | with_reducible refine Ext.trans ?_ ‹Ext _ _›))) (h2.ext (by repeat' (first | with_reducible exact Ext.refl _ | with_reducible assumption | with_reducible apply Ext.alloc_r | with_reducible apply Ext.drew_r | with_reducible apply Ext.drewN_r | with_reducible refine Ext.trans ?_ ‹Ext _ _›))) (by omega) (by omega)).mono ?_; rintro e w14 ⟨ssb, Asb, csb, Lsb, rfl, sb, x14⟩)
              | (go_at_call_of 26 (#[Value.agg #[Value.bool s3, Value.slice A3 L3 c3]]); have hgd := mb; clear hgd; refine (sign_is (h3.ext (by repeat' (first | with_reducible exact Ext.refl _ | with_reducible assumption | with_reducible apply Ext.alloc_r | with_reducible apply Ext.drew_r | with_reducible apply Ext.drewN_r | with_reducible refine Ext.trans ?_ ‹Ext _ _›))) HS.out.symm).mono ?_; rintro e w13 ⟨rfl, x13⟩)
              | (go_at_call_of 24 (#[Value.agg #[Value.bool sma, Value.slice Ama Lma cma], Value.agg #[Value.bool smb, Value.slice Amb Lmb cmb]]); have hgd := mb; clear hgd; refine (cmp_is (k := P) (ma.zv.ext (by repeat' (first | with_reducible exact Ext.refl _ | with_reducible assumption | with_reducible apply Ext.alloc_r | with_reducible apply Ext.drew_r | with_reducible apply Ext.drewN_r | with_reducible refine Ext.trans ?_ ‹Ext _ _›))) (mb.zv.ext (by repeat' (first | with_reducible exact Ext.refl _ | with_reducible assumption | with_reducible apply Ext.alloc_r | with_reducible apply Ext.drew_r | with_reducible apply Ext.drewN_r | with_reducible refine Ext.trans ?_ ‹Ext _ _›))) (by rw [cmpZ_mul, ← HX.out]; exact HP.out)).mono ?_; rintro e w12 ⟨rfl, x12⟩)
              | (go_at_call_of 17 (#[Value.agg #[Value.bool s2, Value.slice A2 L2 c2], Value.agg #[Value.bool s3, Value.slice A3 L3 c3]]); have hgd := ma; clear hgd; refine (mul_z (h2.ext (by repeat' (first | with_reducible exact Ext.refl _ | with_reducible assumption | with_reducible apply Ext.alloc_r | with_reducible apply Ext.drew_r | with_reducible apply Ext.drewN_r | with_reducible refine Ext.trans ?_ ‹Ext _ _›))) (h3.ext (by repeat' (first | with_reducible exact Ext.refl _ | with_reducible assumption | with_reducible apply Ext.alloc_r | with_reducible apply Ext.drew_r | with_reducible apply Ext.drewN_r | with_reducible refine Ext.trans ?_ ‹Ext _ _›))) (by omega) (by omega)).mono ?_; rintro e w11 ⟨smb, Amb, cmb, Lmb, rfl, mb, x11⟩)
              | (go_at_call_of 17 (#[Value.agg #[Value.bool s1, Value.slice A1 L1 c1], Value.agg #[Value.bool s3, Value.slice A3 L3 c3]]); refine (mul_z (h1.ext (by repeat' (first | with_reducible exact Ext.refl _ | with_reducible assumption | with_reducible apply Ext.alloc_r | with_reducible apply Ext.drew_r | with_reducible apply Ext.drewN_r | with_reducible refine Ext.trans ?_ ‹Ext _ _›))) (h3.ext (by repeat' (first | with_reducible exact Ext.refl _ | with_reducible assumption | with_reducible apply Ext.alloc_r | with_reducible apply Ext.drew_r | with_reducible apply Ext.drewN_r | with_reducible refine Ext.trans ?_ ‹Ext _ _›))) (by omega) (by omega)).mono ?_; rintro e w10 ⟨sma, Ama, cma, Lma, rfl, ma, x10⟩))
        | fail
        clear HK
        have xh : Ext w9 w15 := (by repeat' (first | with_reducible exact Ext.refl _ | with_reducible assumption | with_reducible apply Ext.alloc_r | with_reducible apply Ext.drew_r | with_reducible apply Ext.drewN_r | with_reducible refine Ext.trans ?_ ‹Ext _ _›))
        replace e0_0 := xh.cell e0_0
        replace e0_1 := xh.cell e0_1
        replace e1_0 := xh.cell e1_0
        replace e1_1 := xh.cell e1_1
        replace e2_0 := xh.cell e2_0
        replace e2_1 := xh.cell e2_1
        clear xh
        go_wp2_with fail
        go_ret
        exact ⟨rfl, (by repeat' (first | with_reducible exact Ext.refl _ | with_reducible assumption | with_reducible apply Ext.alloc_r | with_reducible apply Ext.drew_r | with_reducible apply Ext.drewN_r | with_reducible refine Ext.trans ?_ ‹Ext _ _›))⟩
      · have hz := hT hx hy
        have hz' : decide (0 < Z) = false := decide_eq_false (by omega)
        have hx' : decide (X ≤ 0) = true := decide_eq_true hx
        have hy' : decide (Y ≤ 0) = true := decide_eq_true hy
        clear hT
        go_enter Try.func5, Try.ntmps5
        go_wp2_with fail
        obtain ⟨w0, hw0⟩ : ∃ z : World, z = (((w.alloc (.cells #[.bool s1, .slice A1 L1 c1] 25)).alloc (.cells #[.bool s2, .slice A2 L2 c2] 25)).alloc (.cells #[.bool s3, .slice A3 L3 c3] 25)) := ⟨_, rfl⟩
        rw [← hw0]
        have b0 := box_at w #[.bool s1, .slice A1 L1 c1] 25
        have b1 := box_at (w.alloc (.cells #[.bool s1, .slice A1 L1 c1] 25)) #[.bool s2, .slice A2 L2 c2] 25
        have b2 := box_at ((w.alloc (.cells #[.bool s1, .slice A1 L1 c1] 25)).alloc (.cells #[.bool s2, .slice A2 L2 c2] 25)) #[.bool s3, .slice A3 L3 c3] 25
        have hsz : w0.heap.size = w.heap.size + 1 + 1 + 1 := by rw [hw0]; simp
        rw [← hw0] at b2
        have y2 : Ext ((w.alloc (.cells #[.bool s1, .slice A1 L1 c1] 25)).alloc (.cells #[.bool s2, .slice A2 L2 c2] 25)) w0 := by rw [hw0]; exact Ext.alloc _ _
        have y1 : Ext (w.alloc (.cells #[.bool s1, .slice A1 L1 c1] 25)) w0 := (Ext.alloc _ _).trans y2
        have y0 : Ext w w0 := (Ext.alloc _ _).trans y1
        have x0 : Ext w w0 := y0
        have e0_0 := y1.cell (b0.1 0 (.bool s1) rfl)
        have e0_1 := y1.cell (b0.1 1 (.slice A1 L1 c1) rfl)
        have e1_0 := y2.cell (b1.1 0 (.bool s2) rfl)
        have e1_1 := y2.cell (b1.1 1 (.slice A2 L2 c2) rfl)
        have e2_0 := b2.1 0 (.bool s3) rfl
        have e2_1 := b2.1 1 (.slice A3 L3 c3) rfl
        simp only [World.size_alloc] at e1_0 e1_1 e2_0 e2_1
        clear hw0 b0 b1 b2 y0 y1 y2
        go_wp2_with fail
        refine (lawake_z _).mono ?_
        rintro e w1 ⟨rfl, x1⟩
        replace e0_0 := x1.cell e0_0
        replace e0_1 := x1.cell e0_1
        replace e1_0 := x1.cell e1_0
        replace e1_1 := x1.cell e1_1
        replace e2_0 := x1.cell e2_0
        replace e2_1 := x1.cell e2_1
        go_wp2_with fail
        refine (lfew_z (n := 8) (by omega) (by omega) (by omega)).mono ?_
        rintro e w2 ⟨rfl, x2⟩
        replace e0_0 := x2.cell e0_0
        replace e0_1 := x2.cell e0_1
        replace e1_0 := x2.cell e1_0
        replace e1_1 := x2.cell e1_1
        replace e2_0 := x2.cell e2_0
        replace e2_1 := x2.cell e2_1
        rw [HF.out]
        clear hsz
        go_wp2_with fail
        have HK : Hid (∀ w', Ext w2 w' → Ext w2 w' ∧ w'.cell? ⟨w.heap.size, 0, none⟩ = some (.bool s1) ∧ w'.cell? ⟨w.heap.size, 1, none⟩ = some (.slice A1 L1 c1) ∧ w'.cell? ⟨w.heap.size + 1, 0, none⟩ = some (.bool s2) ∧ w'.cell? ⟨w.heap.size + 1, 1, none⟩ = some (.slice A2 L2 c2) ∧ w'.cell? ⟨w.heap.size + 1 + 1, 0, none⟩ = some (.bool s3) ∧ w'.cell? ⟨w.heap.size + 1 + 1, 1, none⟩ = some (.slice A3 L3 c3)) := fun w' hk => ⟨hk, hk.cell e0_0, hk.cell e0_1, hk.cell e1_0, hk.cell e1_1, hk.cell e2_0, hk.cell e2_1⟩
        first
        | go_region_held3 (fun w' => Ext w2 w' ∧ w'.cell? ⟨w.heap.size, 0, none⟩ = some (.bool s1) ∧ w'.cell? ⟨w.heap.size, 1, none⟩ = some (.slice A1 L1 c1) ∧ w'.cell? ⟨w.heap.size + 1, 0, none⟩ = some (.bool s2) ∧ w'.cell? ⟨w.heap.size + 1, 1, none⟩ = some (.slice A2 L2 c2) ∧ w'.cell? ⟨w.heap.size + 1 + 1, 0, none⟩ = some (.bool s3) ∧ w'.cell? ⟨w.heap.size + 1 + 1, 1, none⟩ = some (.slice A3 L3 c3))
            ((refine HK.out _ ?_; (repeat' (first | with_reducible exact Ext.refl _ | with_reducible assumption | with_reducible apply Ext.alloc_r | with_reducible apply Ext.drew_r | with_reducible apply Ext.drewN_r | with_reducible refine Ext.trans ?_ ‹Ext _ _›))))
            (first
              | (go_at_call_of 24 (#[Value.agg #[Value.bool s1, Value.slice A1 L1 c1], Value.agg #[Value.bool s3, Value.slice A3 L3 c3]]); refine (cmp_is (k := _) (h1.ext (by repeat' (first | with_reducible exact Ext.refl _ | with_reducible assumption | with_reducible apply Ext.alloc_r | with_reducible apply Ext.drew_r | with_reducible apply Ext.drewN_r | with_reducible refine Ext.trans ?_ ‹Ext _ _›))) (h3.ext (by repeat' (first | with_reducible exact Ext.refl _ | with_reducible assumption | with_reducible apply Ext.alloc_r | with_reducible apply Ext.drew_r | with_reducible apply Ext.drewN_r | with_reducible refine Ext.trans ?_ ‹Ext _ _›))) (HZ.out.symm)).mono ?_; rintro e w5 ⟨rfl, x5⟩)
              | (go_at_call_of 24 (#[Value.agg #[Value.bool s2, Value.slice A2 L2 c2], Value.agg #[Value.bool s3, Value.slice A3 L3 c3]]); refine (cmp_is (k := _) (h2.ext (by repeat' (first | with_reducible exact Ext.refl _ | with_reducible assumption | with_reducible apply Ext.alloc_r | with_reducible apply Ext.drew_r | with_reducible apply Ext.drewN_r | with_reducible refine Ext.trans ?_ ‹Ext _ _›))) (h3.ext (by repeat' (first | with_reducible exact Ext.refl _ | with_reducible assumption | with_reducible apply Ext.alloc_r | with_reducible apply Ext.drew_r | with_reducible apply Ext.drewN_r | with_reducible refine Ext.trans ?_ ‹Ext _ _›))) (HY.out.symm)).mono ?_; rintro e w4 ⟨rfl, x4⟩)
              | (go_at_call_of 24 (#[Value.agg #[Value.bool s1, Value.slice A1 L1 c1], Value.agg #[Value.bool s2, Value.slice A2 L2 c2]]); refine (cmp_is (k := _) (h1.ext (by repeat' (first | with_reducible exact Ext.refl _ | with_reducible assumption | with_reducible apply Ext.alloc_r | with_reducible apply Ext.drew_r | with_reducible apply Ext.drewN_r | with_reducible refine Ext.trans ?_ ‹Ext _ _›))) (h2.ext (by repeat' (first | with_reducible exact Ext.refl _ | with_reducible assumption | with_reducible apply Ext.alloc_r | with_reducible apply Ext.drew_r | with_reducible apply Ext.drewN_r | with_reducible refine Ext.trans ?_ ‹Ext _ _›))) (HX.out.symm)).mono ?_; rintro e w3 ⟨rfl, x3⟩))
        | fail
        clear HK
        have xh : Ext w2 w5 := (by repeat' (first | with_reducible exact Ext.refl _ | with_reducible assumption | with_reducible apply Ext.alloc_r | with_reducible apply Ext.drew_r | with_reducible apply Ext.drewN_r | with_reducible refine Ext.trans ?_ ‹Ext _ _›))
        replace e0_0 := xh.cell e0_0
        replace e0_1 := xh.cell e0_1
        replace e1_0 := xh.cell e1_0
        replace e1_1 := xh.cell e1_1
        replace e2_0 := xh.cell e2_0
        replace e2_1 := xh.cell e2_1
        clear xh
        go_wp2_with fail
        have HK : Hid (∀ w', Ext w5 w' → Ext w5 w' ∧ w'.cell? ⟨w.heap.size, 0, none⟩ = some (.bool s1) ∧ w'.cell? ⟨w.heap.size, 1, none⟩ = some (.slice A1 L1 c1) ∧ w'.cell? ⟨w.heap.size + 1, 0, none⟩ = some (.bool s2) ∧ w'.cell? ⟨w.heap.size + 1, 1, none⟩ = some (.slice A2 L2 c2) ∧ w'.cell? ⟨w.heap.size + 1 + 1, 0, none⟩ = some (.bool s3) ∧ w'.cell? ⟨w.heap.size + 1 + 1, 1, none⟩ = some (.slice A3 L3 c3)) := fun w' hk => ⟨hk, hk.cell e0_0, hk.cell e0_1, hk.cell e1_0, hk.cell e1_1, hk.cell e2_0, hk.cell e2_1⟩
        first
        | go_region_held_law (fun w' => Ext w5 w' ∧ w'.cell? ⟨w.heap.size, 0, none⟩ = some (.bool s1) ∧ w'.cell? ⟨w.heap.size, 1, none⟩ = some (.slice A1 L1 c1) ∧ w'.cell? ⟨w.heap.size + 1, 0, none⟩ = some (.bool s2) ∧ w'.cell? ⟨w.heap.size + 1, 1, none⟩ = some (.slice A2 L2 c2) ∧ w'.cell? ⟨w.heap.size + 1 + 1, 0, none⟩ = some (.bool s3) ∧ w'.cell? ⟨w.heap.size + 1 + 1, 1, none⟩ = some (.slice A3 L3 c3))
            ((refine HK.out _ ?_; (repeat' (first | with_reducible exact Ext.refl _ | with_reducible assumption | with_reducible apply Ext.alloc_r | with_reducible apply Ext.drew_r | with_reducible apply Ext.drewN_r | with_reducible refine Ext.trans ?_ ‹Ext _ _›))))
            (first
              | (go_at_call_of 24 (#[Value.agg #[Value.bool spa, Value.slice Apa Lpa cpa], Value.agg #[Value.bool spb, Value.slice Apb Lpb cpb]]); have hgd := pb; clear hgd; refine (cmp_is (k := X) (pa.zv.ext (by repeat' (first | with_reducible exact Ext.refl _ | with_reducible assumption | with_reducible apply Ext.alloc_r | with_reducible apply Ext.drew_r | with_reducible apply Ext.drewN_r | with_reducible refine Ext.trans ?_ ‹Ext _ _›))) (pb.zv.ext (by repeat' (first | with_reducible exact Ext.refl _ | with_reducible assumption | with_reducible apply Ext.alloc_r | with_reducible apply Ext.drew_r | with_reducible apply Ext.drewN_r | with_reducible refine Ext.trans ?_ ‹Ext _ _›))) (by rw [cmpZ_add, ← HX.out])).mono ?_; rintro e w9 ⟨rfl, x9⟩)
              | (go_at_call_of 25 (#[Value.agg #[Value.bool s2, Value.slice A2 L2 c2], Value.agg #[Value.bool s3, Value.slice A3 L3 c3]]); have hgd := pa; clear hgd; refine (add_z (h2.ext (by repeat' (first | with_reducible exact Ext.refl _ | with_reducible assumption | with_reducible apply Ext.alloc_r | with_reducible apply Ext.drew_r | with_reducible apply Ext.drewN_r | with_reducible refine Ext.trans ?_ ‹Ext _ _›))) (h3.ext (by repeat' (first | with_reducible exact Ext.refl _ | with_reducible assumption | with_reducible apply Ext.alloc_r | with_reducible apply Ext.drew_r | with_reducible apply Ext.drewN_r | with_reducible refine Ext.trans ?_ ‹Ext _ _›))) (by omega) (by omega)).mono ?_; rintro e w8 ⟨spb, Apb, cpb, Lpb, rfl, pb, x8⟩)
              | (go_at_call_of 25 (#[Value.agg #[Value.bool s1, Value.slice A1 L1 c1], Value.agg #[Value.bool s3, Value.slice A3 L3 c3]]); refine (add_z (h1.ext (by repeat' (first | with_reducible exact Ext.refl _ | with_reducible assumption | with_reducible apply Ext.alloc_r | with_reducible apply Ext.drew_r | with_reducible apply Ext.drewN_r | with_reducible refine Ext.trans ?_ ‹Ext _ _›))) (h3.ext (by repeat' (first | with_reducible exact Ext.refl _ | with_reducible assumption | with_reducible apply Ext.alloc_r | with_reducible apply Ext.drew_r | with_reducible apply Ext.drewN_r | with_reducible refine Ext.trans ?_ ‹Ext _ _›))) (by omega) (by omega)).mono ?_; rintro e w7 ⟨spa, Apa, cpa, Lpa, rfl, pa, x7⟩)
              | (go_at_call_of 24 (#[Value.agg #[Value.bool s2, Value.slice A2 L2 c2], Value.agg #[Value.bool s1, Value.slice A1 L1 c1]]); refine (cmp_is (k := -X) (h2.ext (by repeat' (first | with_reducible exact Ext.refl _ | with_reducible assumption | with_reducible apply Ext.alloc_r | with_reducible apply Ext.drew_r | with_reducible apply Ext.drewN_r | with_reducible refine Ext.trans ?_ ‹Ext _ _›))) (h1.ext (by repeat' (first | with_reducible exact Ext.refl _ | with_reducible assumption | with_reducible apply Ext.alloc_r | with_reducible apply Ext.drew_r | with_reducible apply Ext.drewN_r | with_reducible refine Ext.trans ?_ ‹Ext _ _›))) (by rw [cmpZ_swap, ← HX.out])).mono ?_; rintro e w6 ⟨rfl, x6⟩))
        | fail
        clear HK
        have xh : Ext w5 w9 := (by repeat' (first | with_reducible exact Ext.refl _ | with_reducible assumption | with_reducible apply Ext.alloc_r | with_reducible apply Ext.drew_r | with_reducible apply Ext.drewN_r | with_reducible refine Ext.trans ?_ ‹Ext _ _›))
        replace e0_0 := xh.cell e0_0
        replace e0_1 := xh.cell e0_1
        replace e1_0 := xh.cell e1_0
        replace e1_1 := xh.cell e1_1
        replace e2_0 := xh.cell e2_0
        replace e2_1 := xh.cell e2_1
        clear xh
        go_wp2_with fail
        have HK : Hid (∀ w', Ext w9 w' → Ext w9 w' ∧ w'.cell? ⟨w.heap.size, 0, none⟩ = some (.bool s1) ∧ w'.cell? ⟨w.heap.size, 1, none⟩ = some (.slice A1 L1 c1) ∧ w'.cell? ⟨w.heap.size + 1, 0, none⟩ = some (.bool s2) ∧ w'.cell? ⟨w.heap.size + 1, 1, none⟩ = some (.slice A2 L2 c2) ∧ w'.cell? ⟨w.heap.size + 1 + 1, 0, none⟩ = some (.bool s3) ∧ w'.cell? ⟨w.heap.size + 1 + 1, 1, none⟩ = some (.slice A3 L3 c3)) := fun w' hk => ⟨hk, hk.cell e0_0, hk.cell e0_1, hk.cell e1_0, hk.cell e1_1, hk.cell e2_0, hk.cell e2_1⟩
        first
        | go_region_held3 (fun w' => Ext w9 w' ∧ w'.cell? ⟨w.heap.size, 0, none⟩ = some (.bool s1) ∧ w'.cell? ⟨w.heap.size, 1, none⟩ = some (.slice A1 L1 c1) ∧ w'.cell? ⟨w.heap.size + 1, 0, none⟩ = some (.bool s2) ∧ w'.cell? ⟨w.heap.size + 1, 1, none⟩ = some (.slice A2 L2 c2) ∧ w'.cell? ⟨w.heap.size + 1 + 1, 0, none⟩ = some (.bool s3) ∧ w'.cell? ⟨w.heap.size + 1 + 1, 1, none⟩ = some (.slice A3 L3 c3))
            ((refine HK.out _ ?_; (repeat' (first | with_reducible exact Ext.refl _ | with_reducible assumption | with_reducible apply Ext.alloc_r | with_reducible apply Ext.drew_r | with_reducible apply Ext.drewN_r | with_reducible refine Ext.trans ?_ ‹Ext _ _›))))
            (first
              | (go_at_call_of 26 (#[Value.agg #[Value.bool ssb, Value.slice Asb Lsb csb]]); have hgd := sb; clear hgd; refine (sign_is (k := X) (sb.zv.ext (by repeat' (first | with_reducible exact Ext.refl _ | with_reducible assumption | with_reducible apply Ext.alloc_r | with_reducible apply Ext.drew_r | with_reducible apply Ext.drewN_r | with_reducible refine Ext.trans ?_ ‹Ext _ _›))) (by rw [cmpZ_sub, ← HX.out])).mono ?_; rintro e w15 ⟨rfl, x15⟩)
              | (go_at_call_of 27 (#[Value.agg #[Value.bool s1, Value.slice A1 L1 c1], Value.agg #[Value.bool s2, Value.slice A2 L2 c2]]); have hgd := mb; clear hgd; refine (sub_z (h1.ext (by repeat' (first | with_reducible exact Ext.refl _ | with_reducible assumption | with_reducible apply Ext.alloc_r | with_reducible apply Ext.drew_r | with_reducible apply Ext.drewN_r | with_reducible refine Ext.trans ?_ ‹Ext _ _›))) (h2.ext (by repeat' (first | with_reducible exact Ext.refl _ | with_reducible assumption | with_reducible apply Ext.alloc_r | with_reducible apply Ext.drew_r | with_reducible apply Ext.drewN_r | with_reducible refine Ext.trans ?_ ‹Ext _ _›))) (by omega) (by omega)).mono ?_; rintro e w14 ⟨ssb, Asb, csb, Lsb, rfl, sb, x14⟩)
              | (go_at_call_of 26 (#[Value.agg #[Value.bool s3, Value.slice A3 L3 c3]]); have hgd := mb; clear hgd; refine (sign_is (h3.ext (by repeat' (first | with_reducible exact Ext.refl _ | with_reducible assumption | with_reducible apply Ext.alloc_r | with_reducible apply Ext.drew_r | with_reducible apply Ext.drewN_r | with_reducible refine Ext.trans ?_ ‹Ext _ _›))) HS.out.symm).mono ?_; rintro e w13 ⟨rfl, x13⟩)
              | (go_at_call_of 24 (#[Value.agg #[Value.bool sma, Value.slice Ama Lma cma], Value.agg #[Value.bool smb, Value.slice Amb Lmb cmb]]); have hgd := mb; clear hgd; refine (cmp_is (k := P) (ma.zv.ext (by repeat' (first | with_reducible exact Ext.refl _ | with_reducible assumption | with_reducible apply Ext.alloc_r | with_reducible apply Ext.drew_r | with_reducible apply Ext.drewN_r | with_reducible refine Ext.trans ?_ ‹Ext _ _›))) (mb.zv.ext (by repeat' (first | with_reducible exact Ext.refl _ | with_reducible assumption | with_reducible apply Ext.alloc_r | with_reducible apply Ext.drew_r | with_reducible apply Ext.drewN_r | with_reducible refine Ext.trans ?_ ‹Ext _ _›))) (by rw [cmpZ_mul, ← HX.out]; exact HP.out)).mono ?_; rintro e w12 ⟨rfl, x12⟩)
              | (go_at_call_of 17 (#[Value.agg #[Value.bool s2, Value.slice A2 L2 c2], Value.agg #[Value.bool s3, Value.slice A3 L3 c3]]); have hgd := ma; clear hgd; refine (mul_z (h2.ext (by repeat' (first | with_reducible exact Ext.refl _ | with_reducible assumption | with_reducible apply Ext.alloc_r | with_reducible apply Ext.drew_r | with_reducible apply Ext.drewN_r | with_reducible refine Ext.trans ?_ ‹Ext _ _›))) (h3.ext (by repeat' (first | with_reducible exact Ext.refl _ | with_reducible assumption | with_reducible apply Ext.alloc_r | with_reducible apply Ext.drew_r | with_reducible apply Ext.drewN_r | with_reducible refine Ext.trans ?_ ‹Ext _ _›))) (by omega) (by omega)).mono ?_; rintro e w11 ⟨smb, Amb, cmb, Lmb, rfl, mb, x11⟩)
              | (go_at_call_of 17 (#[Value.agg #[Value.bool s1, Value.slice A1 L1 c1], Value.agg #[Value.bool s3, Value.slice A3 L3 c3]]); refine (mul_z (h1.ext (by repeat' (first | with_reducible exact Ext.refl _ | with_reducible assumption | with_reducible apply Ext.alloc_r | with_reducible apply Ext.drew_r | with_reducible apply Ext.drewN_r | with_reducible refine Ext.trans ?_ ‹Ext _ _›))) (h3.ext (by repeat' (first | with_reducible exact Ext.refl _ | with_reducible assumption | with_reducible apply Ext.alloc_r | with_reducible apply Ext.drew_r | with_reducible apply Ext.drewN_r | with_reducible refine Ext.trans ?_ ‹Ext _ _›))) (by omega) (by omega)).mono ?_; rintro e w10 ⟨sma, Ama, cma, Lma, rfl, ma, x10⟩))
        | fail
        clear HK
        have xh : Ext w9 w15 := (by repeat' (first | with_reducible exact Ext.refl _ | with_reducible assumption | with_reducible apply Ext.alloc_r | with_reducible apply Ext.drew_r | with_reducible apply Ext.drewN_r | with_reducible refine Ext.trans ?_ ‹Ext _ _›))
        replace e0_0 := xh.cell e0_0
        replace e0_1 := xh.cell e0_1
        replace e1_0 := xh.cell e1_0
        replace e1_1 := xh.cell e1_1
        replace e2_0 := xh.cell e2_0
        replace e2_1 := xh.cell e2_1
        clear xh
        go_wp2_with fail
        go_ret
        exact ⟨rfl, (by repeat' (first | with_reducible exact Ext.refl _ | with_reducible assumption | with_reducible apply Ext.alloc_r | with_reducible apply Ext.drew_r | with_reducible apply Ext.drewN_r | with_reducible refine Ext.trans ?_ ‹Ext _ _›))⟩
  · have hf' : (decide (L1 ≤ 8) && (decide (L2 ≤ 8) && decide (L3 ≤ 8))) = false := by simpa using hf
    have HF := Lib.hid hf'
    clear hf hf'
    go_enter Try.func5, Try.ntmps5
    go_wp2_with fail
    obtain ⟨w0, hw0⟩ : ∃ z : World, z = (((w.alloc (.cells #[.bool s1, .slice A1 L1 c1] 25)).alloc (.cells #[.bool s2, .slice A2 L2 c2] 25)).alloc (.cells #[.bool s3, .slice A3 L3 c3] 25)) := ⟨_, rfl⟩
    rw [← hw0]
    have b0 := box_at w #[.bool s1, .slice A1 L1 c1] 25
    have b1 := box_at (w.alloc (.cells #[.bool s1, .slice A1 L1 c1] 25)) #[.bool s2, .slice A2 L2 c2] 25
    have b2 := box_at ((w.alloc (.cells #[.bool s1, .slice A1 L1 c1] 25)).alloc (.cells #[.bool s2, .slice A2 L2 c2] 25)) #[.bool s3, .slice A3 L3 c3] 25
    have hsz : w0.heap.size = w.heap.size + 1 + 1 + 1 := by rw [hw0]; simp
    rw [← hw0] at b2
    have y2 : Ext ((w.alloc (.cells #[.bool s1, .slice A1 L1 c1] 25)).alloc (.cells #[.bool s2, .slice A2 L2 c2] 25)) w0 := by rw [hw0]; exact Ext.alloc _ _
    have y1 : Ext (w.alloc (.cells #[.bool s1, .slice A1 L1 c1] 25)) w0 := (Ext.alloc _ _).trans y2
    have y0 : Ext w w0 := (Ext.alloc _ _).trans y1
    have x0 : Ext w w0 := y0
    have e0_0 := y1.cell (b0.1 0 (.bool s1) rfl)
    have e0_1 := y1.cell (b0.1 1 (.slice A1 L1 c1) rfl)
    have e1_0 := y2.cell (b1.1 0 (.bool s2) rfl)
    have e1_1 := y2.cell (b1.1 1 (.slice A2 L2 c2) rfl)
    have e2_0 := b2.1 0 (.bool s3) rfl
    have e2_1 := b2.1 1 (.slice A3 L3 c3) rfl
    simp only [World.size_alloc] at e1_0 e1_1 e2_0 e2_1
    clear hw0 b0 b1 b2 y0 y1 y2
    go_wp2_with fail
    refine (lawake_z _).mono ?_
    rintro e w1 ⟨rfl, x1⟩
    replace e0_0 := x1.cell e0_0
    replace e0_1 := x1.cell e0_1
    replace e1_0 := x1.cell e1_0
    replace e1_1 := x1.cell e1_1
    replace e2_0 := x1.cell e2_0
    replace e2_1 := x1.cell e2_1
    go_wp2_with fail
    refine (lfew_z (n := 8) (by omega) (by omega) (by omega)).mono ?_
    rintro e w2 ⟨rfl, x2⟩
    replace e0_0 := x2.cell e0_0
    replace e0_1 := x2.cell e0_1
    replace e1_0 := x2.cell e1_0
    replace e1_1 := x2.cell e1_1
    replace e2_0 := x2.cell e2_0
    replace e2_1 := x2.cell e2_1
    rw [HF.out]
    clear hsz
    go_wp2_with fail
    refine (lawake_z _).mono ?_
    rintro e w3 ⟨rfl, x3⟩
    replace e0_0 := x3.cell e0_0
    replace e0_1 := x3.cell e0_1
    replace e1_0 := x3.cell e1_0
    replace e1_1 := x3.cell e1_1
    replace e2_0 := x3.cell e2_0
    replace e2_1 := x3.cell e2_1
    go_wp2_with fail
    go_ret
    exact ⟨rfl, (by repeat' (first | with_reducible exact Ext.refl _ | with_reducible assumption | with_reducible apply Ext.alloc_r | with_reducible apply Ext.drew_r | with_reducible apply Ext.drewN_r | with_reducible refine Ext.trans ?_ ‹Ext _ _›))⟩
end Go.Proofs.Ytcccabgeoaidjaa
