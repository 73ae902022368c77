/- The walk of DecimalFormats. -/
import Derived.Test.YtjhknnioefipmaaLaw4
import Derived.Test.YtjhknnioefipmaaKept
namespace Go.Proofs.Ytjhknnioefipmaa
open Go.RowKit
set_option maxHeartbeats 40000000 in
set_option maxRecDepth 100000 in
theorem decimalFormats_walk {w : World} {s1 : Bool} {A1 : Option Addr} {c1 L1 : Nat} {z1 : Int} (h1 : ZV w s1 A1 c1 L1 z1) :
    Calls Try.prog 3 #[.agg #[.bool s1, .slice A1 L1 c1]] w fun e w' => e = .returned (.bool true) ∧ Ext w w' := by
  have p1 := h1.nv.cap
  have q1 := h1.nv.le
  by_cases hf : L1 ≤ 12
  · have b1 : dl z1.natAbs ≤ 12 := Nat.le_trans h1.nv.dl hf
    have b2 : bl z1.natAbs ≤ 384 := Nat.le_trans h1.nv.bl (by omega)
    go_enter Try.func3, Try.ntmps3
    go_wp2_with fail
    obtain ⟨w0, hw0⟩ : ∃ z : World, z = (w.alloc (.cells #[.bool s1, .slice A1 L1 c1] 25)) := ⟨_, rfl⟩
    rw [← hw0]
    have b0 := box_at w #[.bool s1, .slice A1 L1 c1] 25
    have hsz : w0.heap.size = w.heap.size + 1 := by rw [hw0]; simp
    rw [← hw0] at b0
    have y0 : Ext w w0 := by rw [hw0]; exact Ext.alloc _ _
    have x0 : Ext w w0 := y0
    have e0_0 := b0.1 0 (.bool s1) rfl
    have e0_1 := b0.1 1 (.slice A1 L1 c1) rfl
    clear hw0 b0 y0
    go_wp2_with fail
    refine (lawake4 _).mono ?_
    rintro e w1 ⟨rfl, x1⟩
    replace e0_0 := x1.cell e0_0
    replace e0_1 := x1.cell e0_1
    go_wp2_with fail
    refine (lof4 (h1.ext (by repeat' (first | with_reducible exact Ext.refl _ | with_reducible assumption | with_reducible apply Ext.alloc_r | with_reducible apply Ext.drew_r | with_reducible apply Ext.drewN_r | with_reducible refine Ext.trans ?_ ‹Ext _ _›))) (by omega)).mono ?_
    rintro e w2 ⟨gp, Ap, cp, Lp, rfl, p, x2⟩
    replace e0_0 := x2.cell e0_0
    replace e0_1 := x2.cell e0_1
    go_wp2_with fail
    refine (rFormat_rz (b := 10) (p.ext (by repeat' (first | with_reducible exact Ext.refl _ | with_reducible assumption | with_reducible apply Ext.alloc_r | with_reducible apply Ext.drew_r | with_reducible apply Ext.drewN_r | with_reducible refine Ext.trans ?_ ‹Ext _ _›))) (by omega) (by omega) (by rw [p.len]; exact Nat.le_trans b2 (by omega))).mono ?_
    rintro e w3 ⟨tf, rfl, f, x3⟩
    replace e0_0 := x3.cell e0_0
    replace e0_1 := x3.cell e0_1
    have hlen := fmt_len z1
    obtain ⟨D, hD⟩ : ∃ D, D = (fmtL 10 (z1.natAbs : Int)).length := ⟨_, rfl⟩
    rw [← hD] at hlen
    have hsz : tf.size = D + (if z1 < 0 then 1 else 0) := by rw [← hlen, ← f, bs_length]
    have hD1 : 0 < D := by rw [hD]; exact fmt_pos _
    have hD2 : D ≤ 400 := by rw [hD]; have := fmt_le (b := 10) (by omega) (z1.natAbs : Int); rw [Int.natAbs_natCast] at this; omega
    have HD := Lib.hid hD
    have HF := Lib.hid f
    clear hlen hD f
    by_cases hneg : z1 < 0
    · rw [if_pos hneg] at hsz
      have h0 : 0 < tf.size := by omega
      have hch : ((tf[0].toNat : Int) == 45) = true := by have := fmt_first HF.out h0; rw [this]; simp; omega
      have HG : Hid (∀ w', Ext w w' → Calls Try.prog 15 #[.agg #[.bool s1, .slice A1 L1 c1]] w' fun e w'' => e = .returned (.int .i64 D) ∧ Ext w' w'') := fun w' hx => by
        rw [HD.out]
        exact Digits_z (h1.ext hx) (by omega)
      go_wp2_with fail
      refine (Format_z (h1.ext (by repeat' (first | with_reducible exact Ext.refl _ | with_reducible assumption | with_reducible apply Ext.alloc_r | with_reducible apply Ext.drew_r | with_reducible apply Ext.drewN_r | with_reducible refine Ext.trans ?_ ‹Ext _ _›))) (by omega)).mono ?_
      rintro e w4 ⟨tg, rfl, g, x4⟩
      replace e0_0 := x4.cell e0_0
      replace e0_1 := x4.cell e0_1
      obtain rfl : tg = tf := bs_inj (g.trans HF.out.symm)
      clear g
      go_wp2_with fail
      refine (HG.out _ (by repeat' (first | with_reducible exact Ext.refl _ | with_reducible assumption | with_reducible apply Ext.alloc_r | with_reducible apply Ext.drew_r | with_reducible apply Ext.drewN_r | with_reducible refine Ext.trans ?_ ‹Ext _ _›))).mono ?_
      rintro e w5 ⟨rfl, x5⟩
      replace e0_0 := x5.cell e0_0
      replace e0_1 := x5.cell e0_1
      go_wp2_with fail
      go_ret
      exact ⟨rfl, (by repeat' (first | with_reducible exact Ext.refl _ | with_reducible assumption | with_reducible apply Ext.alloc_r | with_reducible apply Ext.drew_r | with_reducible apply Ext.drewN_r | with_reducible refine Ext.trans ?_ ‹Ext _ _›))⟩
    · rw [if_neg hneg] at hsz
      have h0 : 0 < tf.size := by omega
      have hch : ((tf[0].toNat : Int) == 45) = false := by have := fmt_first HF.out h0; rw [this]; simp; omega
      have HG : Hid (∀ w', Ext w w' → Calls Try.prog 15 #[.agg #[.bool s1, .slice A1 L1 c1]] w' fun e w'' => e = .returned (.int .i64 D) ∧ Ext w' w'') := fun w' hx => by
        rw [HD.out]
        exact Digits_z (h1.ext hx) (by omega)
      go_wp2_with fail
      refine (Format_z (h1.ext (by repeat' (first | with_reducible exact Ext.refl _ | with_reducible assumption | with_reducible apply Ext.alloc_r | with_reducible apply Ext.drew_r | with_reducible apply Ext.drewN_r | with_reducible refine Ext.trans ?_ ‹Ext _ _›))) (by omega)).mono ?_
      rintro e w4 ⟨tg, rfl, g, x4⟩
      replace e0_0 := x4.cell e0_0
      replace e0_1 := x4.cell e0_1
      obtain rfl : tg = tf := bs_inj (g.trans HF.out.symm)
      clear g
      go_wp2_with fail
      refine (HG.out _ (by repeat' (first | with_reducible exact Ext.refl _ | with_reducible assumption | with_reducible apply Ext.alloc_r | with_reducible apply Ext.drew_r | with_reducible apply Ext.drewN_r | with_reducible refine Ext.trans ?_ ‹Ext _ _›))).mono ?_
      rintro e w5 ⟨rfl, x5⟩
      replace e0_0 := x5.cell e0_0
      replace e0_1 := x5.cell e0_1
      go_wp2_with fail
      go_ret
      exact ⟨rfl, (by repeat' (first | with_reducible exact Ext.refl _ | with_reducible assumption | with_reducible apply Ext.alloc_r | with_reducible apply Ext.drew_r | with_reducible apply Ext.drewN_r | with_reducible refine Ext.trans ?_ ‹Ext _ _›))⟩
  · have hf' : 12 < L1 := by omega
    clear hf
    go_enter Try.func3, Try.ntmps3
    go_wp2_with fail
    obtain ⟨w0, hw0⟩ : ∃ z : World, z = (w.alloc (.cells #[.bool s1, .slice A1 L1 c1] 25)) := ⟨_, rfl⟩
    rw [← hw0]
    have b0 := box_at w #[.bool s1, .slice A1 L1 c1] 25
    have hsz : w0.heap.size = w.heap.size + 1 := by rw [hw0]; simp
    rw [← hw0] at b0
    have y0 : Ext w w0 := by rw [hw0]; exact Ext.alloc _ _
    have x0 : Ext w w0 := y0
    have e0_0 := b0.1 0 (.bool s1) rfl
    have e0_1 := b0.1 1 (.slice A1 L1 c1) rfl
    clear hw0 b0 y0
    go_wp2_with fail
    refine (lawake4 _).mono ?_
    rintro e w1 ⟨rfl, x1⟩
    replace e0_0 := x1.cell e0_0
    replace e0_1 := x1.cell e0_1
    go_wp2_with fail
    refine (lawake4 _).mono ?_
    rintro e w2 ⟨rfl, x2⟩
    replace e0_0 := x2.cell e0_0
    replace e0_1 := x2.cell e0_1
    go_wp2_with fail
    go_ret
    exact ⟨rfl, (by repeat' (first | with_reducible exact Ext.refl _ | with_reducible assumption | with_reducible apply Ext.alloc_r | with_reducible apply Ext.drew_r | with_reducible apply Ext.drewN_r | with_reducible refine Ext.trans ?_ ‹Ext _ _›))⟩
end Go.Proofs.Ytjhknnioefipmaa
