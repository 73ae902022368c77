/- The walk of DecimalBases. -/
import Derived.Test.YtjhknnioefipmaaLaw4
import Derived.Test.YtjhknnioefipmaaKept
import Derived.Test.YtjhknnioefipmaaRefJ
import Derived.Test.YtjhknnioefipmaaLaw4b
import Derived.Test.YtjhknnioefipmaaLaw2b
namespace Go.Proofs.Ytjhknnioefipmaa
open Go.RowKit
set_option maxHeartbeats 40000000 in
set_option maxRecDepth 100000 in
theorem decimalBases_walk {w : World} {base : Int} {s1 : Bool} {A1 : Option Addr} {c1 L1 : Nat} {z1 : Int} (h1 : ZV w s1 A1 c1 L1 z1) (hb : -9223372036854775808 ≤ base ∧ base ≤ 9223372036854775807) :
    Calls Try.prog 9 #[.agg #[.bool s1, .slice A1 L1 c1], .int .i64 base] w fun e w' => e = .returned (.bool true) ∧ Ext w w' := by
  have p1 := h1.nv.cap
  have q1 := h1.nv.le
  by_cases hf : L1 ≤ 8
  · have b1 : dl z1.natAbs ≤ 8 := Nat.le_trans h1.nv.dl hf
    have b2 : bl z1.natAbs ≤ 256 := Nat.le_trans h1.nv.bl (by omega)
    by_cases hv : 2 ≤ base ∧ base ≤ 36
    · obtain ⟨B, hB⟩ : ∃ B : Nat, base = B := ⟨base.toNat, by omega⟩
      subst hB
      have k1 : 2 ≤ B := by omega
      have k2 : B ≤ 36 := by omega
      have n1 : ¬ ((B : Int) < 2) := by omega
      have n2 : ¬ (36 < (B : Int)) := by omega
      clear hv
      go_enter Try.func9, Try.ntmps9
      go_wp2_with fail
      obtain ⟨w0, hw0⟩ : ∃ z : World, z = (w.alloc (.cells #[.bool s1, .slice A1 L1 c1] 25)) := ⟨_, rfl⟩
      rw [← hw0]
      have b0 := box_at w #[.bool s1, .slice A1 L1 c1] 25
      have hsz : w0.heap.size = w.heap.size + 1 := by rw [hw0]; simp
      rw [← hw0] at b0
      have y0 : Ext w w0 := by rw [hw0]; exact Ext.alloc _ _
      have x0 : Ext w w0 := y0
      have e0_0 := b0.1 0 (.bool s1) rfl
      have e0_1 := b0.1 1 (.slice A1 L1 c1) rfl
      clear hw0 b0 y0
      go_wp2_with fail
      refine (lawake4 _).mono ?_
      rintro e w1 ⟨rfl, x1⟩
      replace e0_0 := x1.cell e0_0
      replace e0_1 := x1.cell e0_1
      go_wp2_with fail
      refine (FormatBase_z (h1.ext (by repeat' (first | with_reducible exact Ext.refl _ | with_reducible assumption | with_reducible apply Ext.alloc_r | with_reducible apply Ext.drew_r | with_reducible apply Ext.drewN_r | with_reducible refine Ext.trans ?_ ‹Ext _ _›))) k1 k2 (by omega)).mono ?_
      rintro e w2 ⟨tf, rfl, f, x2⟩
      replace e0_0 := x2.cell e0_0
      replace e0_1 := x2.cell e0_1
      have hts : tf.size ≤ 1000 := by
        have h5 := fmt_le (b := B) (by omega) z1
        rw [← f, bs_length] at h5
        omega
      have HF := Lib.hid f
      go_wp2_with fail
      refine (ParseBase_yes k1 k2 (by omega) HF.out).mono ?_
      rintro e w3 ⟨sb, Ab, cb, Lb, rfl, b, x3⟩
      replace e0_0 := x3.cell e0_0
      replace e0_1 := x3.cell e0_1
      have te0_0 := fun o => (Ext.alloc w3 o).cell e0_0
      have te0_1 := fun o => (Ext.alloc w3 o).cell e0_1
      go_wp2_with fail
      clear te0_0 te0_1
      obtain ⟨w4, hw⟩ : ∃ z : World, z = (w3.alloc (.cells #[.bool sb, .slice Ab Lb cb] 25)) := ⟨_, rfl⟩
      rw [← hw]
      have x4 : Ext w3 w4 := by rw [hw]; exact Ext.alloc _ _
      have bb := box_at w3 #[.bool sb, .slice Ab Lb cb] 25
      rw [← hw] at bb
      replace e0_0 := x4.cell e0_0
      replace e0_1 := x4.cell e0_1
      have b_0 := bb.1 0 (.bool sb) rfl
      have b_1 := bb.1 1 (.slice Ab Lb cb) rfl
      clear hw bb
      go_wp2_with fail
      refine (lof4 (h1.ext (by repeat' (first | with_reducible exact Ext.refl _ | with_reducible assumption | with_reducible apply Ext.alloc_r | with_reducible apply Ext.drew_r | with_reducible apply Ext.drewN_r | with_reducible refine Ext.trans ?_ ‹Ext _ _›))) (by omega)).mono ?_
      rintro e w5 ⟨gp, Ap, cp, Lp, rfl, p, x5⟩
      replace e0_0 := x5.cell e0_0
      replace e0_1 := x5.cell e0_1
      replace b_0 := x5.cell b_0
      replace b_1 := x5.cell b_1
      go_wp2_with fail
      refine (rFormat_rz (b := B) (p.ext (by repeat' (first | with_reducible exact Ext.refl _ | with_reducible assumption | with_reducible apply Ext.alloc_r | with_reducible apply Ext.drew_r | with_reducible apply Ext.drewN_r | with_reducible refine Ext.trans ?_ ‹Ext _ _›))) k1 k2 (by rw [p.len]; exact Nat.le_trans b2 (by omega))).mono ?_
      rintro e w6 ⟨tg, rfl, g, x6⟩
      replace e0_0 := x6.cell e0_0
      replace e0_1 := x6.cell e0_1
      replace b_0 := x6.cell b_0
      replace b_1 := x6.cell b_1
      obtain rfl : tg = tf := bs_inj (g.trans HF.out.symm)
      clear g
      go_wp2_with fail
      refine (same_yes (h1.ext (by repeat' (first | with_reducible exact Ext.refl _ | with_reducible assumption | with_reducible apply Ext.alloc_r | with_reducible apply Ext.drew_r | with_reducible apply Ext.drewN_r | with_reducible refine Ext.trans ?_ ‹Ext _ _›))) (b.zv.ext (by repeat' (first | with_reducible exact Ext.refl _ | with_reducible assumption | with_reducible apply Ext.alloc_r | with_reducible apply Ext.drew_r | with_reducible apply Ext.drewN_r | with_reducible refine Ext.trans ?_ ‹Ext _ _›))) rfl).mono ?_
      rintro e w7 ⟨rfl, x7⟩
      replace e0_0 := x7.cell e0_0
      replace e0_1 := x7.cell e0_1
      replace b_0 := x7.cell b_0
      replace b_1 := x7.cell b_1
      go_wp2_with fail
      go_ret
      exact ⟨rfl, (by repeat' (first | with_reducible exact Ext.refl _ | with_reducible assumption | with_reducible apply Ext.alloc_r | with_reducible apply Ext.drew_r | with_reducible apply Ext.drewN_r | with_reducible refine Ext.trans ?_ ‹Ext _ _›))⟩
    · have hv2 := hv
      by_cases n1 : base < 2
      · skip
        go_enter Try.func9, Try.ntmps9
        go_wp2_with fail
        obtain ⟨w0, hw0⟩ : ∃ z : World, z = (w.alloc (.cells #[.bool s1, .slice A1 L1 c1] 25)) := ⟨_, rfl⟩
        rw [← hw0]
        have b0 := box_at w #[.bool s1, .slice A1 L1 c1] 25
        have hsz : w0.heap.size = w.heap.size + 1 := by rw [hw0]; simp
        rw [← hw0] at b0
        have y0 : Ext w w0 := by rw [hw0]; exact Ext.alloc _ _
        have x0 : Ext w w0 := y0
        have e0_0 := b0.1 0 (.bool s1) rfl
        have e0_1 := b0.1 1 (.slice A1 L1 c1) rfl
        clear hw0 b0 y0
        go_wp2_with fail
        refine (lawake4 _).mono ?_
        rintro e w1 ⟨rfl, x1⟩
        replace e0_0 := x1.cell e0_0
        replace e0_1 := x1.cell e0_1
        go_wp2_with fail
        refine (FormatBase_bad hv2).mono ?_
        rintro e w2 ⟨rfl, x2⟩
        replace e0_0 := x2.cell e0_0
        replace e0_1 := x2.cell e0_1
        go_wp2_with fail
        refine (ParseBase_bad hv2).mono ?_
        rintro e w3 ⟨rfl, x3⟩
        replace e0_0 := x3.cell e0_0
        replace e0_1 := x3.cell e0_1
        go_wp2_with fail
        go_ret
        exact ⟨rfl, (by repeat' (first | with_reducible exact Ext.refl _ | with_reducible assumption | with_reducible apply Ext.alloc_r | with_reducible apply Ext.drew_r | with_reducible apply Ext.drewN_r | with_reducible refine Ext.trans ?_ ‹Ext _ _›))⟩
      · have n2 : 36 < base := by omega
        go_enter Try.func9, Try.ntmps9
        go_wp2_with fail
        obtain ⟨w0, hw0⟩ : ∃ z : World, z = (w.alloc (.cells #[.bool s1, .slice A1 L1 c1] 25)) := ⟨_, rfl⟩
        rw [← hw0]
        have b0 := box_at w #[.bool s1, .slice A1 L1 c1] 25
        have hsz : w0.heap.size = w.heap.size + 1 := by rw [hw0]; simp
        rw [← hw0] at b0
        have y0 : Ext w w0 := by rw [hw0]; exact Ext.alloc _ _
        have x0 : Ext w w0 := y0
        have e0_0 := b0.1 0 (.bool s1) rfl
        have e0_1 := b0.1 1 (.slice A1 L1 c1) rfl
        clear hw0 b0 y0
        go_wp2_with fail
        refine (lawake4 _).mono ?_
        rintro e w1 ⟨rfl, x1⟩
        replace e0_0 := x1.cell e0_0
        replace e0_1 := x1.cell e0_1
        go_wp2_with fail
        refine (FormatBase_bad hv2).mono ?_
        rintro e w2 ⟨rfl, x2⟩
        replace e0_0 := x2.cell e0_0
        replace e0_1 := x2.cell e0_1
        go_wp2_with fail
        refine (ParseBase_bad hv2).mono ?_
        rintro e w3 ⟨rfl, x3⟩
        replace e0_0 := x3.cell e0_0
        replace e0_1 := x3.cell e0_1
        go_wp2_with fail
        go_ret
        exact ⟨rfl, (by repeat' (first | with_reducible exact Ext.refl _ | with_reducible assumption | with_reducible apply Ext.alloc_r | with_reducible apply Ext.drew_r | with_reducible apply Ext.drewN_r | with_reducible refine Ext.trans ?_ ‹Ext _ _›))⟩
  · have hf' : 8 < L1 := by omega
    clear hf
    go_enter Try.func9, Try.ntmps9
    go_wp2_with fail
    obtain ⟨w0, hw0⟩ : ∃ z : World, z = (w.alloc (.cells #[.bool s1, .slice A1 L1 c1] 25)) := ⟨_, rfl⟩
    rw [← hw0]
    have b0 := box_at w #[.bool s1, .slice A1 L1 c1] 25
    have hsz : w0.heap.size = w.heap.size + 1 := by rw [hw0]; simp
    rw [← hw0] at b0
    have y0 : Ext w w0 := by rw [hw0]; exact Ext.alloc _ _
    have x0 : Ext w w0 := y0
    have e0_0 := b0.1 0 (.bool s1) rfl
    have e0_1 := b0.1 1 (.slice A1 L1 c1) rfl
    clear hw0 b0 y0
    go_wp2_with fail
    refine (lawake4 _).mono ?_
    rintro e w1 ⟨rfl, x1⟩
    replace e0_0 := x1.cell e0_0
    replace e0_1 := x1.cell e0_1
    go_wp2_with fail
    refine (lawake4 _).mono ?_
    rintro e w2 ⟨rfl, x2⟩
    replace e0_0 := x2.cell e0_0
    replace e0_1 := x2.cell e0_1
    go_wp2_with fail
    go_ret
    exact ⟨rfl, (by repeat' (first | with_reducible exact Ext.refl _ | with_reducible assumption | with_reducible apply Ext.alloc_r | with_reducible apply Ext.drew_r | with_reducible apply Ext.drewN_r | with_reducible refine Ext.trans ?_ ‹Ext _ _›))⟩
end Go.Proofs.Ytjhknnioefipmaa
