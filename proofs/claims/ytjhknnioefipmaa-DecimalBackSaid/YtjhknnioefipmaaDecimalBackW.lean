/- The walk of DecimalBack. -/
import Derived.Test.YtjhknnioefipmaaLaw4
import Derived.Test.YtjhknnioefipmaaKept
import Derived.Test.YtjhknnioefipmaaRefJ
import Derived.Test.YtjhknnioefipmaaLaw4b
import Derived.Test.YtjhknnioefipmaaLaw2b
namespace Go.Proofs.Ytjhknnioefipmaa
open Go.RowKit
set_option maxHeartbeats 40000000 in
set_option maxRecDepth 100000 in
theorem decimalBack_walk {w : World} {s : ByteArray} {s1 : Bool} {A1 : Option Addr} {c1 L1 : Nat} {z1 : Int} (h1 : ZV w s1 A1 c1 L1 z1) (_hm : s.size ≤ maxLen) :
    Calls Try.prog 8 #[.agg #[.bool s1, .slice A1 L1 c1], .string s] w fun e w' => e = .returned (.bool true) ∧ Ext w w' := by
  have p1 := h1.nv.cap
  have q1 := h1.nv.le
  by_cases hf : L1 ≤ 60
  · by_cases hg : s.size ≤ 600
    · have b1 : dl z1.natAbs ≤ 60 := Nat.le_trans h1.nv.dl hf
      have b2 : bl z1.natAbs ≤ 1920 := Nat.le_trans h1.nv.bl (by omega)
      by_cases hy : ∃ x, bs s = fmtL 10 x
      · obtain ⟨x, hx⟩ := hy
        have HX := Lib.hid hx
        have hdl : dl x.natAbs ≤ 600 := Nat.le_trans (dl_of_text (b := 10) (by omega) (by omega) hx) (by omega)
        clear hx
        go_enter Try.func8, Try.ntmps8
        go_wp2_with fail
        obtain ⟨w0, hw0⟩ : ∃ z : World, z = (w.alloc (.cells #[.bool s1, .slice A1 L1 c1] 25)) := ⟨_, rfl⟩
        rw [← hw0]
        have b0 := box_at w #[.bool s1, .slice A1 L1 c1] 25
        have hsz : w0.heap.size = w.heap.size + 1 := by rw [hw0]; simp
        rw [← hw0] at b0
        have y0 : Ext w w0 := by rw [hw0]; exact Ext.alloc _ _
        have x0 : Ext w w0 := y0
        have e0_0 := b0.1 0 (.bool s1) rfl
        have e0_1 := b0.1 1 (.slice A1 L1 c1) rfl
        clear hw0 b0 y0
        go_wp2_with fail
        refine (lawake4 _).mono ?_
        rintro e w1 ⟨rfl, x1⟩
        replace e0_0 := x1.cell e0_0
        replace e0_1 := x1.cell e0_1
        go_wp2_with fail
        refine (Format_z (h1.ext (by repeat' (first | with_reducible exact Ext.refl _ | with_reducible assumption | with_reducible apply Ext.alloc_r | with_reducible apply Ext.drew_r | with_reducible apply Ext.drewN_r | with_reducible refine Ext.trans ?_ ‹Ext _ _›))) (by omega)).mono ?_
        rintro e w2 ⟨tf, rfl, f, x2⟩
        replace e0_0 := x2.cell e0_0
        replace e0_1 := x2.cell e0_1
        have hts : tf.size ≤ 2000 := by
          have h5 := fmt_le (b := 10) (by omega) z1
          rw [← f, bs_length] at h5
          omega
        have HF := Lib.hid f
        go_wp2_with fail
        refine (Parse_yes (by omega) HF.out).mono ?_
        rintro e w3 ⟨sb, Ab, cb, Lb, rfl, b, x3⟩
        replace e0_0 := x3.cell e0_0
        replace e0_1 := x3.cell e0_1
        have te0_0 := fun o => (Ext.alloc w3 o).cell e0_0
        have te0_1 := fun o => (Ext.alloc w3 o).cell e0_1
        go_wp2_with fail
        clear te0_0 te0_1
        obtain ⟨w4, hw⟩ : ∃ z : World, z = (w3.alloc (.cells #[.bool sb, .slice Ab Lb cb] 25)) := ⟨_, rfl⟩
        rw [← hw]
        have x4 : Ext w3 w4 := by rw [hw]; exact Ext.alloc _ _
        have bb := box_at w3 #[.bool sb, .slice Ab Lb cb] 25
        rw [← hw] at bb
        replace e0_0 := x4.cell e0_0
        replace e0_1 := x4.cell e0_1
        have b_0 := bb.1 0 (.bool sb) rfl
        have b_1 := bb.1 1 (.slice Ab Lb cb) rfl
        clear hw bb
        go_wp2_with fail
        refine (Parse_yes (by omega) HX.out).mono ?_
        rintro e w5 ⟨sc, Ac, cc, Lc, rfl, c, x5⟩
        replace e0_0 := x5.cell e0_0
        replace e0_1 := x5.cell e0_1
        replace b_0 := x5.cell b_0
        replace b_1 := x5.cell b_1
        have te0_0 := fun o => (Ext.alloc w5 o).cell e0_0
        have te0_1 := fun o => (Ext.alloc w5 o).cell e0_1
        have tb_0 := fun o => (Ext.alloc w5 o).cell b_0
        have tb_1 := fun o => (Ext.alloc w5 o).cell b_1
        go_wp2_with fail
        clear te0_0 te0_1 tb_0 tb_1
        obtain ⟨w6, hw⟩ : ∃ z : World, z = (w5.alloc (.cells #[.bool sc, .slice Ac Lc cc] 25)) := ⟨_, rfl⟩
        rw [← hw]
        have x6 : Ext w5 w6 := by rw [hw]; exact Ext.alloc _ _
        have bb := box_at w5 #[.bool sc, .slice Ac Lc cc] 25
        rw [← hw] at bb
        replace e0_0 := x6.cell e0_0
        replace e0_1 := x6.cell e0_1
        replace b_0 := x6.cell b_0
        replace b_1 := x6.cell b_1
        have c_0 := bb.1 0 (.bool sc) rfl
        have c_1 := bb.1 1 (.slice Ac Lc cc) rfl
        clear hw bb
        go_wp2_with fail
        refine (same_yes (h1.ext (by repeat' (first | with_reducible exact Ext.refl _ | with_reducible assumption | with_reducible apply Ext.alloc_r | with_reducible apply Ext.drew_r | with_reducible apply Ext.drewN_r | with_reducible refine Ext.trans ?_ ‹Ext _ _›))) (b.zv.ext (by repeat' (first | with_reducible exact Ext.refl _ | with_reducible assumption | with_reducible apply Ext.alloc_r | with_reducible apply Ext.drew_r | with_reducible apply Ext.drewN_r | with_reducible refine Ext.trans ?_ ‹Ext _ _›))) rfl).mono ?_
        rintro e w7 ⟨rfl, x7⟩
        replace e0_0 := x7.cell e0_0
        replace e0_1 := x7.cell e0_1
        replace b_0 := x7.cell b_0
        replace b_1 := x7.cell b_1
        replace c_0 := x7.cell c_0
        replace c_1 := x7.cell c_1
        go_wp2_with fail
        refine (Format_z (c.zv.ext (by repeat' (first | with_reducible exact Ext.refl _ | with_reducible assumption | with_reducible apply Ext.alloc_r | with_reducible apply Ext.drew_r | with_reducible apply Ext.drewN_r | with_reducible refine Ext.trans ?_ ‹Ext _ _›))) (by omega)).mono ?_
        rintro e w8 ⟨tg, rfl, g, x8⟩
        replace e0_0 := x8.cell e0_0
        replace e0_1 := x8.cell e0_1
        replace b_0 := x8.cell b_0
        replace b_1 := x8.cell b_1
        replace c_0 := x8.cell c_0
        replace c_1 := x8.cell c_1
        obtain rfl : tg = s := bs_inj (g.trans HX.out.symm)
        clear g
        go_wp2_with fail
        go_ret
        exact ⟨rfl, (by repeat' (first | with_reducible exact Ext.refl _ | with_reducible assumption | with_reducible apply Ext.alloc_r | with_reducible apply Ext.drew_r | with_reducible apply Ext.drewN_r | with_reducible refine Ext.trans ?_ ‹Ext _ _›))⟩
      · have HX : Hid (∀ x, bs s ≠ fmtL 10 x) := fun x h => hy ⟨x, h⟩
        clear hy
        go_enter Try.func8, Try.ntmps8
        go_wp2_with fail
        obtain ⟨w0, hw0⟩ : ∃ z : World, z = (w.alloc (.cells #[.bool s1, .slice A1 L1 c1] 25)) := ⟨_, rfl⟩
        rw [← hw0]
        have b0 := box_at w #[.bool s1, .slice A1 L1 c1] 25
        have hsz : w0.heap.size = w.heap.size + 1 := by rw [hw0]; simp
        rw [← hw0] at b0
        have y0 : Ext w w0 := by rw [hw0]; exact Ext.alloc _ _
        have x0 : Ext w w0 := y0
        have e0_0 := b0.1 0 (.bool s1) rfl
        have e0_1 := b0.1 1 (.slice A1 L1 c1) rfl
        clear hw0 b0 y0
        go_wp2_with fail
        refine (lawake4 _).mono ?_
        rintro e w1 ⟨rfl, x1⟩
        replace e0_0 := x1.cell e0_0
        replace e0_1 := x1.cell e0_1
        go_wp2_with fail
        refine (Format_z (h1.ext (by repeat' (first | with_reducible exact Ext.refl _ | with_reducible assumption | with_reducible apply Ext.alloc_r | with_reducible apply Ext.drew_r | with_reducible apply Ext.drewN_r | with_reducible refine Ext.trans ?_ ‹Ext _ _›))) (by omega)).mono ?_
        rintro e w2 ⟨tf, rfl, f, x2⟩
        replace e0_0 := x2.cell e0_0
        replace e0_1 := x2.cell e0_1
        have hts : tf.size ≤ 2000 := by
          have h5 := fmt_le (b := 10) (by omega) z1
          rw [← f, bs_length] at h5
          omega
        have HF := Lib.hid f
        go_wp2_with fail
        refine (Parse_yes (by omega) HF.out).mono ?_
        rintro e w3 ⟨sb, Ab, cb, Lb, rfl, b, x3⟩
        replace e0_0 := x3.cell e0_0
        replace e0_1 := x3.cell e0_1
        have te0_0 := fun o => (Ext.alloc w3 o).cell e0_0
        have te0_1 := fun o => (Ext.alloc w3 o).cell e0_1
        go_wp2_with fail
        clear te0_0 te0_1
        obtain ⟨w4, hw⟩ : ∃ z : World, z = (w3.alloc (.cells #[.bool sb, .slice Ab Lb cb] 25)) := ⟨_, rfl⟩
        rw [← hw]
        have x4 : Ext w3 w4 := by rw [hw]; exact Ext.alloc _ _
        have bb := box_at w3 #[.bool sb, .slice Ab Lb cb] 25
        rw [← hw] at bb
        replace e0_0 := x4.cell e0_0
        replace e0_1 := x4.cell e0_1
        have b_0 := bb.1 0 (.bool sb) rfl
        have b_1 := bb.1 1 (.slice Ab Lb cb) rfl
        clear hw bb
        go_wp2_with fail
        refine (Parse_no (by omega) HX.out).mono ?_
        rintro e w5 ⟨rfl, x5⟩
        replace e0_0 := x5.cell e0_0
        replace e0_1 := x5.cell e0_1
        replace b_0 := x5.cell b_0
        replace b_1 := x5.cell b_1
        have te0_0 := fun o => (Ext.alloc w5 o).cell e0_0
        have te0_1 := fun o => (Ext.alloc w5 o).cell e0_1
        have tb_0 := fun o => (Ext.alloc w5 o).cell b_0
        have tb_1 := fun o => (Ext.alloc w5 o).cell b_1
        go_wp2_with fail
        clear te0_0 te0_1 tb_0 tb_1
        obtain ⟨w6, hw⟩ : ∃ z : World, z = (w5.alloc (.cells #[.bool false, .slice none 0 0] 25)) := ⟨_, rfl⟩
        rw [← hw]
        have x6 : Ext w5 w6 := by rw [hw]; exact Ext.alloc _ _
        have bb := box_at w5 #[.bool false, .slice none 0 0] 25
        rw [← hw] at bb
        replace e0_0 := x6.cell e0_0
        replace e0_1 := x6.cell e0_1
        replace b_0 := x6.cell b_0
        replace b_1 := x6.cell b_1
        have c_0 := bb.1 0 (.bool false) rfl
        have c_1 := bb.1 1 (.slice none 0 0) rfl
        clear hw bb
        go_wp2_with fail
        refine (same_yes (h1.ext (by repeat' (first | with_reducible exact Ext.refl _ | with_reducible assumption | with_reducible apply Ext.alloc_r | with_reducible apply Ext.drew_r | with_reducible apply Ext.drewN_r | with_reducible refine Ext.trans ?_ ‹Ext _ _›))) (b.zv.ext (by repeat' (first | with_reducible exact Ext.refl _ | with_reducible assumption | with_reducible apply Ext.alloc_r | with_reducible apply Ext.drew_r | with_reducible apply Ext.drewN_r | with_reducible refine Ext.trans ?_ ‹Ext _ _›))) rfl).mono ?_
        rintro e w7 ⟨rfl, x7⟩
        replace e0_0 := x7.cell e0_0
        replace e0_1 := x7.cell e0_1
        replace b_0 := x7.cell b_0
        replace b_1 := x7.cell b_1
        replace c_0 := x7.cell c_0
        replace c_1 := x7.cell c_1
        go_wp2_with fail
        go_ret
        exact ⟨rfl, (by repeat' (first | with_reducible exact Ext.refl _ | with_reducible assumption | with_reducible apply Ext.alloc_r | with_reducible apply Ext.drew_r | with_reducible apply Ext.drewN_r | with_reducible refine Ext.trans ?_ ‹Ext _ _›))⟩
    · have hg' : 600 < s.size := by omega
      clear hg
      go_enter Try.func8, Try.ntmps8
      go_wp2_with fail
      obtain ⟨w0, hw0⟩ : ∃ z : World, z = (w.alloc (.cells #[.bool s1, .slice A1 L1 c1] 25)) := ⟨_, rfl⟩
      rw [← hw0]
      have b0 := box_at w #[.bool s1, .slice A1 L1 c1] 25
      have hsz : w0.heap.size = w.heap.size + 1 := by rw [hw0]; simp
      rw [← hw0] at b0
      have y0 : Ext w w0 := by rw [hw0]; exact Ext.alloc _ _
      have x0 : Ext w w0 := y0
      have e0_0 := b0.1 0 (.bool s1) rfl
      have e0_1 := b0.1 1 (.slice A1 L1 c1) rfl
      clear hw0 b0 y0
      go_wp2_with fail
      refine (lawake4 _).mono ?_
      rintro e w1 ⟨rfl, x1⟩
      replace e0_0 := x1.cell e0_0
      replace e0_1 := x1.cell e0_1
      go_wp2_with fail
      refine (lawake4 _).mono ?_
      rintro e w2 ⟨rfl, x2⟩
      replace e0_0 := x2.cell e0_0
      replace e0_1 := x2.cell e0_1
      go_wp2_with fail
      go_ret
      exact ⟨rfl, (by repeat' (first | with_reducible exact Ext.refl _ | with_reducible assumption | with_reducible apply Ext.alloc_r | with_reducible apply Ext.drew_r | with_reducible apply Ext.drewN_r | with_reducible refine Ext.trans ?_ ‹Ext _ _›))⟩
  · have hf' : 60 < L1 := by omega
    clear hf
    go_enter Try.func8, Try.ntmps8
    go_wp2_with fail
    obtain ⟨w0, hw0⟩ : ∃ z : World, z = (w.alloc (.cells #[.bool s1, .slice A1 L1 c1] 25)) := ⟨_, rfl⟩
    rw [← hw0]
    have b0 := box_at w #[.bool s1, .slice A1 L1 c1] 25
    have hsz : w0.heap.size = w.heap.size + 1 := by rw [hw0]; simp
    rw [← hw0] at b0
    have y0 : Ext w w0 := by rw [hw0]; exact Ext.alloc _ _
    have x0 : Ext w w0 := y0
    have e0_0 := b0.1 0 (.bool s1) rfl
    have e0_1 := b0.1 1 (.slice A1 L1 c1) rfl
    clear hw0 b0 y0
    go_wp2_with fail
    refine (lawake4 _).mono ?_
    rintro e w1 ⟨rfl, x1⟩
    replace e0_0 := x1.cell e0_0
    replace e0_1 := x1.cell e0_1
    go_wp2_with fail
    refine (lawake4 _).mono ?_
    rintro e w2 ⟨rfl, x2⟩
    replace e0_0 := x2.cell e0_0
    replace e0_1 := x2.cell e0_1
    go_wp2_with fail
    go_ret
    exact ⟨rfl, (by repeat' (first | with_reducible exact Ext.refl _ | with_reducible assumption | with_reducible apply Ext.alloc_r | with_reducible apply Ext.drew_r | with_reducible apply Ext.drewN_r | with_reducible refine Ext.trans ?_ ‹Ext _ _›))⟩
end Go.Proofs.Ytjhknnioefipmaa
