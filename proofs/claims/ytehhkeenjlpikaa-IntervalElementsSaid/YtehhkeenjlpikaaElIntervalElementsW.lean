/- The walk of IntervalElements. -/
import Derived.Test.YtehhkeenjlpikaaElLaw6
import Derived.Test.YtehhkeenjlpikaaElClamp
import Derived.Test.YtehhkeenjlpikaaElIvD
import Derived.Test.YtehhkeenjlpikaaElIvE
import Derived.Test.YtehhkeenjlpikaaElIvF
import Derived.Test.YtehhkeenjlpikaaOpenV
import Derived.Test.YtehhkeenjlpikaaElPutI
namespace Go.Proofs.Ytehhkeenjlpikaa
open Go.RowKit
theorem el_add {x y a b c d : Rat} (hx : inI x a b) (hy : inI y c d) : inI (x + y) (minQ a b + minQ c d) (maxQ a b + maxQ c d) := inI_of_le (add_in hx hy).1 (add_in hx hy).2
theorem mul_self1 {a : Int} (h : a ≠ 0) (hb : a = -1 ∨ a = 0 ∨ a = 1) : a * a = 1 := by
  rcases hb with rfl | rfl | rfl
  · rfl
  · exact absurd rfl h
  · rfl
theorem el_sign {c d : Rat} (h : c.num.sign = d.num.sign) (h0 : c.num.sign ≠ 0) : 0 < c * d := by
  have h1 := num_sign_mul c d
  rw [← h] at h1
  have hb := sign_bd c.num
  rw [mul_self1 h0 (by omega)] at h1
  have h3 : 0 < (c * d).num := Int.sign_eq_one_iff_pos.1 h1
  rw [Rat.lt_iff]
  show (0 : Int) * _ < _ * (1 : Int)
  rw [Int.zero_mul, Int.mul_one]
  exact h3
theorem el_ne {y c d : Rat} (hy : inI y c d) (h : c.num.sign = d.num.sign) (h0 : c.num.sign ≠ 0) : y ≠ 0 := by
  have hp := el_sign h h0
  rintro rfl
  obtain ⟨h1, h2⟩ := hy
  rcases min_max c d with ⟨e1, e2⟩ | ⟨e1, e2⟩ <;> rw [e1] at h1 <;> rw [e2] at h2
  · have := mul_nn (a := -c) (b := d) (by grind) h2
    grind
  · have := mul_nn (a := c) (b := -d) h2 (by grind)
    grind
theorem el_quo {x y a b c d : Rat} (hx : inI x a b) (hy : inI y c d) (h : c.num.sign = d.num.sign) (h0 : c.num.sign ≠ 0) : inI (x / y) (mlo a b (1 / c) (1 / d)) (mhi a b (1 / c) (1 / d)) := by
  rw [Rat.div_def, Rat.div_def, Rat.div_def, Rat.one_mul, Rat.one_mul]
  exact mul_inM hx (inv_in hy (el_sign h h0))
theorem el_sub {x y a b c d : Rat} (hx : inI x a b) (hy : inI y c d) : inI (x - y) (minQ a b - maxQ c d) (maxQ a b - minQ c d) := by
  refine inI_of_le ?_ ?_ <;> (unfold inI at *; grind)
set_option maxHeartbeats 40000000 in
set_option maxRecDepth 100000 in
theorem intervalElements_walk {w : World} {s1 : Bool} {A1 B1 : Option Addr} {c1 L1 d1 M1 : Nat} {x1 : Int} {y1 : Nat} {s2 : Bool} {A2 B2 : Option Addr} {c2 L2 d2 M2 : Nat} {x2 : Int} {y2 : Nat} {s3 : Bool} {A3 B3 : Option Addr} {c3 L3 d3 M3 : Nat} {x3 : Int} {y3 : Nat} {s4 : Bool} {A4 B4 : Option Addr} {c4 L4 d4 M4 : Nat} {x4 : Int} {y4 : Nat} {s5 : Bool} {A5 B5 : Option Addr} {c5 L5 d5 M5 : Nat} {x5 : Int} {y5 : Nat} {s6 : Bool} {A6 B6 : Option Addr} {c6 L6 d6 M6 : Nat} {x6 : Int} {y6 : Nat} (h1 : RW w s1 A1 c1 L1 B1 d1 M1 x1 y1) (h2 : RW w s2 A2 c2 L2 B2 d2 M2 x2 y2) (h3 : RW w s3 A3 c3 L3 B3 d3 M3 x3 y3) (h4 : RW w s4 A4 c4 L4 B4 d4 M4 x4 y4) (h5 : RW w s5 A5 c5 L5 B5 d5 M5 x5 y5) (h6 : RW w s6 A6 c6 L6 B6 d6 M6 x6 y6) :
    Calls Try.prog 3 #[Value.agg #[Value.bool s1, Value.slice A1 L1 c1, Value.slice B1 M1 d1, Value.bool s2, Value.slice A2 L2 c2, Value.slice B2 M2 d2], Value.agg #[Value.bool s3, Value.slice A3 L3 c3, Value.slice B3 M3 d3, Value.bool s4, Value.slice A4 L4 c4, Value.slice B4 M4 d4], Value.agg #[Value.bool s5, Value.slice A5 L5 c5, Value.slice B5 M5 d5, Value.bool s6, Value.slice A6 L6 c6, Value.slice B6 M6 d6]] w fun e w' => e = .returned (.bool true) ∧ Ext w w' := by
  have pa1 := h1.num.nv.cap
  have pb1 := h1.den.cap
  have qa1 := h1.num.nv.le
  have qb1 := h1.den.le
  have pa2 := h2.num.nv.cap
  have pb2 := h2.den.cap
  have qa2 := h2.num.nv.le
  have qb2 := h2.den.le
  have pa3 := h3.num.nv.cap
  have pb3 := h3.den.cap
  have qa3 := h3.num.nv.le
  have qb3 := h3.den.le
  have pa4 := h4.num.nv.cap
  have pb4 := h4.den.cap
  have qa4 := h4.num.nv.le
  have qb4 := h4.den.le
  have pa5 := h5.num.nv.cap
  have pb5 := h5.den.cap
  have qa5 := h5.num.nv.le
  have qb5 := h5.den.le
  have pa6 := h6.num.nv.cap
  have pb6 := h6.den.cap
  have qa6 := h6.num.nv.le
  have qb6 := h6.den.le
  by_cases hf : L1 ≤ 3 ∧ M1 ≤ 3 ∧ L2 ≤ 3 ∧ M2 ≤ 3 ∧ L3 ≤ 3 ∧ M3 ≤ 3 ∧ L4 ≤ 3 ∧ M4 ≤ 3
  · by_cases hg5 : (decide (L5 ≤ 3) && decide (M5 ≤ 3)) = true
    · by_cases hg6 : (decide (L6 ≤ 3) && decide (M6 ≤ 3)) = true
      · have hm5 : L5 ≤ 3 ∧ M5 ≤ 3 := by simpa using hg5
        have hm6 : L6 ≤ 3 ∧ M6 ≤ 3 := by simpa using hg6
        have HF := Lib.hid hf
        have HG5 := Lib.hid hg5
        have HG6 := Lib.hid hg6
        have e1 := h1.rv (N := 3) (by omega) (by omega) (by omega)
        have e2 := h2.rv (N := 3) (by omega) (by omega) (by omega)
        have e3 := h3.rv (N := 3) (by omega) (by omega) (by omega)
        have e4 := h4.rv (N := 3) (by omega) (by omega) (by omega)
        have e5 := h5.rv (N := 3) (by omega) (by omega) (by omega)
        have e6 := h6.rv (N := 3) (by omega) (by omega) (by omega)
        generalize mkRat x1 y1 = q1 at *
        generalize mkRat x2 y2 = q2 at *
        generalize mkRat x3 y3 = q3 at *
        generalize mkRat x4 y4 = q4 at *
        generalize mkRat x5 y5 = q5 at *
        generalize mkRat x6 y6 = q6 at *
        clear hf hg5 hg6 hm5 hm6 h1 h2 h3 h4 h5 h6
        go_enter Try.func3, Try.ntmps3
        go_wp2_with fail
        obtain ⟨w0, hw0⟩ : ∃ z : World, z = (((w.alloc (.cells #[.bool s1, .slice A1 L1 c1, .slice B1 M1 d1, .bool s2, .slice A2 L2 c2, .slice B2 M2 d2] 29)).alloc (.cells #[.bool s3, .slice A3 L3 c3, .slice B3 M3 d3, .bool s4, .slice A4 L4 c4, .slice B4 M4 d4] 29)).alloc (.cells #[.bool s5, .slice A5 L5 c5, .slice B5 M5 d5, .bool s6, .slice A6 L6 c6, .slice B6 M6 d6] 30)) := ⟨_, rfl⟩
        rw [← hw0]
        have b0 := box_at w #[.bool s1, .slice A1 L1 c1, .slice B1 M1 d1, .bool s2, .slice A2 L2 c2, .slice B2 M2 d2] 29
        have b1 := box_at (w.alloc (.cells #[.bool s1, .slice A1 L1 c1, .slice B1 M1 d1, .bool s2, .slice A2 L2 c2, .slice B2 M2 d2] 29)) #[.bool s3, .slice A3 L3 c3, .slice B3 M3 d3, .bool s4, .slice A4 L4 c4, .slice B4 M4 d4] 29
        have b2 := box_at ((w.alloc (.cells #[.bool s1, .slice A1 L1 c1, .slice B1 M1 d1, .bool s2, .slice A2 L2 c2, .slice B2 M2 d2] 29)).alloc (.cells #[.bool s3, .slice A3 L3 c3, .slice B3 M3 d3, .bool s4, .slice A4 L4 c4, .slice B4 M4 d4] 29)) #[.bool s5, .slice A5 L5 c5, .slice B5 M5 d5, .bool s6, .slice A6 L6 c6, .slice B6 M6 d6] 30
        have hsz : w0.heap.size = w.heap.size + 1 + 1 + 1 := by rw [hw0]; simp
        rw [← hw0] at b2
        have y2 : Ext ((w.alloc (.cells #[.bool s1, .slice A1 L1 c1, .slice B1 M1 d1, .bool s2, .slice A2 L2 c2, .slice B2 M2 d2] 29)).alloc (.cells #[.bool s3, .slice A3 L3 c3, .slice B3 M3 d3, .bool s4, .slice A4 L4 c4, .slice B4 M4 d4] 29)) w0 := by rw [hw0]; exact Ext.alloc _ _
        have y1 : Ext (w.alloc (.cells #[.bool s1, .slice A1 L1 c1, .slice B1 M1 d1, .bool s2, .slice A2 L2 c2, .slice B2 M2 d2] 29)) w0 := (Ext.alloc _ _).trans y2
        have y0 : Ext w w0 := (Ext.alloc _ _).trans y1
        have x0 : Ext w w0 := y0
        have e0_0 := y1.cell (b0.1 0 (.bool s1) rfl)
        have e0_1 := y1.cell (b0.1 1 (.slice A1 L1 c1) rfl)
        have e0_2 := y1.cell (b0.1 2 (.slice B1 M1 d1) rfl)
        have e0_3 := y1.cell (b0.1 3 (.bool s2) rfl)
        have e0_4 := y1.cell (b0.1 4 (.slice A2 L2 c2) rfl)
        have e0_5 := y1.cell (b0.1 5 (.slice B2 M2 d2) rfl)
        have e1_0 := y2.cell (b1.1 0 (.bool s3) rfl)
        have e1_1 := y2.cell (b1.1 1 (.slice A3 L3 c3) rfl)
        have e1_2 := y2.cell (b1.1 2 (.slice B3 M3 d3) rfl)
        have e1_3 := y2.cell (b1.1 3 (.bool s4) rfl)
        have e1_4 := y2.cell (b1.1 4 (.slice A4 L4 c4) rfl)
        have e1_5 := y2.cell (b1.1 5 (.slice B4 M4 d4) rfl)
        have e2_0 := b2.1 0 (.bool s5) rfl
        have e2_1 := b2.1 1 (.slice A5 L5 c5) rfl
        have e2_2 := b2.1 2 (.slice B5 M5 d5) rfl
        have e2_3 := b2.1 3 (.bool s6) rfl
        have e2_4 := b2.1 4 (.slice A6 L6 c6) rfl
        have e2_5 := b2.1 5 (.slice B6 M6 d6) rfl
        simp only [World.size_alloc] at e1_0 e1_1 e1_2 e1_3 e1_4 e1_5 e2_0 e2_1 e2_2 e2_3 e2_4 e2_5
        clear hw0 b0 b1 b2 y0 y1 y2
        go_wp2_with fail
        refine (awake6 _).mono ?_
        rintro e w1 ⟨rfl, x1⟩
        replace e0_0 := x1.cell e0_0
        replace e0_1 := x1.cell e0_1
        replace e0_2 := x1.cell e0_2
        replace e0_3 := x1.cell e0_3
        replace e0_4 := x1.cell e0_4
        replace e0_5 := x1.cell e0_5
        replace e1_0 := x1.cell e1_0
        replace e1_1 := x1.cell e1_1
        replace e1_2 := x1.cell e1_2
        replace e1_3 := x1.cell e1_3
        replace e1_4 := x1.cell e1_4
        replace e1_5 := x1.cell e1_5
        replace e2_0 := x1.cell e2_0
        replace e2_1 := x1.cell e2_1
        replace e2_2 := x1.cell e2_2
        replace e2_3 := x1.cell e2_3
        replace e2_4 := x1.cell e2_4
        replace e2_5 := x1.cell e2_5
        go_wp2_with fail
        refine (few6_yes (by omega) (by omega) (by omega) (by omega) (by omega) (by omega) (by omega) (by omega) HF.out).mono ?_
        rintro e w2 ⟨rfl, x2⟩
        replace e0_0 := x2.cell e0_0
        replace e0_1 := x2.cell e0_1
        replace e0_2 := x2.cell e0_2
        replace e0_3 := x2.cell e0_3
        replace e0_4 := x2.cell e0_4
        replace e0_5 := x2.cell e0_5
        replace e1_0 := x2.cell e1_0
        replace e1_1 := x2.cell e1_1
        replace e1_2 := x2.cell e1_2
        replace e1_3 := x2.cell e1_3
        replace e1_4 := x2.cell e1_4
        replace e1_5 := x2.cell e1_5
        replace e2_0 := x2.cell e2_0
        replace e2_1 := x2.cell e2_1
        replace e2_2 := x2.cell e2_2
        replace e2_3 := x2.cell e2_3
        replace e2_4 := x2.cell e2_4
        replace e2_5 := x2.cell e2_5
        go_wp2_with fail
        refine (small_is (by omega) (by omega) HG5.out).mono ?_
        rintro e w3 ⟨rfl, x3⟩
        replace e0_0 := x3.cell e0_0
        replace e0_1 := x3.cell e0_1
        replace e0_2 := x3.cell e0_2
        replace e0_3 := x3.cell e0_3
        replace e0_4 := x3.cell e0_4
        replace e0_5 := x3.cell e0_5
        replace e1_0 := x3.cell e1_0
        replace e1_1 := x3.cell e1_1
        replace e1_2 := x3.cell e1_2
        replace e1_3 := x3.cell e1_3
        replace e1_4 := x3.cell e1_4
        replace e1_5 := x3.cell e1_5
        replace e2_0 := x3.cell e2_0
        replace e2_1 := x3.cell e2_1
        replace e2_2 := x3.cell e2_2
        replace e2_3 := x3.cell e2_3
        replace e2_4 := x3.cell e2_4
        replace e2_5 := x3.cell e2_5
        go_wp2_with fail
        refine (small_is (by omega) (by omega) HG6.out).mono ?_
        rintro e w4 ⟨rfl, x4⟩
        replace e0_0 := x4.cell e0_0
        replace e0_1 := x4.cell e0_1
        replace e0_2 := x4.cell e0_2
        replace e0_3 := x4.cell e0_3
        replace e0_4 := x4.cell e0_4
        replace e0_5 := x4.cell e0_5
        replace e1_0 := x4.cell e1_0
        replace e1_1 := x4.cell e1_1
        replace e1_2 := x4.cell e1_2
        replace e1_3 := x4.cell e1_3
        replace e1_4 := x4.cell e1_4
        replace e1_5 := x4.cell e1_5
        replace e2_0 := x4.cell e2_0
        replace e2_1 := x4.cell e2_1
        replace e2_2 := x4.cell e2_2
        replace e2_3 := x4.cell e2_3
        replace e2_4 := x4.cell e2_4
        replace e2_5 := x4.cell e2_5
        clear hsz HF HG5 HG6
        have hX := clampQ_in q1 q2 q5
        have hY := clampQ_in q3 q4 q6
        go_wp2_with fail
        refine (clamp_r (e1.ext (by repeat' (first | with_reducible exact Ext.refl _ | with_reducible assumption | with_reducible apply Ext.alloc_r | with_reducible apply Ext.drew_r | with_reducible apply Ext.drewN_r | with_reducible refine Ext.trans ?_ ‹Ext _ _›))) (e2.ext (by repeat' (first | with_reducible exact Ext.refl _ | with_reducible assumption | with_reducible apply Ext.alloc_r | with_reducible apply Ext.drew_r | with_reducible apply Ext.drewN_r | with_reducible refine Ext.trans ?_ ‹Ext _ _›))) (e5.ext (by repeat' (first | with_reducible exact Ext.refl _ | with_reducible assumption | with_reducible apply Ext.alloc_r | with_reducible apply Ext.drew_r | with_reducible apply Ext.drewN_r | with_reducible refine Ext.trans ?_ ‹Ext _ _›))) (by omega)).mono ?_
        rintro e w5 ⟨ska, Aka, cka, Lka, Bka, dka, Mka, rfl, ka, x5⟩
        replace e0_0 := x5.cell e0_0
        replace e0_1 := x5.cell e0_1
        replace e0_2 := x5.cell e0_2
        replace e0_3 := x5.cell e0_3
        replace e0_4 := x5.cell e0_4
        replace e0_5 := x5.cell e0_5
        replace e1_0 := x5.cell e1_0
        replace e1_1 := x5.cell e1_1
        replace e1_2 := x5.cell e1_2
        replace e1_3 := x5.cell e1_3
        replace e1_4 := x5.cell e1_4
        replace e1_5 := x5.cell e1_5
        replace e2_0 := x5.cell e2_0
        replace e2_1 := x5.cell e2_1
        replace e2_2 := x5.cell e2_2
        replace e2_3 := x5.cell e2_3
        replace e2_4 := x5.cell e2_4
        replace e2_5 := x5.cell e2_5
        generalize clampQ q1 q2 q5 = X at *
        have HKA := Lib.hid ka
        clear ka
        have te0_0 := fun o => (Ext.alloc w5 o).cell e0_0
        have te0_1 := fun o => (Ext.alloc w5 o).cell e0_1
        have te0_2 := fun o => (Ext.alloc w5 o).cell e0_2
        have te0_3 := fun o => (Ext.alloc w5 o).cell e0_3
        have te0_4 := fun o => (Ext.alloc w5 o).cell e0_4
        have te0_5 := fun o => (Ext.alloc w5 o).cell e0_5
        have te1_0 := fun o => (Ext.alloc w5 o).cell e1_0
        have te1_1 := fun o => (Ext.alloc w5 o).cell e1_1
        have te1_2 := fun o => (Ext.alloc w5 o).cell e1_2
        have te1_3 := fun o => (Ext.alloc w5 o).cell e1_3
        have te1_4 := fun o => (Ext.alloc w5 o).cell e1_4
        have te1_5 := fun o => (Ext.alloc w5 o).cell e1_5
        have te2_0 := fun o => (Ext.alloc w5 o).cell e2_0
        have te2_1 := fun o => (Ext.alloc w5 o).cell e2_1
        have te2_2 := fun o => (Ext.alloc w5 o).cell e2_2
        have te2_3 := fun o => (Ext.alloc w5 o).cell e2_3
        have te2_4 := fun o => (Ext.alloc w5 o).cell e2_4
        have te2_5 := fun o => (Ext.alloc w5 o).cell e2_5
        go_wp2_with fail
        clear te0_0 te0_1 te0_2 te0_3 te0_4 te0_5 te1_0 te1_1 te1_2 te1_3 te1_4 te1_5 te2_0 te2_1 te2_2 te2_3 te2_4 te2_5
        obtain ⟨w6, hw⟩ : ∃ z : World, z = (w5.alloc (.cells #[.bool ska, .slice Aka Lka cka, .slice Bka Mka dka] 27)) := ⟨_, rfl⟩
        rw [← hw]
        have x6 : Ext w5 w6 := by rw [hw]; exact Ext.alloc _ _
        have bb := box_at w5 #[.bool ska, .slice Aka Lka cka, .slice Bka Mka dka] 27
        rw [← hw] at bb
        replace e0_0 := x6.cell e0_0
        replace e0_1 := x6.cell e0_1
        replace e0_2 := x6.cell e0_2
        replace e0_3 := x6.cell e0_3
        replace e0_4 := x6.cell e0_4
        replace e0_5 := x6.cell e0_5
        replace e1_0 := x6.cell e1_0
        replace e1_1 := x6.cell e1_1
        replace e1_2 := x6.cell e1_2
        replace e1_3 := x6.cell e1_3
        replace e1_4 := x6.cell e1_4
        replace e1_5 := x6.cell e1_5
        replace e2_0 := x6.cell e2_0
        replace e2_1 := x6.cell e2_1
        replace e2_2 := x6.cell e2_2
        replace e2_3 := x6.cell e2_3
        replace e2_4 := x6.cell e2_4
        replace e2_5 := x6.cell e2_5
        have ka__0 := bb.1 0 (.bool ska) rfl
        have ka__1 := bb.1 1 (.slice Aka Lka cka) rfl
        have ka__2 := bb.1 2 (.slice Bka Mka dka) rfl
        clear hw bb
        go_wp2_with fail
        refine (clamp_r (e3.ext (by repeat' (first | with_reducible exact Ext.refl _ | with_reducible assumption | with_reducible apply Ext.alloc_r | with_reducible apply Ext.drew_r | with_reducible apply Ext.drewN_r | with_reducible refine Ext.trans ?_ ‹Ext _ _›))) (e4.ext (by repeat' (first | with_reducible exact Ext.refl _ | with_reducible assumption | with_reducible apply Ext.alloc_r | with_reducible apply Ext.drew_r | with_reducible apply Ext.drewN_r | with_reducible refine Ext.trans ?_ ‹Ext _ _›))) (e6.ext (by repeat' (first | with_reducible exact Ext.refl _ | with_reducible assumption | with_reducible apply Ext.alloc_r | with_reducible apply Ext.drew_r | with_reducible apply Ext.drewN_r | with_reducible refine Ext.trans ?_ ‹Ext _ _›))) (by omega)).mono ?_
        rintro e w7 ⟨skb, Akb, ckb, Lkb, Bkb, dkb, Mkb, rfl, kb, x7⟩
        replace e0_0 := x7.cell e0_0
        replace e0_1 := x7.cell e0_1
        replace e0_2 := x7.cell e0_2
        replace e0_3 := x7.cell e0_3
        replace e0_4 := x7.cell e0_4
        replace e0_5 := x7.cell e0_5
        replace e1_0 := x7.cell e1_0
        replace e1_1 := x7.cell e1_1
        replace e1_2 := x7.cell e1_2
        replace e1_3 := x7.cell e1_3
        replace e1_4 := x7.cell e1_4
        replace e1_5 := x7.cell e1_5
        replace e2_0 := x7.cell e2_0
        replace e2_1 := x7.cell e2_1
        replace e2_2 := x7.cell e2_2
        replace e2_3 := x7.cell e2_3
        replace e2_4 := x7.cell e2_4
        replace e2_5 := x7.cell e2_5
        replace ka__0 := x7.cell ka__0
        replace ka__1 := x7.cell ka__1
        replace ka__2 := x7.cell ka__2
        generalize clampQ q3 q4 q6 = Y at *
        have HKB := Lib.hid kb
        clear kb
        have te0_0 := fun o => (Ext.alloc w7 o).cell e0_0
        have te0_1 := fun o => (Ext.alloc w7 o).cell e0_1
        have te0_2 := fun o => (Ext.alloc w7 o).cell e0_2
        have te0_3 := fun o => (Ext.alloc w7 o).cell e0_3
        have te0_4 := fun o => (Ext.alloc w7 o).cell e0_4
        have te0_5 := fun o => (Ext.alloc w7 o).cell e0_5
        have te1_0 := fun o => (Ext.alloc w7 o).cell e1_0
        have te1_1 := fun o => (Ext.alloc w7 o).cell e1_1
        have te1_2 := fun o => (Ext.alloc w7 o).cell e1_2
        have te1_3 := fun o => (Ext.alloc w7 o).cell e1_3
        have te1_4 := fun o => (Ext.alloc w7 o).cell e1_4
        have te1_5 := fun o => (Ext.alloc w7 o).cell e1_5
        have te2_0 := fun o => (Ext.alloc w7 o).cell e2_0
        have te2_1 := fun o => (Ext.alloc w7 o).cell e2_1
        have te2_2 := fun o => (Ext.alloc w7 o).cell e2_2
        have te2_3 := fun o => (Ext.alloc w7 o).cell e2_3
        have te2_4 := fun o => (Ext.alloc w7 o).cell e2_4
        have te2_5 := fun o => (Ext.alloc w7 o).cell e2_5
        have tka__0 := fun o => (Ext.alloc w7 o).cell ka__0
        have tka__1 := fun o => (Ext.alloc w7 o).cell ka__1
        have tka__2 := fun o => (Ext.alloc w7 o).cell ka__2
        go_wp2_with fail
        clear te0_0 te0_1 te0_2 te0_3 te0_4 te0_5 te1_0 te1_1 te1_2 te1_3 te1_4 te1_5 te2_0 te2_1 te2_2 te2_3 te2_4 te2_5 tka__0 tka__1 tka__2
        obtain ⟨w8, hw⟩ : ∃ z : World, z = (w7.alloc (.cells #[.bool skb, .slice Akb Lkb ckb, .slice Bkb Mkb dkb] 27)) := ⟨_, rfl⟩
        rw [← hw]
        have x8 : Ext w7 w8 := by rw [hw]; exact Ext.alloc _ _
        have bb := box_at w7 #[.bool skb, .slice Akb Lkb ckb, .slice Bkb Mkb dkb] 27
        rw [← hw] at bb
        replace e0_0 := x8.cell e0_0
        replace e0_1 := x8.cell e0_1
        replace e0_2 := x8.cell e0_2
        replace e0_3 := x8.cell e0_3
        replace e0_4 := x8.cell e0_4
        replace e0_5 := x8.cell e0_5
        replace e1_0 := x8.cell e1_0
        replace e1_1 := x8.cell e1_1
        replace e1_2 := x8.cell e1_2
        replace e1_3 := x8.cell e1_3
        replace e1_4 := x8.cell e1_4
        replace e1_5 := x8.cell e1_5
        replace e2_0 := x8.cell e2_0
        replace e2_1 := x8.cell e2_1
        replace e2_2 := x8.cell e2_2
        replace e2_3 := x8.cell e2_3
        replace e2_4 := x8.cell e2_4
        replace e2_5 := x8.cell e2_5
        replace ka__0 := x8.cell ka__0
        replace ka__1 := x8.cell ka__1
        replace ka__2 := x8.cell ka__2
        have kb__0 := bb.1 0 (.bool skb) rfl
        have kb__1 := bb.1 1 (.slice Akb Lkb ckb) rfl
        have kb__2 := bb.1 2 (.slice Bkb Mkb dkb) rfl
        clear hw bb
        have ka := HKA.out
        have kb := HKB.out
        have C1 : Hid (decide (inI (X + Y) (minQ q1 q2 + minQ q3 q4) (maxQ q1 q2 + maxQ q3 q4)) = true) := decide_eq_true (el_add hX hY)
        have C2 : Hid (decide (inI (X - Y) (minQ q1 q2 - maxQ q3 q4) (maxQ q1 q2 - minQ q3 q4)) = true) := decide_eq_true (el_sub hX hY)
        have C3 : Hid (decide (inI (X * Y) (mlo q1 q2 q3 q4) (mhi q1 q2 q3 q4)) = true) := decide_eq_true (mul_inM hX hY)
        go_wp2_with fail
        have HK : Hid (∀ w', Ext w8 w' → Ext w8 w' ∧ w'.cell? ⟨w.heap.size, 0, none⟩ = some (.bool s1) ∧ w'.cell? ⟨w.heap.size, 1, none⟩ = some (.slice A1 L1 c1) ∧ w'.cell? ⟨w.heap.size, 2, none⟩ = some (.slice B1 M1 d1) ∧ w'.cell? ⟨w.heap.size, 3, none⟩ = some (.bool s2) ∧ w'.cell? ⟨w.heap.size, 4, none⟩ = some (.slice A2 L2 c2) ∧ w'.cell? ⟨w.heap.size, 5, none⟩ = some (.slice B2 M2 d2) ∧ w'.cell? ⟨w.heap.size + 1, 0, none⟩ = some (.bool s3) ∧ w'.cell? ⟨w.heap.size + 1, 1, none⟩ = some (.slice A3 L3 c3) ∧ w'.cell? ⟨w.heap.size + 1, 2, none⟩ = some (.slice B3 M3 d3) ∧ w'.cell? ⟨w.heap.size + 1, 3, none⟩ = some (.bool s4) ∧ w'.cell? ⟨w.heap.size + 1, 4, none⟩ = some (.slice A4 L4 c4) ∧ w'.cell? ⟨w.heap.size + 1, 5, none⟩ = some (.slice B4 M4 d4) ∧ w'.cell? ⟨w.heap.size + 1 + 1, 0, none⟩ = some (.bool s5) ∧ w'.cell? ⟨w.heap.size + 1 + 1, 1, none⟩ = some (.slice A5 L5 c5) ∧ w'.cell? ⟨w.heap.size + 1 + 1, 2, none⟩ = some (.slice B5 M5 d5) ∧ w'.cell? ⟨w.heap.size + 1 + 1, 3, none⟩ = some (.bool s6) ∧ w'.cell? ⟨w.heap.size + 1 + 1, 4, none⟩ = some (.slice A6 L6 c6) ∧ w'.cell? ⟨w.heap.size + 1 + 1, 5, none⟩ = some (.slice B6 M6 d6) ∧ w'.cell? ⟨w5.heap.size, 0, none⟩ = some (.bool ska) ∧ w'.cell? ⟨w5.heap.size, 1, none⟩ = some (.slice Aka Lka cka) ∧ w'.cell? ⟨w5.heap.size, 2, none⟩ = some (.slice Bka Mka dka) ∧ w'.cell? ⟨w7.heap.size, 0, none⟩ = some (.bool skb) ∧ w'.cell? ⟨w7.heap.size, 1, none⟩ = some (.slice Akb Lkb ckb) ∧ w'.cell? ⟨w7.heap.size, 2, none⟩ = some (.slice Bkb Mkb dkb)) := fun w' hk => ⟨hk, hk.cell e0_0, hk.cell e0_1, hk.cell e0_2, hk.cell e0_3, hk.cell e0_4, hk.cell e0_5, hk.cell e1_0, hk.cell e1_1, hk.cell e1_2, hk.cell e1_3, hk.cell e1_4, hk.cell e1_5, hk.cell e2_0, hk.cell e2_1, hk.cell e2_2, hk.cell e2_3, hk.cell e2_4, hk.cell e2_5, hk.cell ka__0, hk.cell ka__1, hk.cell ka__2, hk.cell kb__0, hk.cell kb__1, hk.cell kb__2⟩
        try dsimp only [List.append]
        first
        | go_region_held3 (fun w' => Ext w8 w' ∧ w'.cell? ⟨w.heap.size, 0, none⟩ = some (.bool s1) ∧ w'.cell? ⟨w.heap.size, 1, none⟩ = some (.slice A1 L1 c1) ∧ w'.cell? ⟨w.heap.size, 2, none⟩ = some (.slice B1 M1 d1) ∧ w'.cell? ⟨w.heap.size, 3, none⟩ = some (.bool s2) ∧ w'.cell? ⟨w.heap.size, 4, none⟩ = some (.slice A2 L2 c2) ∧ w'.cell? ⟨w.heap.size, 5, none⟩ = some (.slice B2 M2 d2) ∧ w'.cell? ⟨w.heap.size + 1, 0, none⟩ = some (.bool s3) ∧ w'.cell? ⟨w.heap.size + 1, 1, none⟩ = some (.slice A3 L3 c3) ∧ w'.cell? ⟨w.heap.size + 1, 2, none⟩ = some (.slice B3 M3 d3) ∧ w'.cell? ⟨w.heap.size + 1, 3, none⟩ = some (.bool s4) ∧ w'.cell? ⟨w.heap.size + 1, 4, none⟩ = some (.slice A4 L4 c4) ∧ w'.cell? ⟨w.heap.size + 1, 5, none⟩ = some (.slice B4 M4 d4) ∧ w'.cell? ⟨w.heap.size + 1 + 1, 0, none⟩ = some (.bool s5) ∧ w'.cell? ⟨w.heap.size + 1 + 1, 1, none⟩ = some (.slice A5 L5 c5) ∧ w'.cell? ⟨w.heap.size + 1 + 1, 2, none⟩ = some (.slice B5 M5 d5) ∧ w'.cell? ⟨w.heap.size + 1 + 1, 3, none⟩ = some (.bool s6) ∧ w'.cell? ⟨w.heap.size + 1 + 1, 4, none⟩ = some (.slice A6 L6 c6) ∧ w'.cell? ⟨w.heap.size + 1 + 1, 5, none⟩ = some (.slice B6 M6 d6) ∧ w'.cell? ⟨w5.heap.size, 0, none⟩ = some (.bool ska) ∧ w'.cell? ⟨w5.heap.size, 1, none⟩ = some (.slice Aka Lka cka) ∧ w'.cell? ⟨w5.heap.size, 2, none⟩ = some (.slice Bka Mka dka) ∧ w'.cell? ⟨w7.heap.size, 0, none⟩ = some (.bool skb) ∧ w'.cell? ⟨w7.heap.size, 1, none⟩ = some (.slice Akb Lkb ckb) ∧ w'.cell? ⟨w7.heap.size, 2, none⟩ = some (.slice Bkb Mkb dkb))
            ((with_reducible refine HK.out _ ?_; (repeat' (first | with_reducible exact Ext.refl _ | with_reducible assumption | with_reducible apply Ext.alloc_r | with_reducible apply Ext.drew_r | with_reducible apply Ext.drewN_r | with_reducible refine Ext.trans ?_ ‹Ext _ _›))))
            (first
              | (go_at_call_of 10 (#[Value.agg #[Value.bool smaa, Value.slice Amaa Lmaa cmaa, Value.slice Bmaa Mmaa dmaa, Value.bool smab, Value.slice Amab Lmab cmab, Value.slice Bmab Mmab dmab], Value.agg #[Value.bool src, Value.slice Arc Lrc crc, Value.slice Brc Mrc drc]]); have hgd := rc; clear hgd; refine (contains_is ((maa.rv.ext (by repeat' (first | with_reducible exact Ext.refl _ | with_reducible assumption | with_reducible apply Ext.alloc_r | with_reducible apply Ext.drew_r | with_reducible apply Ext.drewN_r | with_reducible refine Ext.trans ?_ ‹Ext _ _›))).wide (N' := 40) (by omega)) ((mab.rv.ext (by repeat' (first | with_reducible exact Ext.refl _ | with_reducible assumption | with_reducible apply Ext.alloc_r | with_reducible apply Ext.drew_r | with_reducible apply Ext.drewN_r | with_reducible refine Ext.trans ?_ ‹Ext _ _›))).wide (N' := 40) (by omega)) ((rc.rv.ext (by repeat' (first | with_reducible exact Ext.refl _ | with_reducible assumption | with_reducible apply Ext.alloc_r | with_reducible apply Ext.drew_r | with_reducible apply Ext.drewN_r | with_reducible refine Ext.trans ?_ ‹Ext _ _›))).wide (N' := 40) (by omega)) (by omega) C3.out).mono ?_; rintro e w17 ⟨rfl, x17⟩)
              | (go_at_call_of 16 (#[Value.agg #[Value.bool ska, Value.slice Aka Lka cka, Value.slice Bka Mka dka], Value.agg #[Value.bool skb, Value.slice Akb Lkb ckb, Value.slice Bkb Mkb dkb]]); have hgd := maa; clear hgd; refine (rmul_r (ka.ext (by repeat' (first | with_reducible exact Ext.refl _ | with_reducible assumption | with_reducible apply Ext.alloc_r | with_reducible apply Ext.drew_r | with_reducible apply Ext.drewN_r | with_reducible refine Ext.trans ?_ ‹Ext _ _›))) (kb.ext (by repeat' (first | with_reducible exact Ext.refl _ | with_reducible assumption | with_reducible apply Ext.alloc_r | with_reducible apply Ext.drew_r | with_reducible apply Ext.drewN_r | with_reducible refine Ext.trans ?_ ‹Ext _ _›))) (by omega) (by omega)).mono ?_; rintro e w16 ⟨src, Arc, crc, Lrc, Brc, drc, Mrc, rfl, rc, x16⟩)
              | (go_at_call_of 15 (#[Value.agg #[Value.bool s1, Value.slice A1 L1 c1, Value.slice B1 M1 d1, Value.bool s2, Value.slice A2 L2 c2, Value.slice B2 M2 d2], Value.agg #[Value.bool s3, Value.slice A3 L3 c3, Value.slice B3 M3 d3, Value.bool s4, Value.slice A4 L4 c4, Value.slice B4 M4 d4]]); have hgd := rb; clear hgd; refine (imul_r (e1.ext (by repeat' (first | with_reducible exact Ext.refl _ | with_reducible assumption | with_reducible apply Ext.alloc_r | with_reducible apply Ext.drew_r | with_reducible apply Ext.drewN_r | with_reducible refine Ext.trans ?_ ‹Ext _ _›))) (e2.ext (by repeat' (first | with_reducible exact Ext.refl _ | with_reducible assumption | with_reducible apply Ext.alloc_r | with_reducible apply Ext.drew_r | with_reducible apply Ext.drewN_r | with_reducible refine Ext.trans ?_ ‹Ext _ _›))) (e3.ext (by repeat' (first | with_reducible exact Ext.refl _ | with_reducible assumption | with_reducible apply Ext.alloc_r | with_reducible apply Ext.drew_r | with_reducible apply Ext.drewN_r | with_reducible refine Ext.trans ?_ ‹Ext _ _›))) (e4.ext (by repeat' (first | with_reducible exact Ext.refl _ | with_reducible assumption | with_reducible apply Ext.alloc_r | with_reducible apply Ext.drew_r | with_reducible apply Ext.drewN_r | with_reducible refine Ext.trans ?_ ‹Ext _ _›))) (by omega)).mono ?_; rintro e w15 ⟨smaa, Amaa, cmaa, Lmaa, Bmaa, dmaa, Mmaa, smab, Amab, cmab, Lmab, Bmab, dmab, Mmab, rfl, maa, mab, x15⟩)
              | (go_at_call_of 10 (#[Value.agg #[Value.bool sdaa, Value.slice Adaa Ldaa cdaa, Value.slice Bdaa Mdaa ddaa, Value.bool sdab, Value.slice Adab Ldab cdab, Value.slice Bdab Mdab ddab], Value.agg #[Value.bool srb, Value.slice Arb Lrb crb, Value.slice Brb Mrb drb]]); have hgd := rb; clear hgd; refine (contains_is ((daa.rv.ext (by repeat' (first | with_reducible exact Ext.refl _ | with_reducible assumption | with_reducible apply Ext.alloc_r | with_reducible apply Ext.drew_r | with_reducible apply Ext.drewN_r | with_reducible refine Ext.trans ?_ ‹Ext _ _›))).wide (N' := 40) (by omega)) ((dab.rv.ext (by repeat' (first | with_reducible exact Ext.refl _ | with_reducible assumption | with_reducible apply Ext.alloc_r | with_reducible apply Ext.drew_r | with_reducible apply Ext.drewN_r | with_reducible refine Ext.trans ?_ ‹Ext _ _›))).wide (N' := 40) (by omega)) ((rb.rv.ext (by repeat' (first | with_reducible exact Ext.refl _ | with_reducible assumption | with_reducible apply Ext.alloc_r | with_reducible apply Ext.drew_r | with_reducible apply Ext.drewN_r | with_reducible refine Ext.trans ?_ ‹Ext _ _›))).wide (N' := 40) (by omega)) (by omega) C2.out).mono ?_; rintro e w14 ⟨rfl, x14⟩)
              | (go_at_call_of 14 (#[Value.agg #[Value.bool ska, Value.slice Aka Lka cka, Value.slice Bka Mka dka], Value.agg #[Value.bool skb, Value.slice Akb Lkb ckb, Value.slice Bkb Mkb dkb]]); have hgd := daa; clear hgd; refine (rsub_r (ka.ext (by repeat' (first | with_reducible exact Ext.refl _ | with_reducible assumption | with_reducible apply Ext.alloc_r | with_reducible apply Ext.drew_r | with_reducible apply Ext.drewN_r | with_reducible refine Ext.trans ?_ ‹Ext _ _›))) (kb.ext (by repeat' (first | with_reducible exact Ext.refl _ | with_reducible assumption | with_reducible apply Ext.alloc_r | with_reducible apply Ext.drew_r | with_reducible apply Ext.drewN_r | with_reducible refine Ext.trans ?_ ‹Ext _ _›))) (by omega) (by omega)).mono ?_; rintro e w13 ⟨srb, Arb, crb, Lrb, Brb, drb, Mrb, rfl, rb, x13⟩)
              | (go_at_call_of 13 (#[Value.agg #[Value.bool s1, Value.slice A1 L1 c1, Value.slice B1 M1 d1, Value.bool s2, Value.slice A2 L2 c2, Value.slice B2 M2 d2], Value.agg #[Value.bool s3, Value.slice A3 L3 c3, Value.slice B3 M3 d3, Value.bool s4, Value.slice A4 L4 c4, Value.slice B4 M4 d4]]); have hgd := ra; clear hgd; refine (isub_r (e1.ext (by repeat' (first | with_reducible exact Ext.refl _ | with_reducible assumption | with_reducible apply Ext.alloc_r | with_reducible apply Ext.drew_r | with_reducible apply Ext.drewN_r | with_reducible refine Ext.trans ?_ ‹Ext _ _›))) (e2.ext (by repeat' (first | with_reducible exact Ext.refl _ | with_reducible assumption | with_reducible apply Ext.alloc_r | with_reducible apply Ext.drew_r | with_reducible apply Ext.drewN_r | with_reducible refine Ext.trans ?_ ‹Ext _ _›))) (e3.ext (by repeat' (first | with_reducible exact Ext.refl _ | with_reducible assumption | with_reducible apply Ext.alloc_r | with_reducible apply Ext.drew_r | with_reducible apply Ext.drewN_r | with_reducible refine Ext.trans ?_ ‹Ext _ _›))) (e4.ext (by repeat' (first | with_reducible exact Ext.refl _ | with_reducible assumption | with_reducible apply Ext.alloc_r | with_reducible apply Ext.drew_r | with_reducible apply Ext.drewN_r | with_reducible refine Ext.trans ?_ ‹Ext _ _›))) (by omega) (by omega)).mono ?_; rintro e w12 ⟨sdaa, Adaa, cdaa, Ldaa, Bdaa, ddaa, Mdaa, sdab, Adab, cdab, Ldab, Bdab, ddab, Mdab, rfl, daa, dab, x12⟩)
              | (go_at_call_of 10 (#[Value.agg #[Value.bool ssaa, Value.slice Asaa Lsaa csaa, Value.slice Bsaa Msaa dsaa, Value.bool ssab, Value.slice Asab Lsab csab, Value.slice Bsab Msab dsab], Value.agg #[Value.bool sra, Value.slice Ara Lra cra, Value.slice Bra Mra dra]]); have hgd := ra; clear hgd; refine (contains_is ((saa.rv.ext (by repeat' (first | with_reducible exact Ext.refl _ | with_reducible assumption | with_reducible apply Ext.alloc_r | with_reducible apply Ext.drew_r | with_reducible apply Ext.drewN_r | with_reducible refine Ext.trans ?_ ‹Ext _ _›))).wide (N' := 40) (by omega)) ((sab.rv.ext (by repeat' (first | with_reducible exact Ext.refl _ | with_reducible assumption | with_reducible apply Ext.alloc_r | with_reducible apply Ext.drew_r | with_reducible apply Ext.drewN_r | with_reducible refine Ext.trans ?_ ‹Ext _ _›))).wide (N' := 40) (by omega)) ((ra.rv.ext (by repeat' (first | with_reducible exact Ext.refl _ | with_reducible assumption | with_reducible apply Ext.alloc_r | with_reducible apply Ext.drew_r | with_reducible apply Ext.drewN_r | with_reducible refine Ext.trans ?_ ‹Ext _ _›))).wide (N' := 40) (by omega)) (by omega) C1.out).mono ?_; rintro e w11 ⟨rfl, x11⟩)
              | (go_at_call_of 12 (#[Value.agg #[Value.bool ska, Value.slice Aka Lka cka, Value.slice Bka Mka dka], Value.agg #[Value.bool skb, Value.slice Akb Lkb ckb, Value.slice Bkb Mkb dkb]]); have hgd := saa; clear hgd; refine (radd_r (ka.ext (by repeat' (first | with_reducible exact Ext.refl _ | with_reducible assumption | with_reducible apply Ext.alloc_r | with_reducible apply Ext.drew_r | with_reducible apply Ext.drewN_r | with_reducible refine Ext.trans ?_ ‹Ext _ _›))) (kb.ext (by repeat' (first | with_reducible exact Ext.refl _ | with_reducible assumption | with_reducible apply Ext.alloc_r | with_reducible apply Ext.drew_r | with_reducible apply Ext.drewN_r | with_reducible refine Ext.trans ?_ ‹Ext _ _›))) (by omega) (by omega)).mono ?_; rintro e w10 ⟨sra, Ara, cra, Lra, Bra, dra, Mra, rfl, ra, x10⟩)
              | (go_at_call_of 11 (#[Value.agg #[Value.bool s1, Value.slice A1 L1 c1, Value.slice B1 M1 d1, Value.bool s2, Value.slice A2 L2 c2, Value.slice B2 M2 d2], Value.agg #[Value.bool s3, Value.slice A3 L3 c3, Value.slice B3 M3 d3, Value.bool s4, Value.slice A4 L4 c4, Value.slice B4 M4 d4]]); refine (iadd_r (e1.ext (by repeat' (first | with_reducible exact Ext.refl _ | with_reducible assumption | with_reducible apply Ext.alloc_r | with_reducible apply Ext.drew_r | with_reducible apply Ext.drewN_r | with_reducible refine Ext.trans ?_ ‹Ext _ _›))) (e2.ext (by repeat' (first | with_reducible exact Ext.refl _ | with_reducible assumption | with_reducible apply Ext.alloc_r | with_reducible apply Ext.drew_r | with_reducible apply Ext.drewN_r | with_reducible refine Ext.trans ?_ ‹Ext _ _›))) (e3.ext (by repeat' (first | with_reducible exact Ext.refl _ | with_reducible assumption | with_reducible apply Ext.alloc_r | with_reducible apply Ext.drew_r | with_reducible apply Ext.drewN_r | with_reducible refine Ext.trans ?_ ‹Ext _ _›))) (e4.ext (by repeat' (first | with_reducible exact Ext.refl _ | with_reducible assumption | with_reducible apply Ext.alloc_r | with_reducible apply Ext.drew_r | with_reducible apply Ext.drewN_r | with_reducible refine Ext.trans ?_ ‹Ext _ _›))) (by omega) (by omega)).mono ?_; rintro e w9 ⟨ssaa, Asaa, csaa, Lsaa, Bsaa, dsaa, Msaa, ssab, Asab, csab, Lsab, Bsab, dsab, Msab, rfl, saa, sab, x9⟩))
        | fail
        clear HK
        have xh : Ext w8 w17 := (by repeat' (first | with_reducible exact Ext.refl _ | with_reducible assumption | with_reducible apply Ext.alloc_r | with_reducible apply Ext.drew_r | with_reducible apply Ext.drewN_r | with_reducible refine Ext.trans ?_ ‹Ext _ _›))
        replace e0_0 := xh.cell e0_0
        replace e0_1 := xh.cell e0_1
        replace e0_2 := xh.cell e0_2
        replace e0_3 := xh.cell e0_3
        replace e0_4 := xh.cell e0_4
        replace e0_5 := xh.cell e0_5
        replace e1_0 := xh.cell e1_0
        replace e1_1 := xh.cell e1_1
        replace e1_2 := xh.cell e1_2
        replace e1_3 := xh.cell e1_3
        replace e1_4 := xh.cell e1_4
        replace e1_5 := xh.cell e1_5
        replace e2_0 := xh.cell e2_0
        replace e2_1 := xh.cell e2_1
        replace e2_2 := xh.cell e2_2
        replace e2_3 := xh.cell e2_3
        replace e2_4 := xh.cell e2_4
        replace e2_5 := xh.cell e2_5
        replace ka__0 := xh.cell ka__0
        replace ka__1 := xh.cell ka__1
        replace ka__2 := xh.cell ka__2
        replace kb__0 := xh.cell kb__0
        replace kb__1 := xh.cell kb__1
        replace kb__2 := xh.cell kb__2
        clear xh
        clear C1 C2 C3 HKA HKB
        obtain ⟨z1, hz1⟩ : ∃ z : Int, z = q3.num.sign := ⟨_, rfl⟩
        obtain ⟨z2, hz2⟩ : ∃ z : Int, z = q4.num.sign := ⟨_, rfl⟩
        have HZ1 := Lib.hid hz1.symm
        have HZ2 := Lib.hid hz2.symm
        have C5 : Hid (decide (inI (X ^ 4) (plo q1 q2 4) (phi q1 q2 4)) = true) := decide_eq_true ((inI_iff (plo_le_phi _ _ _)).2 (pow4_in hX))
        by_cases hs : z1 = z2 ∧ z1 ≠ 0
        · have hY0 : Y ≠ 0 := el_ne hY (by rw [← hz1, ← hz2]; exact hs.1) (by rw [← hz1]; exact hs.2)
          have C4 : Hid (decide (inI (X / Y) (mlo q1 q2 (1 / q3) (1 / q4)) (mhi q1 q2 (1 / q3) (1 / q4))) = true) := decide_eq_true (el_quo hX hY (by rw [← hz1, ← hz2]; exact hs.1) (by rw [← hz1]; exact hs.2))
          have HS := Lib.hid hs
          clear hs hz1 hz2
          go_wp2_with fail
          refine (iquo_r (e1.ext (by repeat' (first | with_reducible exact Ext.refl _ | with_reducible assumption | with_reducible apply Ext.alloc_r | with_reducible apply Ext.drew_r | with_reducible apply Ext.drewN_r | with_reducible refine Ext.trans ?_ ‹Ext _ _›))) (e2.ext (by repeat' (first | with_reducible exact Ext.refl _ | with_reducible assumption | with_reducible apply Ext.alloc_r | with_reducible apply Ext.drew_r | with_reducible apply Ext.drewN_r | with_reducible refine Ext.trans ?_ ‹Ext _ _›))) (e3.ext (by repeat' (first | with_reducible exact Ext.refl _ | with_reducible assumption | with_reducible apply Ext.alloc_r | with_reducible apply Ext.drew_r | with_reducible apply Ext.drewN_r | with_reducible refine Ext.trans ?_ ‹Ext _ _›))) (e4.ext (by repeat' (first | with_reducible exact Ext.refl _ | with_reducible assumption | with_reducible apply Ext.alloc_r | with_reducible apply Ext.drew_r | with_reducible apply Ext.drewN_r | with_reducible refine Ext.trans ?_ ‹Ext _ _›))) HZ1.out (HZ2.out.trans HS.out.1.symm) HS.out.2 (by omega)).mono ?_
          rintro e w18 ⟨sda, Ada, cda, Lda, Bda, dda, Mda, sdb, Adb, cdb, Ldb, Bdb, ddb, Mdb, rfl, da, db, x18⟩
          replace e0_0 := x18.cell e0_0
          replace e0_1 := x18.cell e0_1
          replace e0_2 := x18.cell e0_2
          replace e0_3 := x18.cell e0_3
          replace e0_4 := x18.cell e0_4
          replace e0_5 := x18.cell e0_5
          replace e1_0 := x18.cell e1_0
          replace e1_1 := x18.cell e1_1
          replace e1_2 := x18.cell e1_2
          replace e1_3 := x18.cell e1_3
          replace e1_4 := x18.cell e1_4
          replace e1_5 := x18.cell e1_5
          replace e2_0 := x18.cell e2_0
          replace e2_1 := x18.cell e2_1
          replace e2_2 := x18.cell e2_2
          replace e2_3 := x18.cell e2_3
          replace e2_4 := x18.cell e2_4
          replace e2_5 := x18.cell e2_5
          replace ka__0 := x18.cell ka__0
          replace ka__1 := x18.cell ka__1
          replace ka__2 := x18.cell ka__2
          replace kb__0 := x18.cell kb__0
          replace kb__1 := x18.cell kb__1
          replace kb__2 := x18.cell kb__2
          have HD := Lib.hid (And.intro da db)
          clear da db
          have te0_0 := fun o => (Ext.alloc w18 o).cell e0_0
          have te0_1 := fun o => (Ext.alloc w18 o).cell e0_1
          have te0_2 := fun o => (Ext.alloc w18 o).cell e0_2
          have te0_3 := fun o => (Ext.alloc w18 o).cell e0_3
          have te0_4 := fun o => (Ext.alloc w18 o).cell e0_4
          have te0_5 := fun o => (Ext.alloc w18 o).cell e0_5
          have te1_0 := fun o => (Ext.alloc w18 o).cell e1_0
          have te1_1 := fun o => (Ext.alloc w18 o).cell e1_1
          have te1_2 := fun o => (Ext.alloc w18 o).cell e1_2
          have te1_3 := fun o => (Ext.alloc w18 o).cell e1_3
          have te1_4 := fun o => (Ext.alloc w18 o).cell e1_4
          have te1_5 := fun o => (Ext.alloc w18 o).cell e1_5
          have te2_0 := fun o => (Ext.alloc w18 o).cell e2_0
          have te2_1 := fun o => (Ext.alloc w18 o).cell e2_1
          have te2_2 := fun o => (Ext.alloc w18 o).cell e2_2
          have te2_3 := fun o => (Ext.alloc w18 o).cell e2_3
          have te2_4 := fun o => (Ext.alloc w18 o).cell e2_4
          have te2_5 := fun o => (Ext.alloc w18 o).cell e2_5
          have tka__0 := fun o => (Ext.alloc w18 o).cell ka__0
          have tka__1 := fun o => (Ext.alloc w18 o).cell ka__1
          have tka__2 := fun o => (Ext.alloc w18 o).cell ka__2
          have tkb__0 := fun o => (Ext.alloc w18 o).cell kb__0
          have tkb__1 := fun o => (Ext.alloc w18 o).cell kb__1
          have tkb__2 := fun o => (Ext.alloc w18 o).cell kb__2
          go_wp2_with fail
          clear te0_0 te0_1 te0_2 te0_3 te0_4 te0_5 te1_0 te1_1 te1_2 te1_3 te1_4 te1_5 te2_0 te2_1 te2_2 te2_3 te2_4 te2_5 tka__0 tka__1 tka__2 tkb__0 tkb__1 tkb__2
          obtain ⟨w19, hw⟩ : ∃ z : World, z = (w18.alloc (.cells #[.bool sda, .slice Ada Lda cda, .slice Bda Mda dda, .bool sdb, .slice Adb Ldb cdb, .slice Bdb Mdb ddb] 29)) := ⟨_, rfl⟩
          rw [← hw]
          have x19 : Ext w18 w19 := by rw [hw]; exact Ext.alloc _ _
          have bb := box_at w18 #[.bool sda, .slice Ada Lda cda, .slice Bda Mda dda, .bool sdb, .slice Adb Ldb cdb, .slice Bdb Mdb ddb] 29
          rw [← hw] at bb
          replace e0_0 := x19.cell e0_0
          replace e0_1 := x19.cell e0_1
          replace e0_2 := x19.cell e0_2
          replace e0_3 := x19.cell e0_3
          replace e0_4 := x19.cell e0_4
          replace e0_5 := x19.cell e0_5
          replace e1_0 := x19.cell e1_0
          replace e1_1 := x19.cell e1_1
          replace e1_2 := x19.cell e1_2
          replace e1_3 := x19.cell e1_3
          replace e1_4 := x19.cell e1_4
          replace e1_5 := x19.cell e1_5
          replace e2_0 := x19.cell e2_0
          replace e2_1 := x19.cell e2_1
          replace e2_2 := x19.cell e2_2
          replace e2_3 := x19.cell e2_3
          replace e2_4 := x19.cell e2_4
          replace e2_5 := x19.cell e2_5
          replace ka__0 := x19.cell ka__0
          replace ka__1 := x19.cell ka__1
          replace ka__2 := x19.cell ka__2
          replace kb__0 := x19.cell kb__0
          replace kb__1 := x19.cell kb__1
          replace kb__2 := x19.cell kb__2
          have d_0 := bb.1 0 (.bool sda) rfl
          have d_1 := bb.1 1 (.slice Ada Lda cda) rfl
          have d_2 := bb.1 2 (.slice Bda Mda dda) rfl
          have d_3 := bb.1 3 (.bool sdb) rfl
          have d_4 := bb.1 4 (.slice Adb Ldb cdb) rfl
          have d_5 := bb.1 5 (.slice Bdb Mdb ddb) rfl
          clear hw bb
          have da := HD.out.1
          have db := HD.out.2
          go_wp2_with fail
          refine (rquo_r (ka.ext (by repeat' (first | with_reducible exact Ext.refl _ | with_reducible assumption | with_reducible apply Ext.alloc_r | with_reducible apply Ext.drew_r | with_reducible apply Ext.drewN_r | with_reducible refine Ext.trans ?_ ‹Ext _ _›))) (kb.ext (by repeat' (first | with_reducible exact Ext.refl _ | with_reducible assumption | with_reducible apply Ext.alloc_r | with_reducible apply Ext.drew_r | with_reducible apply Ext.drewN_r | with_reducible refine Ext.trans ?_ ‹Ext _ _›))) hY0 (by omega) (by omega)).mono ?_
          rintro e w20 ⟨sc, Ac, cc, Lc, Bc, dc, Mc, rfl, c, x20⟩
          replace e0_0 := x20.cell e0_0
          replace e0_1 := x20.cell e0_1
          replace e0_2 := x20.cell e0_2
          replace e0_3 := x20.cell e0_3
          replace e0_4 := x20.cell e0_4
          replace e0_5 := x20.cell e0_5
          replace e1_0 := x20.cell e1_0
          replace e1_1 := x20.cell e1_1
          replace e1_2 := x20.cell e1_2
          replace e1_3 := x20.cell e1_3
          replace e1_4 := x20.cell e1_4
          replace e1_5 := x20.cell e1_5
          replace e2_0 := x20.cell e2_0
          replace e2_1 := x20.cell e2_1
          replace e2_2 := x20.cell e2_2
          replace e2_3 := x20.cell e2_3
          replace e2_4 := x20.cell e2_4
          replace e2_5 := x20.cell e2_5
          replace ka__0 := x20.cell ka__0
          replace ka__1 := x20.cell ka__1
          replace ka__2 := x20.cell ka__2
          replace kb__0 := x20.cell kb__0
          replace kb__1 := x20.cell kb__1
          replace kb__2 := x20.cell kb__2
          replace d_0 := x20.cell d_0
          replace d_1 := x20.cell d_1
          replace d_2 := x20.cell d_2
          replace d_3 := x20.cell d_3
          replace d_4 := x20.cell d_4
          replace d_5 := x20.cell d_5
          have HCC := Lib.hid c
          clear c
          have te0_0 := fun o => (Ext.alloc w20 o).cell e0_0
          have te0_1 := fun o => (Ext.alloc w20 o).cell e0_1
          have te0_2 := fun o => (Ext.alloc w20 o).cell e0_2
          have te0_3 := fun o => (Ext.alloc w20 o).cell e0_3
          have te0_4 := fun o => (Ext.alloc w20 o).cell e0_4
          have te0_5 := fun o => (Ext.alloc w20 o).cell e0_5
          have te1_0 := fun o => (Ext.alloc w20 o).cell e1_0
          have te1_1 := fun o => (Ext.alloc w20 o).cell e1_1
          have te1_2 := fun o => (Ext.alloc w20 o).cell e1_2
          have te1_3 := fun o => (Ext.alloc w20 o).cell e1_3
          have te1_4 := fun o => (Ext.alloc w20 o).cell e1_4
          have te1_5 := fun o => (Ext.alloc w20 o).cell e1_5
          have te2_0 := fun o => (Ext.alloc w20 o).cell e2_0
          have te2_1 := fun o => (Ext.alloc w20 o).cell e2_1
          have te2_2 := fun o => (Ext.alloc w20 o).cell e2_2
          have te2_3 := fun o => (Ext.alloc w20 o).cell e2_3
          have te2_4 := fun o => (Ext.alloc w20 o).cell e2_4
          have te2_5 := fun o => (Ext.alloc w20 o).cell e2_5
          have tka__0 := fun o => (Ext.alloc w20 o).cell ka__0
          have tka__1 := fun o => (Ext.alloc w20 o).cell ka__1
          have tka__2 := fun o => (Ext.alloc w20 o).cell ka__2
          have tkb__0 := fun o => (Ext.alloc w20 o).cell kb__0
          have tkb__1 := fun o => (Ext.alloc w20 o).cell kb__1
          have tkb__2 := fun o => (Ext.alloc w20 o).cell kb__2
          have td_0 := fun o => (Ext.alloc w20 o).cell d_0
          have td_1 := fun o => (Ext.alloc w20 o).cell d_1
          have td_2 := fun o => (Ext.alloc w20 o).cell d_2
          have td_3 := fun o => (Ext.alloc w20 o).cell d_3
          have td_4 := fun o => (Ext.alloc w20 o).cell d_4
          have td_5 := fun o => (Ext.alloc w20 o).cell d_5
          go_wp2_with fail
          clear te0_0 te0_1 te0_2 te0_3 te0_4 te0_5 te1_0 te1_1 te1_2 te1_3 te1_4 te1_5 te2_0 te2_1 te2_2 te2_3 te2_4 te2_5 tka__0 tka__1 tka__2 tkb__0 tkb__1 tkb__2 td_0 td_1 td_2 td_3 td_4 td_5
          obtain ⟨w21, hw⟩ : ∃ z : World, z = (w20.alloc (.cells #[.bool sc, .slice Ac Lc cc, .slice Bc Mc dc] 27)) := ⟨_, rfl⟩
          rw [← hw]
          have x21 : Ext w20 w21 := by rw [hw]; exact Ext.alloc _ _
          have bb := box_at w20 #[.bool sc, .slice Ac Lc cc, .slice Bc Mc dc] 27
          rw [← hw] at bb
          replace e0_0 := x21.cell e0_0
          replace e0_1 := x21.cell e0_1
          replace e0_2 := x21.cell e0_2
          replace e0_3 := x21.cell e0_3
          replace e0_4 := x21.cell e0_4
          replace e0_5 := x21.cell e0_5
          replace e1_0 := x21.cell e1_0
          replace e1_1 := x21.cell e1_1
          replace e1_2 := x21.cell e1_2
          replace e1_3 := x21.cell e1_3
          replace e1_4 := x21.cell e1_4
          replace e1_5 := x21.cell e1_5
          replace e2_0 := x21.cell e2_0
          replace e2_1 := x21.cell e2_1
          replace e2_2 := x21.cell e2_2
          replace e2_3 := x21.cell e2_3
          replace e2_4 := x21.cell e2_4
          replace e2_5 := x21.cell e2_5
          replace ka__0 := x21.cell ka__0
          replace ka__1 := x21.cell ka__1
          replace ka__2 := x21.cell ka__2
          replace kb__0 := x21.cell kb__0
          replace kb__1 := x21.cell kb__1
          replace kb__2 := x21.cell kb__2
          replace d_0 := x21.cell d_0
          replace d_1 := x21.cell d_1
          replace d_2 := x21.cell d_2
          replace d_3 := x21.cell d_3
          replace d_4 := x21.cell d_4
          replace d_5 := x21.cell d_5
          have c__0 := bb.1 0 (.bool sc) rfl
          have c__1 := bb.1 1 (.slice Ac Lc cc) rfl
          have c__2 := bb.1 2 (.slice Bc Mc dc) rfl
          clear hw bb
          have c := HCC.out
          go_wp2_with fail
          refine (contains_is ((da.rv.ext (by repeat' (first | with_reducible exact Ext.refl _ | with_reducible assumption | with_reducible apply Ext.alloc_r | with_reducible apply Ext.drew_r | with_reducible apply Ext.drewN_r | with_reducible refine Ext.trans ?_ ‹Ext _ _›))).wide (N' := 40) (by omega)) ((db.rv.ext (by repeat' (first | with_reducible exact Ext.refl _ | with_reducible assumption | with_reducible apply Ext.alloc_r | with_reducible apply Ext.drew_r | with_reducible apply Ext.drewN_r | with_reducible refine Ext.trans ?_ ‹Ext _ _›))).wide (N' := 40) (by omega)) ((c.rv.ext (by repeat' (first | with_reducible exact Ext.refl _ | with_reducible assumption | with_reducible apply Ext.alloc_r | with_reducible apply Ext.drew_r | with_reducible apply Ext.drewN_r | with_reducible refine Ext.trans ?_ ‹Ext _ _›))).wide (N' := 40) (by omega)) (by omega) C4.out).mono ?_
          rintro e w22 ⟨rfl, x22⟩
          replace e0_0 := x22.cell e0_0
          replace e0_1 := x22.cell e0_1
          replace e0_2 := x22.cell e0_2
          replace e0_3 := x22.cell e0_3
          replace e0_4 := x22.cell e0_4
          replace e0_5 := x22.cell e0_5
          replace e1_0 := x22.cell e1_0
          replace e1_1 := x22.cell e1_1
          replace e1_2 := x22.cell e1_2
          replace e1_3 := x22.cell e1_3
          replace e1_4 := x22.cell e1_4
          replace e1_5 := x22.cell e1_5
          replace e2_0 := x22.cell e2_0
          replace e2_1 := x22.cell e2_1
          replace e2_2 := x22.cell e2_2
          replace e2_3 := x22.cell e2_3
          replace e2_4 := x22.cell e2_4
          replace e2_5 := x22.cell e2_5
          replace ka__0 := x22.cell ka__0
          replace ka__1 := x22.cell ka__1
          replace ka__2 := x22.cell ka__2
          replace kb__0 := x22.cell kb__0
          replace kb__1 := x22.cell kb__1
          replace kb__2 := x22.cell kb__2
          replace d_0 := x22.cell d_0
          replace d_1 := x22.cell d_1
          replace d_2 := x22.cell d_2
          replace d_3 := x22.cell d_3
          replace d_4 := x22.cell d_4
          replace d_5 := x22.cell d_5
          replace c__0 := x22.cell c__0
          replace c__1 := x22.cell c__1
          replace c__2 := x22.cell c__2
          go_wp2_with fail
          refine (ipow_r (k := 4) (e1.ext (by repeat' (first | with_reducible exact Ext.refl _ | with_reducible assumption | with_reducible apply Ext.alloc_r | with_reducible apply Ext.drew_r | with_reducible apply Ext.drewN_r | with_reducible refine Ext.trans ?_ ‹Ext _ _›))) (e2.ext (by repeat' (first | with_reducible exact Ext.refl _ | with_reducible assumption | with_reducible apply Ext.alloc_r | with_reducible apply Ext.drew_r | with_reducible apply Ext.drewN_r | with_reducible refine Ext.trans ?_ ‹Ext _ _›))) (by omega) (by omega) (by omega)).mono ?_
          rintro e w23 ⟨spa, Apa, cpa, Lpa, Bpa, dpa, Mpa, spb, Apb, cpb, Lpb, Bpb, dpb, Mpb, rfl, pa, pb, x23⟩
          replace e0_0 := x23.cell e0_0
          replace e0_1 := x23.cell e0_1
          replace e0_2 := x23.cell e0_2
          replace e0_3 := x23.cell e0_3
          replace e0_4 := x23.cell e0_4
          replace e0_5 := x23.cell e0_5
          replace e1_0 := x23.cell e1_0
          replace e1_1 := x23.cell e1_1
          replace e1_2 := x23.cell e1_2
          replace e1_3 := x23.cell e1_3
          replace e1_4 := x23.cell e1_4
          replace e1_5 := x23.cell e1_5
          replace e2_0 := x23.cell e2_0
          replace e2_1 := x23.cell e2_1
          replace e2_2 := x23.cell e2_2
          replace e2_3 := x23.cell e2_3
          replace e2_4 := x23.cell e2_4
          replace e2_5 := x23.cell e2_5
          replace ka__0 := x23.cell ka__0
          replace ka__1 := x23.cell ka__1
          replace ka__2 := x23.cell ka__2
          replace kb__0 := x23.cell kb__0
          replace kb__1 := x23.cell kb__1
          replace kb__2 := x23.cell kb__2
          replace d_0 := x23.cell d_0
          replace d_1 := x23.cell d_1
          replace d_2 := x23.cell d_2
          replace d_3 := x23.cell d_3
          replace d_4 := x23.cell d_4
          replace d_5 := x23.cell d_5
          replace c__0 := x23.cell c__0
          replace c__1 := x23.cell c__1
          replace c__2 := x23.cell c__2
          have HPW := Lib.hid (And.intro pa pb)
          clear pa pb
          have te0_0 := fun o => (Ext.alloc w23 o).cell e0_0
          have te0_1 := fun o => (Ext.alloc w23 o).cell e0_1
          have te0_2 := fun o => (Ext.alloc w23 o).cell e0_2
          have te0_3 := fun o => (Ext.alloc w23 o).cell e0_3
          have te0_4 := fun o => (Ext.alloc w23 o).cell e0_4
          have te0_5 := fun o => (Ext.alloc w23 o).cell e0_5
          have te1_0 := fun o => (Ext.alloc w23 o).cell e1_0
          have te1_1 := fun o => (Ext.alloc w23 o).cell e1_1
          have te1_2 := fun o => (Ext.alloc w23 o).cell e1_2
          have te1_3 := fun o => (Ext.alloc w23 o).cell e1_3
          have te1_4 := fun o => (Ext.alloc w23 o).cell e1_4
          have te1_5 := fun o => (Ext.alloc w23 o).cell e1_5
          have te2_0 := fun o => (Ext.alloc w23 o).cell e2_0
          have te2_1 := fun o => (Ext.alloc w23 o).cell e2_1
          have te2_2 := fun o => (Ext.alloc w23 o).cell e2_2
          have te2_3 := fun o => (Ext.alloc w23 o).cell e2_3
          have te2_4 := fun o => (Ext.alloc w23 o).cell e2_4
          have te2_5 := fun o => (Ext.alloc w23 o).cell e2_5
          have tka__0 := fun o => (Ext.alloc w23 o).cell ka__0
          have tka__1 := fun o => (Ext.alloc w23 o).cell ka__1
          have tka__2 := fun o => (Ext.alloc w23 o).cell ka__2
          have tkb__0 := fun o => (Ext.alloc w23 o).cell kb__0
          have tkb__1 := fun o => (Ext.alloc w23 o).cell kb__1
          have tkb__2 := fun o => (Ext.alloc w23 o).cell kb__2
          have td_0 := fun o => (Ext.alloc w23 o).cell d_0
          have td_1 := fun o => (Ext.alloc w23 o).cell d_1
          have td_2 := fun o => (Ext.alloc w23 o).cell d_2
          have td_3 := fun o => (Ext.alloc w23 o).cell d_3
          have td_4 := fun o => (Ext.alloc w23 o).cell d_4
          have td_5 := fun o => (Ext.alloc w23 o).cell d_5
          have tc__0 := fun o => (Ext.alloc w23 o).cell c__0
          have tc__1 := fun o => (Ext.alloc w23 o).cell c__1
          have tc__2 := fun o => (Ext.alloc w23 o).cell c__2
          go_wp2_with fail
          clear te0_0 te0_1 te0_2 te0_3 te0_4 te0_5 te1_0 te1_1 te1_2 te1_3 te1_4 te1_5 te2_0 te2_1 te2_2 te2_3 te2_4 te2_5 tka__0 tka__1 tka__2 tkb__0 tkb__1 tkb__2 td_0 td_1 td_2 td_3 td_4 td_5 tc__0 tc__1 tc__2
          obtain ⟨w24, hw⟩ : ∃ z : World, z = (w23.alloc (.cells #[.bool spa, .slice Apa Lpa cpa, .slice Bpa Mpa dpa, .bool spb, .slice Apb Lpb cpb, .slice Bpb Mpb dpb] 29)) := ⟨_, rfl⟩
          rw [← hw]
          have x24 : Ext w23 w24 := by rw [hw]; exact Ext.alloc _ _
          have bb := box_at w23 #[.bool spa, .slice Apa Lpa cpa, .slice Bpa Mpa dpa, .bool spb, .slice Apb Lpb cpb, .slice Bpb Mpb dpb] 29
          rw [← hw] at bb
          replace e0_0 := x24.cell e0_0
          replace e0_1 := x24.cell e0_1
          replace e0_2 := x24.cell e0_2
          replace e0_3 := x24.cell e0_3
          replace e0_4 := x24.cell e0_4
          replace e0_5 := x24.cell e0_5
          replace e1_0 := x24.cell e1_0
          replace e1_1 := x24.cell e1_1
          replace e1_2 := x24.cell e1_2
          replace e1_3 := x24.cell e1_3
          replace e1_4 := x24.cell e1_4
          replace e1_5 := x24.cell e1_5
          replace e2_0 := x24.cell e2_0
          replace e2_1 := x24.cell e2_1
          replace e2_2 := x24.cell e2_2
          replace e2_3 := x24.cell e2_3
          replace e2_4 := x24.cell e2_4
          replace e2_5 := x24.cell e2_5
          replace ka__0 := x24.cell ka__0
          replace ka__1 := x24.cell ka__1
          replace ka__2 := x24.cell ka__2
          replace kb__0 := x24.cell kb__0
          replace kb__1 := x24.cell kb__1
          replace kb__2 := x24.cell kb__2
          replace d_0 := x24.cell d_0
          replace d_1 := x24.cell d_1
          replace d_2 := x24.cell d_2
          replace d_3 := x24.cell d_3
          replace d_4 := x24.cell d_4
          replace d_5 := x24.cell d_5
          replace c__0 := x24.cell c__0
          replace c__1 := x24.cell c__1
          replace c__2 := x24.cell c__2
          have p_0 := bb.1 0 (.bool spa) rfl
          have p_1 := bb.1 1 (.slice Apa Lpa cpa) rfl
          have p_2 := bb.1 2 (.slice Bpa Mpa dpa) rfl
          have p_3 := bb.1 3 (.bool spb) rfl
          have p_4 := bb.1 4 (.slice Apb Lpb cpb) rfl
          have p_5 := bb.1 5 (.slice Bpb Mpb dpb) rfl
          clear hw bb
          have pa := HPW.out.1
          have pb := HPW.out.2
          go_wp2_with fail
          refine (rpow_r (k := 4) (ka.ext (by repeat' (first | with_reducible exact Ext.refl _ | with_reducible assumption | with_reducible apply Ext.alloc_r | with_reducible apply Ext.drew_r | with_reducible apply Ext.drewN_r | with_reducible refine Ext.trans ?_ ‹Ext _ _›))) (by omega) (by omega) (by omega)).mono ?_
          rintro e w25 ⟨sz, Az, cz, Lz, Bz, dz, Mz, rfl, z, x25⟩
          replace e0_0 := x25.cell e0_0
          replace e0_1 := x25.cell e0_1
          replace e0_2 := x25.cell e0_2
          replace e0_3 := x25.cell e0_3
          replace e0_4 := x25.cell e0_4
          replace e0_5 := x25.cell e0_5
          replace e1_0 := x25.cell e1_0
          replace e1_1 := x25.cell e1_1
          replace e1_2 := x25.cell e1_2
          replace e1_3 := x25.cell e1_3
          replace e1_4 := x25.cell e1_4
          replace e1_5 := x25.cell e1_5
          replace e2_0 := x25.cell e2_0
          replace e2_1 := x25.cell e2_1
          replace e2_2 := x25.cell e2_2
          replace e2_3 := x25.cell e2_3
          replace e2_4 := x25.cell e2_4
          replace e2_5 := x25.cell e2_5
          replace ka__0 := x25.cell ka__0
          replace ka__1 := x25.cell ka__1
          replace ka__2 := x25.cell ka__2
          replace kb__0 := x25.cell kb__0
          replace kb__1 := x25.cell kb__1
          replace kb__2 := x25.cell kb__2
          replace d_0 := x25.cell d_0
          replace d_1 := x25.cell d_1
          replace d_2 := x25.cell d_2
          replace d_3 := x25.cell d_3
          replace d_4 := x25.cell d_4
          replace d_5 := x25.cell d_5
          replace c__0 := x25.cell c__0
          replace c__1 := x25.cell c__1
          replace c__2 := x25.cell c__2
          replace p_0 := x25.cell p_0
          replace p_1 := x25.cell p_1
          replace p_2 := x25.cell p_2
          replace p_3 := x25.cell p_3
          replace p_4 := x25.cell p_4
          replace p_5 := x25.cell p_5
          have HZZ := Lib.hid z
          clear z
          have te0_0 := fun o => (Ext.alloc w25 o).cell e0_0
          have te0_1 := fun o => (Ext.alloc w25 o).cell e0_1
          have te0_2 := fun o => (Ext.alloc w25 o).cell e0_2
          have te0_3 := fun o => (Ext.alloc w25 o).cell e0_3
          have te0_4 := fun o => (Ext.alloc w25 o).cell e0_4
          have te0_5 := fun o => (Ext.alloc w25 o).cell e0_5
          have te1_0 := fun o => (Ext.alloc w25 o).cell e1_0
          have te1_1 := fun o => (Ext.alloc w25 o).cell e1_1
          have te1_2 := fun o => (Ext.alloc w25 o).cell e1_2
          have te1_3 := fun o => (Ext.alloc w25 o).cell e1_3
          have te1_4 := fun o => (Ext.alloc w25 o).cell e1_4
          have te1_5 := fun o => (Ext.alloc w25 o).cell e1_5
          have te2_0 := fun o => (Ext.alloc w25 o).cell e2_0
          have te2_1 := fun o => (Ext.alloc w25 o).cell e2_1
          have te2_2 := fun o => (Ext.alloc w25 o).cell e2_2
          have te2_3 := fun o => (Ext.alloc w25 o).cell e2_3
          have te2_4 := fun o => (Ext.alloc w25 o).cell e2_4
          have te2_5 := fun o => (Ext.alloc w25 o).cell e2_5
          have tka__0 := fun o => (Ext.alloc w25 o).cell ka__0
          have tka__1 := fun o => (Ext.alloc w25 o).cell ka__1
          have tka__2 := fun o => (Ext.alloc w25 o).cell ka__2
          have tkb__0 := fun o => (Ext.alloc w25 o).cell kb__0
          have tkb__1 := fun o => (Ext.alloc w25 o).cell kb__1
          have tkb__2 := fun o => (Ext.alloc w25 o).cell kb__2
          have td_0 := fun o => (Ext.alloc w25 o).cell d_0
          have td_1 := fun o => (Ext.alloc w25 o).cell d_1
          have td_2 := fun o => (Ext.alloc w25 o).cell d_2
          have td_3 := fun o => (Ext.alloc w25 o).cell d_3
          have td_4 := fun o => (Ext.alloc w25 o).cell d_4
          have td_5 := fun o => (Ext.alloc w25 o).cell d_5
          have tc__0 := fun o => (Ext.alloc w25 o).cell c__0
          have tc__1 := fun o => (Ext.alloc w25 o).cell c__1
          have tc__2 := fun o => (Ext.alloc w25 o).cell c__2
          have tp_0 := fun o => (Ext.alloc w25 o).cell p_0
          have tp_1 := fun o => (Ext.alloc w25 o).cell p_1
          have tp_2 := fun o => (Ext.alloc w25 o).cell p_2
          have tp_3 := fun o => (Ext.alloc w25 o).cell p_3
          have tp_4 := fun o => (Ext.alloc w25 o).cell p_4
          have tp_5 := fun o => (Ext.alloc w25 o).cell p_5
          go_wp2_with fail
          clear te0_0 te0_1 te0_2 te0_3 te0_4 te0_5 te1_0 te1_1 te1_2 te1_3 te1_4 te1_5 te2_0 te2_1 te2_2 te2_3 te2_4 te2_5 tka__0 tka__1 tka__2 tkb__0 tkb__1 tkb__2 td_0 td_1 td_2 td_3 td_4 td_5 tc__0 tc__1 tc__2 tp_0 tp_1 tp_2 tp_3 tp_4 tp_5
          obtain ⟨w26, hw⟩ : ∃ z : World, z = (w25.alloc (.cells #[.bool sz, .slice Az Lz cz, .slice Bz Mz dz] 27)) := ⟨_, rfl⟩
          rw [← hw]
          have x26 : Ext w25 w26 := by rw [hw]; exact Ext.alloc _ _
          have bb := box_at w25 #[.bool sz, .slice Az Lz cz, .slice Bz Mz dz] 27
          rw [← hw] at bb
          replace e0_0 := x26.cell e0_0
          replace e0_1 := x26.cell e0_1
          replace e0_2 := x26.cell e0_2
          replace e0_3 := x26.cell e0_3
          replace e0_4 := x26.cell e0_4
          replace e0_5 := x26.cell e0_5
          replace e1_0 := x26.cell e1_0
          replace e1_1 := x26.cell e1_1
          replace e1_2 := x26.cell e1_2
          replace e1_3 := x26.cell e1_3
          replace e1_4 := x26.cell e1_4
          replace e1_5 := x26.cell e1_5
          replace e2_0 := x26.cell e2_0
          replace e2_1 := x26.cell e2_1
          replace e2_2 := x26.cell e2_2
          replace e2_3 := x26.cell e2_3
          replace e2_4 := x26.cell e2_4
          replace e2_5 := x26.cell e2_5
          replace ka__0 := x26.cell ka__0
          replace ka__1 := x26.cell ka__1
          replace ka__2 := x26.cell ka__2
          replace kb__0 := x26.cell kb__0
          replace kb__1 := x26.cell kb__1
          replace kb__2 := x26.cell kb__2
          replace d_0 := x26.cell d_0
          replace d_1 := x26.cell d_1
          replace d_2 := x26.cell d_2
          replace d_3 := x26.cell d_3
          replace d_4 := x26.cell d_4
          replace d_5 := x26.cell d_5
          replace c__0 := x26.cell c__0
          replace c__1 := x26.cell c__1
          replace c__2 := x26.cell c__2
          replace p_0 := x26.cell p_0
          replace p_1 := x26.cell p_1
          replace p_2 := x26.cell p_2
          replace p_3 := x26.cell p_3
          replace p_4 := x26.cell p_4
          replace p_5 := x26.cell p_5
          have z__0 := bb.1 0 (.bool sz) rfl
          have z__1 := bb.1 1 (.slice Az Lz cz) rfl
          have z__2 := bb.1 2 (.slice Bz Mz dz) rfl
          clear hw bb
          have z := HZZ.out
          go_wp2_with fail
          refine (contains_is (pa.rv.ext (by repeat' (first | with_reducible exact Ext.refl _ | with_reducible assumption | with_reducible apply Ext.alloc_r | with_reducible apply Ext.drew_r | with_reducible apply Ext.drewN_r | with_reducible refine Ext.trans ?_ ‹Ext _ _›))) (pb.rv.ext (by repeat' (first | with_reducible exact Ext.refl _ | with_reducible assumption | with_reducible apply Ext.alloc_r | with_reducible apply Ext.drew_r | with_reducible apply Ext.drewN_r | with_reducible refine Ext.trans ?_ ‹Ext _ _›))) (z.rv.ext (by repeat' (first | with_reducible exact Ext.refl _ | with_reducible assumption | with_reducible apply Ext.alloc_r | with_reducible apply Ext.drew_r | with_reducible apply Ext.drewN_r | with_reducible refine Ext.trans ?_ ‹Ext _ _›))) (by omega) C5.out).mono ?_
          rintro e w27 ⟨rfl, x27⟩
          replace e0_0 := x27.cell e0_0
          replace e0_1 := x27.cell e0_1
          replace e0_2 := x27.cell e0_2
          replace e0_3 := x27.cell e0_3
          replace e0_4 := x27.cell e0_4
          replace e0_5 := x27.cell e0_5
          replace e1_0 := x27.cell e1_0
          replace e1_1 := x27.cell e1_1
          replace e1_2 := x27.cell e1_2
          replace e1_3 := x27.cell e1_3
          replace e1_4 := x27.cell e1_4
          replace e1_5 := x27.cell e1_5
          replace e2_0 := x27.cell e2_0
          replace e2_1 := x27.cell e2_1
          replace e2_2 := x27.cell e2_2
          replace e2_3 := x27.cell e2_3
          replace e2_4 := x27.cell e2_4
          replace e2_5 := x27.cell e2_5
          replace ka__0 := x27.cell ka__0
          replace ka__1 := x27.cell ka__1
          replace ka__2 := x27.cell ka__2
          replace kb__0 := x27.cell kb__0
          replace kb__1 := x27.cell kb__1
          replace kb__2 := x27.cell kb__2
          replace d_0 := x27.cell d_0
          replace d_1 := x27.cell d_1
          replace d_2 := x27.cell d_2
          replace d_3 := x27.cell d_3
          replace d_4 := x27.cell d_4
          replace d_5 := x27.cell d_5
          replace c__0 := x27.cell c__0
          replace c__1 := x27.cell c__1
          replace c__2 := x27.cell c__2
          replace p_0 := x27.cell p_0
          replace p_1 := x27.cell p_1
          replace p_2 := x27.cell p_2
          replace p_3 := x27.cell p_3
          replace p_4 := x27.cell p_4
          replace p_5 := x27.cell p_5
          replace z__0 := x27.cell z__0
          replace z__1 := x27.cell z__1
          replace z__2 := x27.cell z__2
          go_wp2_with fail
          go_ret
          exact ⟨rfl, (by repeat' (first | with_reducible exact Ext.refl _ | with_reducible assumption | with_reducible apply Ext.alloc_r | with_reducible apply Ext.drew_r | with_reducible apply Ext.drewN_r | with_reducible refine Ext.trans ?_ ‹Ext _ _›))⟩
        · by_cases he : z1 = z2
          · by_cases hy0 : Y = 0
            · have h5 : z1 = 0 := Decidable.byContradiction fun h => hs ⟨he, h⟩
              have HS : Hid (z1 = 0 ∧ z2 = 0) := ⟨h5, by rw [← he]; exact h5⟩
              clear h5 he hs hz1 hz2
              have HY0 := Lib.hid hy0
              clear hy0
              go_wp2_with fail
              refine (iquo_zero (e3.ext (by repeat' (first | with_reducible exact Ext.refl _ | with_reducible assumption | with_reducible apply Ext.alloc_r | with_reducible apply Ext.drew_r | with_reducible apply Ext.drewN_r | with_reducible refine Ext.trans ?_ ‹Ext _ _›))) (e4.ext (by repeat' (first | with_reducible exact Ext.refl _ | with_reducible assumption | with_reducible apply Ext.alloc_r | with_reducible apply Ext.drew_r | with_reducible apply Ext.drewN_r | with_reducible refine Ext.trans ?_ ‹Ext _ _›))) HZ1.out HZ2.out HS.out).mono ?_
              rintro e w18 ⟨rfl, x18⟩
              replace e0_0 := x18.cell e0_0
              replace e0_1 := x18.cell e0_1
              replace e0_2 := x18.cell e0_2
              replace e0_3 := x18.cell e0_3
              replace e0_4 := x18.cell e0_4
              replace e0_5 := x18.cell e0_5
              replace e1_0 := x18.cell e1_0
              replace e1_1 := x18.cell e1_1
              replace e1_2 := x18.cell e1_2
              replace e1_3 := x18.cell e1_3
              replace e1_4 := x18.cell e1_4
              replace e1_5 := x18.cell e1_5
              replace e2_0 := x18.cell e2_0
              replace e2_1 := x18.cell e2_1
              replace e2_2 := x18.cell e2_2
              replace e2_3 := x18.cell e2_3
              replace e2_4 := x18.cell e2_4
              replace e2_5 := x18.cell e2_5
              replace ka__0 := x18.cell ka__0
              replace ka__1 := x18.cell ka__1
              replace ka__2 := x18.cell ka__2
              replace kb__0 := x18.cell kb__0
              replace kb__1 := x18.cell kb__1
              replace kb__2 := x18.cell kb__2
              have te0_0 := fun o => (Ext.alloc w18 o).cell e0_0
              have te0_1 := fun o => (Ext.alloc w18 o).cell e0_1
              have te0_2 := fun o => (Ext.alloc w18 o).cell e0_2
              have te0_3 := fun o => (Ext.alloc w18 o).cell e0_3
              have te0_4 := fun o => (Ext.alloc w18 o).cell e0_4
              have te0_5 := fun o => (Ext.alloc w18 o).cell e0_5
              have te1_0 := fun o => (Ext.alloc w18 o).cell e1_0
              have te1_1 := fun o => (Ext.alloc w18 o).cell e1_1
              have te1_2 := fun o => (Ext.alloc w18 o).cell e1_2
              have te1_3 := fun o => (Ext.alloc w18 o).cell e1_3
              have te1_4 := fun o => (Ext.alloc w18 o).cell e1_4
              have te1_5 := fun o => (Ext.alloc w18 o).cell e1_5
              have te2_0 := fun o => (Ext.alloc w18 o).cell e2_0
              have te2_1 := fun o => (Ext.alloc w18 o).cell e2_1
              have te2_2 := fun o => (Ext.alloc w18 o).cell e2_2
              have te2_3 := fun o => (Ext.alloc w18 o).cell e2_3
              have te2_4 := fun o => (Ext.alloc w18 o).cell e2_4
              have te2_5 := fun o => (Ext.alloc w18 o).cell e2_5
              have tka__0 := fun o => (Ext.alloc w18 o).cell ka__0
              have tka__1 := fun o => (Ext.alloc w18 o).cell ka__1
              have tka__2 := fun o => (Ext.alloc w18 o).cell ka__2
              have tkb__0 := fun o => (Ext.alloc w18 o).cell kb__0
              have tkb__1 := fun o => (Ext.alloc w18 o).cell kb__1
              have tkb__2 := fun o => (Ext.alloc w18 o).cell kb__2
              go_wp2_with fail
              clear te0_0 te0_1 te0_2 te0_3 te0_4 te0_5 te1_0 te1_1 te1_2 te1_3 te1_4 te1_5 te2_0 te2_1 te2_2 te2_3 te2_4 te2_5 tka__0 tka__1 tka__2 tkb__0 tkb__1 tkb__2
              obtain ⟨w19, hw⟩ : ∃ z : World, z = (w18.alloc (.cells #[.bool false, .slice none 0 0, .slice none 0 0, .bool false, .slice none 0 0, .slice none 0 0] 29)) := ⟨_, rfl⟩
              rw [← hw]
              have x19 : Ext w18 w19 := by rw [hw]; exact Ext.alloc _ _
              have bb := box_at w18 #[.bool false, .slice none 0 0, .slice none 0 0, .bool false, .slice none 0 0, .slice none 0 0] 29
              rw [← hw] at bb
              replace e0_0 := x19.cell e0_0
              replace e0_1 := x19.cell e0_1
              replace e0_2 := x19.cell e0_2
              replace e0_3 := x19.cell e0_3
              replace e0_4 := x19.cell e0_4
              replace e0_5 := x19.cell e0_5
              replace e1_0 := x19.cell e1_0
              replace e1_1 := x19.cell e1_1
              replace e1_2 := x19.cell e1_2
              replace e1_3 := x19.cell e1_3
              replace e1_4 := x19.cell e1_4
              replace e1_5 := x19.cell e1_5
              replace e2_0 := x19.cell e2_0
              replace e2_1 := x19.cell e2_1
              replace e2_2 := x19.cell e2_2
              replace e2_3 := x19.cell e2_3
              replace e2_4 := x19.cell e2_4
              replace e2_5 := x19.cell e2_5
              replace ka__0 := x19.cell ka__0
              replace ka__1 := x19.cell ka__1
              replace ka__2 := x19.cell ka__2
              replace kb__0 := x19.cell kb__0
              replace kb__1 := x19.cell kb__1
              replace kb__2 := x19.cell kb__2
              have d_0 := bb.1 0 (.bool false) rfl
              have d_1 := bb.1 1 (.slice none 0 0) rfl
              have d_2 := bb.1 2 (.slice none 0 0) rfl
              have d_3 := bb.1 3 (.bool false) rfl
              have d_4 := bb.1 4 (.slice none 0 0) rfl
              have d_5 := bb.1 5 (.slice none 0 0) rfl
              clear hw bb
              go_wp2_with fail
              refine (rquo_zero (ka.ext (by repeat' (first | with_reducible exact Ext.refl _ | with_reducible assumption | with_reducible apply Ext.alloc_r | with_reducible apply Ext.drew_r | with_reducible apply Ext.drewN_r | with_reducible refine Ext.trans ?_ ‹Ext _ _›))) (kb.ext (by repeat' (first | with_reducible exact Ext.refl _ | with_reducible assumption | with_reducible apply Ext.alloc_r | with_reducible apply Ext.drew_r | with_reducible apply Ext.drewN_r | with_reducible refine Ext.trans ?_ ‹Ext _ _›))) HY0.out (by omega) (by omega)).mono ?_
              rintro e w20 ⟨rfl, x20⟩
              replace e0_0 := x20.cell e0_0
              replace e0_1 := x20.cell e0_1
              replace e0_2 := x20.cell e0_2
              replace e0_3 := x20.cell e0_3
              replace e0_4 := x20.cell e0_4
              replace e0_5 := x20.cell e0_5
              replace e1_0 := x20.cell e1_0
              replace e1_1 := x20.cell e1_1
              replace e1_2 := x20.cell e1_2
              replace e1_3 := x20.cell e1_3
              replace e1_4 := x20.cell e1_4
              replace e1_5 := x20.cell e1_5
              replace e2_0 := x20.cell e2_0
              replace e2_1 := x20.cell e2_1
              replace e2_2 := x20.cell e2_2
              replace e2_3 := x20.cell e2_3
              replace e2_4 := x20.cell e2_4
              replace e2_5 := x20.cell e2_5
              replace ka__0 := x20.cell ka__0
              replace ka__1 := x20.cell ka__1
              replace ka__2 := x20.cell ka__2
              replace kb__0 := x20.cell kb__0
              replace kb__1 := x20.cell kb__1
              replace kb__2 := x20.cell kb__2
              replace d_0 := x20.cell d_0
              replace d_1 := x20.cell d_1
              replace d_2 := x20.cell d_2
              replace d_3 := x20.cell d_3
              replace d_4 := x20.cell d_4
              replace d_5 := x20.cell d_5
              have te0_0 := fun o => (Ext.alloc w20 o).cell e0_0
              have te0_1 := fun o => (Ext.alloc w20 o).cell e0_1
              have te0_2 := fun o => (Ext.alloc w20 o).cell e0_2
              have te0_3 := fun o => (Ext.alloc w20 o).cell e0_3
              have te0_4 := fun o => (Ext.alloc w20 o).cell e0_4
              have te0_5 := fun o => (Ext.alloc w20 o).cell e0_5
              have te1_0 := fun o => (Ext.alloc w20 o).cell e1_0
              have te1_1 := fun o => (Ext.alloc w20 o).cell e1_1
              have te1_2 := fun o => (Ext.alloc w20 o).cell e1_2
              have te1_3 := fun o => (Ext.alloc w20 o).cell e1_3
              have te1_4 := fun o => (Ext.alloc w20 o).cell e1_4
              have te1_5 := fun o => (Ext.alloc w20 o).cell e1_5
              have te2_0 := fun o => (Ext.alloc w20 o).cell e2_0
              have te2_1 := fun o => (Ext.alloc w20 o).cell e2_1
              have te2_2 := fun o => (Ext.alloc w20 o).cell e2_2
              have te2_3 := fun o => (Ext.alloc w20 o).cell e2_3
              have te2_4 := fun o => (Ext.alloc w20 o).cell e2_4
              have te2_5 := fun o => (Ext.alloc w20 o).cell e2_5
              have tka__0 := fun o => (Ext.alloc w20 o).cell ka__0
              have tka__1 := fun o => (Ext.alloc w20 o).cell ka__1
              have tka__2 := fun o => (Ext.alloc w20 o).cell ka__2
              have tkb__0 := fun o => (Ext.alloc w20 o).cell kb__0
              have tkb__1 := fun o => (Ext.alloc w20 o).cell kb__1
              have tkb__2 := fun o => (Ext.alloc w20 o).cell kb__2
              have td_0 := fun o => (Ext.alloc w20 o).cell d_0
              have td_1 := fun o => (Ext.alloc w20 o).cell d_1
              have td_2 := fun o => (Ext.alloc w20 o).cell d_2
              have td_3 := fun o => (Ext.alloc w20 o).cell d_3
              have td_4 := fun o => (Ext.alloc w20 o).cell d_4
              have td_5 := fun o => (Ext.alloc w20 o).cell d_5
              go_wp2_with fail
              clear te0_0 te0_1 te0_2 te0_3 te0_4 te0_5 te1_0 te1_1 te1_2 te1_3 te1_4 te1_5 te2_0 te2_1 te2_2 te2_3 te2_4 te2_5 tka__0 tka__1 tka__2 tkb__0 tkb__1 tkb__2 td_0 td_1 td_2 td_3 td_4 td_5
              obtain ⟨w21, hw⟩ : ∃ z : World, z = (w20.alloc (.cells #[.bool false, .slice none 0 0, .slice none 0 0] 27)) := ⟨_, rfl⟩
              rw [← hw]
              have x21 : Ext w20 w21 := by rw [hw]; exact Ext.alloc _ _
              have bb := box_at w20 #[.bool false, .slice none 0 0, .slice none 0 0] 27
              rw [← hw] at bb
              replace e0_0 := x21.cell e0_0
              replace e0_1 := x21.cell e0_1
              replace e0_2 := x21.cell e0_2
              replace e0_3 := x21.cell e0_3
              replace e0_4 := x21.cell e0_4
              replace e0_5 := x21.cell e0_5
              replace e1_0 := x21.cell e1_0
              replace e1_1 := x21.cell e1_1
              replace e1_2 := x21.cell e1_2
              replace e1_3 := x21.cell e1_3
              replace e1_4 := x21.cell e1_4
              replace e1_5 := x21.cell e1_5
              replace e2_0 := x21.cell e2_0
              replace e2_1 := x21.cell e2_1
              replace e2_2 := x21.cell e2_2
              replace e2_3 := x21.cell e2_3
              replace e2_4 := x21.cell e2_4
              replace e2_5 := x21.cell e2_5
              replace ka__0 := x21.cell ka__0
              replace ka__1 := x21.cell ka__1
              replace ka__2 := x21.cell ka__2
              replace kb__0 := x21.cell kb__0
              replace kb__1 := x21.cell kb__1
              replace kb__2 := x21.cell kb__2
              replace d_0 := x21.cell d_0
              replace d_1 := x21.cell d_1
              replace d_2 := x21.cell d_2
              replace d_3 := x21.cell d_3
              replace d_4 := x21.cell d_4
              replace d_5 := x21.cell d_5
              have c__0 := bb.1 0 (.bool false) rfl
              have c__1 := bb.1 1 (.slice none 0 0) rfl
              have c__2 := bb.1 2 (.slice none 0 0) rfl
              clear hw bb
              go_wp2_with fail
              refine (ipow_r (k := 4) (e1.ext (by repeat' (first | with_reducible exact Ext.refl _ | with_reducible assumption | with_reducible apply Ext.alloc_r | with_reducible apply Ext.drew_r | with_reducible apply Ext.drewN_r | with_reducible refine Ext.trans ?_ ‹Ext _ _›))) (e2.ext (by repeat' (first | with_reducible exact Ext.refl _ | with_reducible assumption | with_reducible apply Ext.alloc_r | with_reducible apply Ext.drew_r | with_reducible apply Ext.drewN_r | with_reducible refine Ext.trans ?_ ‹Ext _ _›))) (by omega) (by omega) (by omega)).mono ?_
              rintro e w22 ⟨spa, Apa, cpa, Lpa, Bpa, dpa, Mpa, spb, Apb, cpb, Lpb, Bpb, dpb, Mpb, rfl, pa, pb, x22⟩
              replace e0_0 := x22.cell e0_0
              replace e0_1 := x22.cell e0_1
              replace e0_2 := x22.cell e0_2
              replace e0_3 := x22.cell e0_3
              replace e0_4 := x22.cell e0_4
              replace e0_5 := x22.cell e0_5
              replace e1_0 := x22.cell e1_0
              replace e1_1 := x22.cell e1_1
              replace e1_2 := x22.cell e1_2
              replace e1_3 := x22.cell e1_3
              replace e1_4 := x22.cell e1_4
              replace e1_5 := x22.cell e1_5
              replace e2_0 := x22.cell e2_0
              replace e2_1 := x22.cell e2_1
              replace e2_2 := x22.cell e2_2
              replace e2_3 := x22.cell e2_3
              replace e2_4 := x22.cell e2_4
              replace e2_5 := x22.cell e2_5
              replace ka__0 := x22.cell ka__0
              replace ka__1 := x22.cell ka__1
              replace ka__2 := x22.cell ka__2
              replace kb__0 := x22.cell kb__0
              replace kb__1 := x22.cell kb__1
              replace kb__2 := x22.cell kb__2
              replace d_0 := x22.cell d_0
              replace d_1 := x22.cell d_1
              replace d_2 := x22.cell d_2
              replace d_3 := x22.cell d_3
              replace d_4 := x22.cell d_4
              replace d_5 := x22.cell d_5
              replace c__0 := x22.cell c__0
              replace c__1 := x22.cell c__1
              replace c__2 := x22.cell c__2
              have HPW := Lib.hid (And.intro pa pb)
              clear pa pb
              have te0_0 := fun o => (Ext.alloc w22 o).cell e0_0
              have te0_1 := fun o => (Ext.alloc w22 o).cell e0_1
              have te0_2 := fun o => (Ext.alloc w22 o).cell e0_2
              have te0_3 := fun o => (Ext.alloc w22 o).cell e0_3
              have te0_4 := fun o => (Ext.alloc w22 o).cell e0_4
              have te0_5 := fun o => (Ext.alloc w22 o).cell e0_5
              have te1_0 := fun o => (Ext.alloc w22 o).cell e1_0
              have te1_1 := fun o => (Ext.alloc w22 o).cell e1_1
              have te1_2 := fun o => (Ext.alloc w22 o).cell e1_2
              have te1_3 := fun o => (Ext.alloc w22 o).cell e1_3
              have te1_4 := fun o => (Ext.alloc w22 o).cell e1_4
              have te1_5 := fun o => (Ext.alloc w22 o).cell e1_5
              have te2_0 := fun o => (Ext.alloc w22 o).cell e2_0
              have te2_1 := fun o => (Ext.alloc w22 o).cell e2_1
              have te2_2 := fun o => (Ext.alloc w22 o).cell e2_2
              have te2_3 := fun o => (Ext.alloc w22 o).cell e2_3
              have te2_4 := fun o => (Ext.alloc w22 o).cell e2_4
              have te2_5 := fun o => (Ext.alloc w22 o).cell e2_5
              have tka__0 := fun o => (Ext.alloc w22 o).cell ka__0
              have tka__1 := fun o => (Ext.alloc w22 o).cell ka__1
              have tka__2 := fun o => (Ext.alloc w22 o).cell ka__2
              have tkb__0 := fun o => (Ext.alloc w22 o).cell kb__0
              have tkb__1 := fun o => (Ext.alloc w22 o).cell kb__1
              have tkb__2 := fun o => (Ext.alloc w22 o).cell kb__2
              have td_0 := fun o => (Ext.alloc w22 o).cell d_0
              have td_1 := fun o => (Ext.alloc w22 o).cell d_1
              have td_2 := fun o => (Ext.alloc w22 o).cell d_2
              have td_3 := fun o => (Ext.alloc w22 o).cell d_3
              have td_4 := fun o => (Ext.alloc w22 o).cell d_4
              have td_5 := fun o => (Ext.alloc w22 o).cell d_5
              have tc__0 := fun o => (Ext.alloc w22 o).cell c__0
              have tc__1 := fun o => (Ext.alloc w22 o).cell c__1
              have tc__2 := fun o => (Ext.alloc w22 o).cell c__2
              go_wp2_with fail
              clear te0_0 te0_1 te0_2 te0_3 te0_4 te0_5 te1_0 te1_1 te1_2 te1_3 te1_4 te1_5 te2_0 te2_1 te2_2 te2_3 te2_4 te2_5 tka__0 tka__1 tka__2 tkb__0 tkb__1 tkb__2 td_0 td_1 td_2 td_3 td_4 td_5 tc__0 tc__1 tc__2
              obtain ⟨w23, hw⟩ : ∃ z : World, z = (w22.alloc (.cells #[.bool spa, .slice Apa Lpa cpa, .slice Bpa Mpa dpa, .bool spb, .slice Apb Lpb cpb, .slice Bpb Mpb dpb] 29)) := ⟨_, rfl⟩
              rw [← hw]
              have x23 : Ext w22 w23 := by rw [hw]; exact Ext.alloc _ _
              have bb := box_at w22 #[.bool spa, .slice Apa Lpa cpa, .slice Bpa Mpa dpa, .bool spb, .slice Apb Lpb cpb, .slice Bpb Mpb dpb] 29
              rw [← hw] at bb
              replace e0_0 := x23.cell e0_0
              replace e0_1 := x23.cell e0_1
              replace e0_2 := x23.cell e0_2
              replace e0_3 := x23.cell e0_3
              replace e0_4 := x23.cell e0_4
              replace e0_5 := x23.cell e0_5
              replace e1_0 := x23.cell e1_0
              replace e1_1 := x23.cell e1_1
              replace e1_2 := x23.cell e1_2
              replace e1_3 := x23.cell e1_3
              replace e1_4 := x23.cell e1_4
              replace e1_5 := x23.cell e1_5
              replace e2_0 := x23.cell e2_0
              replace e2_1 := x23.cell e2_1
              replace e2_2 := x23.cell e2_2
              replace e2_3 := x23.cell e2_3
              replace e2_4 := x23.cell e2_4
              replace e2_5 := x23.cell e2_5
              replace ka__0 := x23.cell ka__0
              replace ka__1 := x23.cell ka__1
              replace ka__2 := x23.cell ka__2
              replace kb__0 := x23.cell kb__0
              replace kb__1 := x23.cell kb__1
              replace kb__2 := x23.cell kb__2
              replace d_0 := x23.cell d_0
              replace d_1 := x23.cell d_1
              replace d_2 := x23.cell d_2
              replace d_3 := x23.cell d_3
              replace d_4 := x23.cell d_4
              replace d_5 := x23.cell d_5
              replace c__0 := x23.cell c__0
              replace c__1 := x23.cell c__1
              replace c__2 := x23.cell c__2
              have p_0 := bb.1 0 (.bool spa) rfl
              have p_1 := bb.1 1 (.slice Apa Lpa cpa) rfl
              have p_2 := bb.1 2 (.slice Bpa Mpa dpa) rfl
              have p_3 := bb.1 3 (.bool spb) rfl
              have p_4 := bb.1 4 (.slice Apb Lpb cpb) rfl
              have p_5 := bb.1 5 (.slice Bpb Mpb dpb) rfl
              clear hw bb
              have pa := HPW.out.1
              have pb := HPW.out.2
              go_wp2_with fail
              refine (rpow_r (k := 4) (ka.ext (by repeat' (first | with_reducible exact Ext.refl _ | with_reducible assumption | with_reducible apply Ext.alloc_r | with_reducible apply Ext.drew_r | with_reducible apply Ext.drewN_r | with_reducible refine Ext.trans ?_ ‹Ext _ _›))) (by omega) (by omega) (by omega)).mono ?_
              rintro e w24 ⟨sz, Az, cz, Lz, Bz, dz, Mz, rfl, z, x24⟩
              replace e0_0 := x24.cell e0_0
              replace e0_1 := x24.cell e0_1
              replace e0_2 := x24.cell e0_2
              replace e0_3 := x24.cell e0_3
              replace e0_4 := x24.cell e0_4
              replace e0_5 := x24.cell e0_5
              replace e1_0 := x24.cell e1_0
              replace e1_1 := x24.cell e1_1
              replace e1_2 := x24.cell e1_2
              replace e1_3 := x24.cell e1_3
              replace e1_4 := x24.cell e1_4
              replace e1_5 := x24.cell e1_5
              replace e2_0 := x24.cell e2_0
              replace e2_1 := x24.cell e2_1
              replace e2_2 := x24.cell e2_2
              replace e2_3 := x24.cell e2_3
              replace e2_4 := x24.cell e2_4
              replace e2_5 := x24.cell e2_5
              replace ka__0 := x24.cell ka__0
              replace ka__1 := x24.cell ka__1
              replace ka__2 := x24.cell ka__2
              replace kb__0 := x24.cell kb__0
              replace kb__1 := x24.cell kb__1
              replace kb__2 := x24.cell kb__2
              replace d_0 := x24.cell d_0
              replace d_1 := x24.cell d_1
              replace d_2 := x24.cell d_2
              replace d_3 := x24.cell d_3
              replace d_4 := x24.cell d_4
              replace d_5 := x24.cell d_5
              replace c__0 := x24.cell c__0
              replace c__1 := x24.cell c__1
              replace c__2 := x24.cell c__2
              replace p_0 := x24.cell p_0
              replace p_1 := x24.cell p_1
              replace p_2 := x24.cell p_2
              replace p_3 := x24.cell p_3
              replace p_4 := x24.cell p_4
              replace p_5 := x24.cell p_5
              have HZZ := Lib.hid z
              clear z
              have te0_0 := fun o => (Ext.alloc w24 o).cell e0_0
              have te0_1 := fun o => (Ext.alloc w24 o).cell e0_1
              have te0_2 := fun o => (Ext.alloc w24 o).cell e0_2
              have te0_3 := fun o => (Ext.alloc w24 o).cell e0_3
              have te0_4 := fun o => (Ext.alloc w24 o).cell e0_4
              have te0_5 := fun o => (Ext.alloc w24 o).cell e0_5
              have te1_0 := fun o => (Ext.alloc w24 o).cell e1_0
              have te1_1 := fun o => (Ext.alloc w24 o).cell e1_1
              have te1_2 := fun o => (Ext.alloc w24 o).cell e1_2
              have te1_3 := fun o => (Ext.alloc w24 o).cell e1_3
              have te1_4 := fun o => (Ext.alloc w24 o).cell e1_4
              have te1_5 := fun o => (Ext.alloc w24 o).cell e1_5
              have te2_0 := fun o => (Ext.alloc w24 o).cell e2_0
              have te2_1 := fun o => (Ext.alloc w24 o).cell e2_1
              have te2_2 := fun o => (Ext.alloc w24 o).cell e2_2
              have te2_3 := fun o => (Ext.alloc w24 o).cell e2_3
              have te2_4 := fun o => (Ext.alloc w24 o).cell e2_4
              have te2_5 := fun o => (Ext.alloc w24 o).cell e2_5
              have tka__0 := fun o => (Ext.alloc w24 o).cell ka__0
              have tka__1 := fun o => (Ext.alloc w24 o).cell ka__1
              have tka__2 := fun o => (Ext.alloc w24 o).cell ka__2
              have tkb__0 := fun o => (Ext.alloc w24 o).cell kb__0
              have tkb__1 := fun o => (Ext.alloc w24 o).cell kb__1
              have tkb__2 := fun o => (Ext.alloc w24 o).cell kb__2
              have td_0 := fun o => (Ext.alloc w24 o).cell d_0
              have td_1 := fun o => (Ext.alloc w24 o).cell d_1
              have td_2 := fun o => (Ext.alloc w24 o).cell d_2
              have td_3 := fun o => (Ext.alloc w24 o).cell d_3
              have td_4 := fun o => (Ext.alloc w24 o).cell d_4
              have td_5 := fun o => (Ext.alloc w24 o).cell d_5
              have tc__0 := fun o => (Ext.alloc w24 o).cell c__0
              have tc__1 := fun o => (Ext.alloc w24 o).cell c__1
              have tc__2 := fun o => (Ext.alloc w24 o).cell c__2
              have tp_0 := fun o => (Ext.alloc w24 o).cell p_0
              have tp_1 := fun o => (Ext.alloc w24 o).cell p_1
              have tp_2 := fun o => (Ext.alloc w24 o).cell p_2
              have tp_3 := fun o => (Ext.alloc w24 o).cell p_3
              have tp_4 := fun o => (Ext.alloc w24 o).cell p_4
              have tp_5 := fun o => (Ext.alloc w24 o).cell p_5
              go_wp2_with fail
              clear te0_0 te0_1 te0_2 te0_3 te0_4 te0_5 te1_0 te1_1 te1_2 te1_3 te1_4 te1_5 te2_0 te2_1 te2_2 te2_3 te2_4 te2_5 tka__0 tka__1 tka__2 tkb__0 tkb__1 tkb__2 td_0 td_1 td_2 td_3 td_4 td_5 tc__0 tc__1 tc__2 tp_0 tp_1 tp_2 tp_3 tp_4 tp_5
              obtain ⟨w25, hw⟩ : ∃ z : World, z = (w24.alloc (.cells #[.bool sz, .slice Az Lz cz, .slice Bz Mz dz] 27)) := ⟨_, rfl⟩
              rw [← hw]
              have x25 : Ext w24 w25 := by rw [hw]; exact Ext.alloc _ _
              have bb := box_at w24 #[.bool sz, .slice Az Lz cz, .slice Bz Mz dz] 27
              rw [← hw] at bb
              replace e0_0 := x25.cell e0_0
              replace e0_1 := x25.cell e0_1
              replace e0_2 := x25.cell e0_2
              replace e0_3 := x25.cell e0_3
              replace e0_4 := x25.cell e0_4
              replace e0_5 := x25.cell e0_5
              replace e1_0 := x25.cell e1_0
              replace e1_1 := x25.cell e1_1
              replace e1_2 := x25.cell e1_2
              replace e1_3 := x25.cell e1_3
              replace e1_4 := x25.cell e1_4
              replace e1_5 := x25.cell e1_5
              replace e2_0 := x25.cell e2_0
              replace e2_1 := x25.cell e2_1
              replace e2_2 := x25.cell e2_2
              replace e2_3 := x25.cell e2_3
              replace e2_4 := x25.cell e2_4
              replace e2_5 := x25.cell e2_5
              replace ka__0 := x25.cell ka__0
              replace ka__1 := x25.cell ka__1
              replace ka__2 := x25.cell ka__2
              replace kb__0 := x25.cell kb__0
              replace kb__1 := x25.cell kb__1
              replace kb__2 := x25.cell kb__2
              replace d_0 := x25.cell d_0
              replace d_1 := x25.cell d_1
              replace d_2 := x25.cell d_2
              replace d_3 := x25.cell d_3
              replace d_4 := x25.cell d_4
              replace d_5 := x25.cell d_5
              replace c__0 := x25.cell c__0
              replace c__1 := x25.cell c__1
              replace c__2 := x25.cell c__2
              replace p_0 := x25.cell p_0
              replace p_1 := x25.cell p_1
              replace p_2 := x25.cell p_2
              replace p_3 := x25.cell p_3
              replace p_4 := x25.cell p_4
              replace p_5 := x25.cell p_5
              have z__0 := bb.1 0 (.bool sz) rfl
              have z__1 := bb.1 1 (.slice Az Lz cz) rfl
              have z__2 := bb.1 2 (.slice Bz Mz dz) rfl
              clear hw bb
              have z := HZZ.out
              go_wp2_with fail
              refine (contains_is (pa.rv.ext (by repeat' (first | with_reducible exact Ext.refl _ | with_reducible assumption | with_reducible apply Ext.alloc_r | with_reducible apply Ext.drew_r | with_reducible apply Ext.drewN_r | with_reducible refine Ext.trans ?_ ‹Ext _ _›))) (pb.rv.ext (by repeat' (first | with_reducible exact Ext.refl _ | with_reducible assumption | with_reducible apply Ext.alloc_r | with_reducible apply Ext.drew_r | with_reducible apply Ext.drewN_r | with_reducible refine Ext.trans ?_ ‹Ext _ _›))) (z.rv.ext (by repeat' (first | with_reducible exact Ext.refl _ | with_reducible assumption | with_reducible apply Ext.alloc_r | with_reducible apply Ext.drew_r | with_reducible apply Ext.drewN_r | with_reducible refine Ext.trans ?_ ‹Ext _ _›))) (by omega) C5.out).mono ?_
              rintro e w26 ⟨rfl, x26⟩
              replace e0_0 := x26.cell e0_0
              replace e0_1 := x26.cell e0_1
              replace e0_2 := x26.cell e0_2
              replace e0_3 := x26.cell e0_3
              replace e0_4 := x26.cell e0_4
              replace e0_5 := x26.cell e0_5
              replace e1_0 := x26.cell e1_0
              replace e1_1 := x26.cell e1_1
              replace e1_2 := x26.cell e1_2
              replace e1_3 := x26.cell e1_3
              replace e1_4 := x26.cell e1_4
              replace e1_5 := x26.cell e1_5
              replace e2_0 := x26.cell e2_0
              replace e2_1 := x26.cell e2_1
              replace e2_2 := x26.cell e2_2
              replace e2_3 := x26.cell e2_3
              replace e2_4 := x26.cell e2_4
              replace e2_5 := x26.cell e2_5
              replace ka__0 := x26.cell ka__0
              replace ka__1 := x26.cell ka__1
              replace ka__2 := x26.cell ka__2
              replace kb__0 := x26.cell kb__0
              replace kb__1 := x26.cell kb__1
              replace kb__2 := x26.cell kb__2
              replace d_0 := x26.cell d_0
              replace d_1 := x26.cell d_1
              replace d_2 := x26.cell d_2
              replace d_3 := x26.cell d_3
              replace d_4 := x26.cell d_4
              replace d_5 := x26.cell d_5
              replace c__0 := x26.cell c__0
              replace c__1 := x26.cell c__1
              replace c__2 := x26.cell c__2
              replace p_0 := x26.cell p_0
              replace p_1 := x26.cell p_1
              replace p_2 := x26.cell p_2
              replace p_3 := x26.cell p_3
              replace p_4 := x26.cell p_4
              replace p_5 := x26.cell p_5
              replace z__0 := x26.cell z__0
              replace z__1 := x26.cell z__1
              replace z__2 := x26.cell z__2
              go_wp2_with fail
              go_ret
              exact ⟨rfl, (by repeat' (first | with_reducible exact Ext.refl _ | with_reducible assumption | with_reducible apply Ext.alloc_r | with_reducible apply Ext.drew_r | with_reducible apply Ext.drewN_r | with_reducible refine Ext.trans ?_ ‹Ext _ _›))⟩
            · have h5 : z1 = 0 := Decidable.byContradiction fun h => hs ⟨he, h⟩
              have HS : Hid (z1 = 0 ∧ z2 = 0) := ⟨h5, by rw [← he]; exact h5⟩
              clear h5 he hs hz1 hz2
              have HY0 := Lib.hid hy0
              clear hy0
              go_wp2_with fail
              refine (iquo_zero (e3.ext (by repeat' (first | with_reducible exact Ext.refl _ | with_reducible assumption | with_reducible apply Ext.alloc_r | with_reducible apply Ext.drew_r | with_reducible apply Ext.drewN_r | with_reducible refine Ext.trans ?_ ‹Ext _ _›))) (e4.ext (by repeat' (first | with_reducible exact Ext.refl _ | with_reducible assumption | with_reducible apply Ext.alloc_r | with_reducible apply Ext.drew_r | with_reducible apply Ext.drewN_r | with_reducible refine Ext.trans ?_ ‹Ext _ _›))) HZ1.out HZ2.out HS.out).mono ?_
              rintro e w18 ⟨rfl, x18⟩
              replace e0_0 := x18.cell e0_0
              replace e0_1 := x18.cell e0_1
              replace e0_2 := x18.cell e0_2
              replace e0_3 := x18.cell e0_3
              replace e0_4 := x18.cell e0_4
              replace e0_5 := x18.cell e0_5
              replace e1_0 := x18.cell e1_0
              replace e1_1 := x18.cell e1_1
              replace e1_2 := x18.cell e1_2
              replace e1_3 := x18.cell e1_3
              replace e1_4 := x18.cell e1_4
              replace e1_5 := x18.cell e1_5
              replace e2_0 := x18.cell e2_0
              replace e2_1 := x18.cell e2_1
              replace e2_2 := x18.cell e2_2
              replace e2_3 := x18.cell e2_3
              replace e2_4 := x18.cell e2_4
              replace e2_5 := x18.cell e2_5
              replace ka__0 := x18.cell ka__0
              replace ka__1 := x18.cell ka__1
              replace ka__2 := x18.cell ka__2
              replace kb__0 := x18.cell kb__0
              replace kb__1 := x18.cell kb__1
              replace kb__2 := x18.cell kb__2
              have te0_0 := fun o => (Ext.alloc w18 o).cell e0_0
              have te0_1 := fun o => (Ext.alloc w18 o).cell e0_1
              have te0_2 := fun o => (Ext.alloc w18 o).cell e0_2
              have te0_3 := fun o => (Ext.alloc w18 o).cell e0_3
              have te0_4 := fun o => (Ext.alloc w18 o).cell e0_4
              have te0_5 := fun o => (Ext.alloc w18 o).cell e0_5
              have te1_0 := fun o => (Ext.alloc w18 o).cell e1_0
              have te1_1 := fun o => (Ext.alloc w18 o).cell e1_1
              have te1_2 := fun o => (Ext.alloc w18 o).cell e1_2
              have te1_3 := fun o => (Ext.alloc w18 o).cell e1_3
              have te1_4 := fun o => (Ext.alloc w18 o).cell e1_4
              have te1_5 := fun o => (Ext.alloc w18 o).cell e1_5
              have te2_0 := fun o => (Ext.alloc w18 o).cell e2_0
              have te2_1 := fun o => (Ext.alloc w18 o).cell e2_1
              have te2_2 := fun o => (Ext.alloc w18 o).cell e2_2
              have te2_3 := fun o => (Ext.alloc w18 o).cell e2_3
              have te2_4 := fun o => (Ext.alloc w18 o).cell e2_4
              have te2_5 := fun o => (Ext.alloc w18 o).cell e2_5
              have tka__0 := fun o => (Ext.alloc w18 o).cell ka__0
              have tka__1 := fun o => (Ext.alloc w18 o).cell ka__1
              have tka__2 := fun o => (Ext.alloc w18 o).cell ka__2
              have tkb__0 := fun o => (Ext.alloc w18 o).cell kb__0
              have tkb__1 := fun o => (Ext.alloc w18 o).cell kb__1
              have tkb__2 := fun o => (Ext.alloc w18 o).cell kb__2
              go_wp2_with fail
              clear te0_0 te0_1 te0_2 te0_3 te0_4 te0_5 te1_0 te1_1 te1_2 te1_3 te1_4 te1_5 te2_0 te2_1 te2_2 te2_3 te2_4 te2_5 tka__0 tka__1 tka__2 tkb__0 tkb__1 tkb__2
              obtain ⟨w19, hw⟩ : ∃ z : World, z = (w18.alloc (.cells #[.bool false, .slice none 0 0, .slice none 0 0, .bool false, .slice none 0 0, .slice none 0 0] 29)) := ⟨_, rfl⟩
              rw [← hw]
              have x19 : Ext w18 w19 := by rw [hw]; exact Ext.alloc _ _
              have bb := box_at w18 #[.bool false, .slice none 0 0, .slice none 0 0, .bool false, .slice none 0 0, .slice none 0 0] 29
              rw [← hw] at bb
              replace e0_0 := x19.cell e0_0
              replace e0_1 := x19.cell e0_1
              replace e0_2 := x19.cell e0_2
              replace e0_3 := x19.cell e0_3
              replace e0_4 := x19.cell e0_4
              replace e0_5 := x19.cell e0_5
              replace e1_0 := x19.cell e1_0
              replace e1_1 := x19.cell e1_1
              replace e1_2 := x19.cell e1_2
              replace e1_3 := x19.cell e1_3
              replace e1_4 := x19.cell e1_4
              replace e1_5 := x19.cell e1_5
              replace e2_0 := x19.cell e2_0
              replace e2_1 := x19.cell e2_1
              replace e2_2 := x19.cell e2_2
              replace e2_3 := x19.cell e2_3
              replace e2_4 := x19.cell e2_4
              replace e2_5 := x19.cell e2_5
              replace ka__0 := x19.cell ka__0
              replace ka__1 := x19.cell ka__1
              replace ka__2 := x19.cell ka__2
              replace kb__0 := x19.cell kb__0
              replace kb__1 := x19.cell kb__1
              replace kb__2 := x19.cell kb__2
              have d_0 := bb.1 0 (.bool false) rfl
              have d_1 := bb.1 1 (.slice none 0 0) rfl
              have d_2 := bb.1 2 (.slice none 0 0) rfl
              have d_3 := bb.1 3 (.bool false) rfl
              have d_4 := bb.1 4 (.slice none 0 0) rfl
              have d_5 := bb.1 5 (.slice none 0 0) rfl
              clear hw bb
              go_wp2_with fail
              refine (rquo_r (ka.ext (by repeat' (first | with_reducible exact Ext.refl _ | with_reducible assumption | with_reducible apply Ext.alloc_r | with_reducible apply Ext.drew_r | with_reducible apply Ext.drewN_r | with_reducible refine Ext.trans ?_ ‹Ext _ _›))) (kb.ext (by repeat' (first | with_reducible exact Ext.refl _ | with_reducible assumption | with_reducible apply Ext.alloc_r | with_reducible apply Ext.drew_r | with_reducible apply Ext.drewN_r | with_reducible refine Ext.trans ?_ ‹Ext _ _›))) HY0.out (by omega) (by omega)).mono ?_
              rintro e w20 ⟨sc, Ac, cc, Lc, Bc, dc, Mc, rfl, c, x20⟩
              replace e0_0 := x20.cell e0_0
              replace e0_1 := x20.cell e0_1
              replace e0_2 := x20.cell e0_2
              replace e0_3 := x20.cell e0_3
              replace e0_4 := x20.cell e0_4
              replace e0_5 := x20.cell e0_5
              replace e1_0 := x20.cell e1_0
              replace e1_1 := x20.cell e1_1
              replace e1_2 := x20.cell e1_2
              replace e1_3 := x20.cell e1_3
              replace e1_4 := x20.cell e1_4
              replace e1_5 := x20.cell e1_5
              replace e2_0 := x20.cell e2_0
              replace e2_1 := x20.cell e2_1
              replace e2_2 := x20.cell e2_2
              replace e2_3 := x20.cell e2_3
              replace e2_4 := x20.cell e2_4
              replace e2_5 := x20.cell e2_5
              replace ka__0 := x20.cell ka__0
              replace ka__1 := x20.cell ka__1
              replace ka__2 := x20.cell ka__2
              replace kb__0 := x20.cell kb__0
              replace kb__1 := x20.cell kb__1
              replace kb__2 := x20.cell kb__2
              replace d_0 := x20.cell d_0
              replace d_1 := x20.cell d_1
              replace d_2 := x20.cell d_2
              replace d_3 := x20.cell d_3
              replace d_4 := x20.cell d_4
              replace d_5 := x20.cell d_5
              have HCC := Lib.hid c
              clear c
              have te0_0 := fun o => (Ext.alloc w20 o).cell e0_0
              have te0_1 := fun o => (Ext.alloc w20 o).cell e0_1
              have te0_2 := fun o => (Ext.alloc w20 o).cell e0_2
              have te0_3 := fun o => (Ext.alloc w20 o).cell e0_3
              have te0_4 := fun o => (Ext.alloc w20 o).cell e0_4
              have te0_5 := fun o => (Ext.alloc w20 o).cell e0_5
              have te1_0 := fun o => (Ext.alloc w20 o).cell e1_0
              have te1_1 := fun o => (Ext.alloc w20 o).cell e1_1
              have te1_2 := fun o => (Ext.alloc w20 o).cell e1_2
              have te1_3 := fun o => (Ext.alloc w20 o).cell e1_3
              have te1_4 := fun o => (Ext.alloc w20 o).cell e1_4
              have te1_5 := fun o => (Ext.alloc w20 o).cell e1_5
              have te2_0 := fun o => (Ext.alloc w20 o).cell e2_0
              have te2_1 := fun o => (Ext.alloc w20 o).cell e2_1
              have te2_2 := fun o => (Ext.alloc w20 o).cell e2_2
              have te2_3 := fun o => (Ext.alloc w20 o).cell e2_3
              have te2_4 := fun o => (Ext.alloc w20 o).cell e2_4
              have te2_5 := fun o => (Ext.alloc w20 o).cell e2_5
              have tka__0 := fun o => (Ext.alloc w20 o).cell ka__0
              have tka__1 := fun o => (Ext.alloc w20 o).cell ka__1
              have tka__2 := fun o => (Ext.alloc w20 o).cell ka__2
              have tkb__0 := fun o => (Ext.alloc w20 o).cell kb__0
              have tkb__1 := fun o => (Ext.alloc w20 o).cell kb__1
              have tkb__2 := fun o => (Ext.alloc w20 o).cell kb__2
              have td_0 := fun o => (Ext.alloc w20 o).cell d_0
              have td_1 := fun o => (Ext.alloc w20 o).cell d_1
              have td_2 := fun o => (Ext.alloc w20 o).cell d_2
              have td_3 := fun o => (Ext.alloc w20 o).cell d_3
              have td_4 := fun o => (Ext.alloc w20 o).cell d_4
              have td_5 := fun o => (Ext.alloc w20 o).cell d_5
              go_wp2_with fail
              clear te0_0 te0_1 te0_2 te0_3 te0_4 te0_5 te1_0 te1_1 te1_2 te1_3 te1_4 te1_5 te2_0 te2_1 te2_2 te2_3 te2_4 te2_5 tka__0 tka__1 tka__2 tkb__0 tkb__1 tkb__2 td_0 td_1 td_2 td_3 td_4 td_5
              obtain ⟨w21, hw⟩ : ∃ z : World, z = (w20.alloc (.cells #[.bool sc, .slice Ac Lc cc, .slice Bc Mc dc] 27)) := ⟨_, rfl⟩
              rw [← hw]
              have x21 : Ext w20 w21 := by rw [hw]; exact Ext.alloc _ _
              have bb := box_at w20 #[.bool sc, .slice Ac Lc cc, .slice Bc Mc dc] 27
              rw [← hw] at bb
              replace e0_0 := x21.cell e0_0
              replace e0_1 := x21.cell e0_1
              replace e0_2 := x21.cell e0_2
              replace e0_3 := x21.cell e0_3
              replace e0_4 := x21.cell e0_4
              replace e0_5 := x21.cell e0_5
              replace e1_0 := x21.cell e1_0
              replace e1_1 := x21.cell e1_1
              replace e1_2 := x21.cell e1_2
              replace e1_3 := x21.cell e1_3
              replace e1_4 := x21.cell e1_4
              replace e1_5 := x21.cell e1_5
              replace e2_0 := x21.cell e2_0
              replace e2_1 := x21.cell e2_1
              replace e2_2 := x21.cell e2_2
              replace e2_3 := x21.cell e2_3
              replace e2_4 := x21.cell e2_4
              replace e2_5 := x21.cell e2_5
              replace ka__0 := x21.cell ka__0
              replace ka__1 := x21.cell ka__1
              replace ka__2 := x21.cell ka__2
              replace kb__0 := x21.cell kb__0
              replace kb__1 := x21.cell kb__1
              replace kb__2 := x21.cell kb__2
              replace d_0 := x21.cell d_0
              replace d_1 := x21.cell d_1
              replace d_2 := x21.cell d_2
              replace d_3 := x21.cell d_3
              replace d_4 := x21.cell d_4
              replace d_5 := x21.cell d_5
              have c__0 := bb.1 0 (.bool sc) rfl
              have c__1 := bb.1 1 (.slice Ac Lc cc) rfl
              have c__2 := bb.1 2 (.slice Bc Mc dc) rfl
              clear hw bb
              go_wp2_with fail
              refine (ipow_r (k := 4) (e1.ext (by repeat' (first | with_reducible exact Ext.refl _ | with_reducible assumption | with_reducible apply Ext.alloc_r | with_reducible apply Ext.drew_r | with_reducible apply Ext.drewN_r | with_reducible refine Ext.trans ?_ ‹Ext _ _›))) (e2.ext (by repeat' (first | with_reducible exact Ext.refl _ | with_reducible assumption | with_reducible apply Ext.alloc_r | with_reducible apply Ext.drew_r | with_reducible apply Ext.drewN_r | with_reducible refine Ext.trans ?_ ‹Ext _ _›))) (by omega) (by omega) (by omega)).mono ?_
              rintro e w22 ⟨spa, Apa, cpa, Lpa, Bpa, dpa, Mpa, spb, Apb, cpb, Lpb, Bpb, dpb, Mpb, rfl, pa, pb, x22⟩
              replace e0_0 := x22.cell e0_0
              replace e0_1 := x22.cell e0_1
              replace e0_2 := x22.cell e0_2
              replace e0_3 := x22.cell e0_3
              replace e0_4 := x22.cell e0_4
              replace e0_5 := x22.cell e0_5
              replace e1_0 := x22.cell e1_0
              replace e1_1 := x22.cell e1_1
              replace e1_2 := x22.cell e1_2
              replace e1_3 := x22.cell e1_3
              replace e1_4 := x22.cell e1_4
              replace e1_5 := x22.cell e1_5
              replace e2_0 := x22.cell e2_0
              replace e2_1 := x22.cell e2_1
              replace e2_2 := x22.cell e2_2
              replace e2_3 := x22.cell e2_3
              replace e2_4 := x22.cell e2_4
              replace e2_5 := x22.cell e2_5
              replace ka__0 := x22.cell ka__0
              replace ka__1 := x22.cell ka__1
              replace ka__2 := x22.cell ka__2
              replace kb__0 := x22.cell kb__0
              replace kb__1 := x22.cell kb__1
              replace kb__2 := x22.cell kb__2
              replace d_0 := x22.cell d_0
              replace d_1 := x22.cell d_1
              replace d_2 := x22.cell d_2
              replace d_3 := x22.cell d_3
              replace d_4 := x22.cell d_4
              replace d_5 := x22.cell d_5
              replace c__0 := x22.cell c__0
              replace c__1 := x22.cell c__1
              replace c__2 := x22.cell c__2
              have HPW := Lib.hid (And.intro pa pb)
              clear pa pb
              have te0_0 := fun o => (Ext.alloc w22 o).cell e0_0
              have te0_1 := fun o => (Ext.alloc w22 o).cell e0_1
              have te0_2 := fun o => (Ext.alloc w22 o).cell e0_2
              have te0_3 := fun o => (Ext.alloc w22 o).cell e0_3
              have te0_4 := fun o => (Ext.alloc w22 o).cell e0_4
              have te0_5 := fun o => (Ext.alloc w22 o).cell e0_5
              have te1_0 := fun o => (Ext.alloc w22 o).cell e1_0
              have te1_1 := fun o => (Ext.alloc w22 o).cell e1_1
              have te1_2 := fun o => (Ext.alloc w22 o).cell e1_2
              have te1_3 := fun o => (Ext.alloc w22 o).cell e1_3
              have te1_4 := fun o => (Ext.alloc w22 o).cell e1_4
              have te1_5 := fun o => (Ext.alloc w22 o).cell e1_5
              have te2_0 := fun o => (Ext.alloc w22 o).cell e2_0
              have te2_1 := fun o => (Ext.alloc w22 o).cell e2_1
              have te2_2 := fun o => (Ext.alloc w22 o).cell e2_2
              have te2_3 := fun o => (Ext.alloc w22 o).cell e2_3
              have te2_4 := fun o => (Ext.alloc w22 o).cell e2_4
              have te2_5 := fun o => (Ext.alloc w22 o).cell e2_5
              have tka__0 := fun o => (Ext.alloc w22 o).cell ka__0
              have tka__1 := fun o => (Ext.alloc w22 o).cell ka__1
              have tka__2 := fun o => (Ext.alloc w22 o).cell ka__2
              have tkb__0 := fun o => (Ext.alloc w22 o).cell kb__0
              have tkb__1 := fun o => (Ext.alloc w22 o).cell kb__1
              have tkb__2 := fun o => (Ext.alloc w22 o).cell kb__2
              have td_0 := fun o => (Ext.alloc w22 o).cell d_0
              have td_1 := fun o => (Ext.alloc w22 o).cell d_1
              have td_2 := fun o => (Ext.alloc w22 o).cell d_2
              have td_3 := fun o => (Ext.alloc w22 o).cell d_3
              have td_4 := fun o => (Ext.alloc w22 o).cell d_4
              have td_5 := fun o => (Ext.alloc w22 o).cell d_5
              have tc__0 := fun o => (Ext.alloc w22 o).cell c__0
              have tc__1 := fun o => (Ext.alloc w22 o).cell c__1
              have tc__2 := fun o => (Ext.alloc w22 o).cell c__2
              go_wp2_with fail
              clear te0_0 te0_1 te0_2 te0_3 te0_4 te0_5 te1_0 te1_1 te1_2 te1_3 te1_4 te1_5 te2_0 te2_1 te2_2 te2_3 te2_4 te2_5 tka__0 tka__1 tka__2 tkb__0 tkb__1 tkb__2 td_0 td_1 td_2 td_3 td_4 td_5 tc__0 tc__1 tc__2
              obtain ⟨w23, hw⟩ : ∃ z : World, z = (w22.alloc (.cells #[.bool spa, .slice Apa Lpa cpa, .slice Bpa Mpa dpa, .bool spb, .slice Apb Lpb cpb, .slice Bpb Mpb dpb] 29)) := ⟨_, rfl⟩
              rw [← hw]
              have x23 : Ext w22 w23 := by rw [hw]; exact Ext.alloc _ _
              have bb := box_at w22 #[.bool spa, .slice Apa Lpa cpa, .slice Bpa Mpa dpa, .bool spb, .slice Apb Lpb cpb, .slice Bpb Mpb dpb] 29
              rw [← hw] at bb
              replace e0_0 := x23.cell e0_0
              replace e0_1 := x23.cell e0_1
              replace e0_2 := x23.cell e0_2
              replace e0_3 := x23.cell e0_3
              replace e0_4 := x23.cell e0_4
              replace e0_5 := x23.cell e0_5
              replace e1_0 := x23.cell e1_0
              replace e1_1 := x23.cell e1_1
              replace e1_2 := x23.cell e1_2
              replace e1_3 := x23.cell e1_3
              replace e1_4 := x23.cell e1_4
              replace e1_5 := x23.cell e1_5
              replace e2_0 := x23.cell e2_0
              replace e2_1 := x23.cell e2_1
              replace e2_2 := x23.cell e2_2
              replace e2_3 := x23.cell e2_3
              replace e2_4 := x23.cell e2_4
              replace e2_5 := x23.cell e2_5
              replace ka__0 := x23.cell ka__0
              replace ka__1 := x23.cell ka__1
              replace ka__2 := x23.cell ka__2
              replace kb__0 := x23.cell kb__0
              replace kb__1 := x23.cell kb__1
              replace kb__2 := x23.cell kb__2
              replace d_0 := x23.cell d_0
              replace d_1 := x23.cell d_1
              replace d_2 := x23.cell d_2
              replace d_3 := x23.cell d_3
              replace d_4 := x23.cell d_4
              replace d_5 := x23.cell d_5
              replace c__0 := x23.cell c__0
              replace c__1 := x23.cell c__1
              replace c__2 := x23.cell c__2
              have p_0 := bb.1 0 (.bool spa) rfl
              have p_1 := bb.1 1 (.slice Apa Lpa cpa) rfl
              have p_2 := bb.1 2 (.slice Bpa Mpa dpa) rfl
              have p_3 := bb.1 3 (.bool spb) rfl
              have p_4 := bb.1 4 (.slice Apb Lpb cpb) rfl
              have p_5 := bb.1 5 (.slice Bpb Mpb dpb) rfl
              clear hw bb
              have pa := HPW.out.1
              have pb := HPW.out.2
              go_wp2_with fail
              refine (rpow_r (k := 4) (ka.ext (by repeat' (first | with_reducible exact Ext.refl _ | with_reducible assumption | with_reducible apply Ext.alloc_r | with_reducible apply Ext.drew_r | with_reducible apply Ext.drewN_r | with_reducible refine Ext.trans ?_ ‹Ext _ _›))) (by omega) (by omega) (by omega)).mono ?_
              rintro e w24 ⟨sz, Az, cz, Lz, Bz, dz, Mz, rfl, z, x24⟩
              replace e0_0 := x24.cell e0_0
              replace e0_1 := x24.cell e0_1
              replace e0_2 := x24.cell e0_2
              replace e0_3 := x24.cell e0_3
              replace e0_4 := x24.cell e0_4
              replace e0_5 := x24.cell e0_5
              replace e1_0 := x24.cell e1_0
              replace e1_1 := x24.cell e1_1
              replace e1_2 := x24.cell e1_2
              replace e1_3 := x24.cell e1_3
              replace e1_4 := x24.cell e1_4
              replace e1_5 := x24.cell e1_5
              replace e2_0 := x24.cell e2_0
              replace e2_1 := x24.cell e2_1
              replace e2_2 := x24.cell e2_2
              replace e2_3 := x24.cell e2_3
              replace e2_4 := x24.cell e2_4
              replace e2_5 := x24.cell e2_5
              replace ka__0 := x24.cell ka__0
              replace ka__1 := x24.cell ka__1
              replace ka__2 := x24.cell ka__2
              replace kb__0 := x24.cell kb__0
              replace kb__1 := x24.cell kb__1
              replace kb__2 := x24.cell kb__2
              replace d_0 := x24.cell d_0
              replace d_1 := x24.cell d_1
              replace d_2 := x24.cell d_2
              replace d_3 := x24.cell d_3
              replace d_4 := x24.cell d_4
              replace d_5 := x24.cell d_5
              replace c__0 := x24.cell c__0
              replace c__1 := x24.cell c__1
              replace c__2 := x24.cell c__2
              replace p_0 := x24.cell p_0
              replace p_1 := x24.cell p_1
              replace p_2 := x24.cell p_2
              replace p_3 := x24.cell p_3
              replace p_4 := x24.cell p_4
              replace p_5 := x24.cell p_5
              have HZZ := Lib.hid z
              clear z
              have te0_0 := fun o => (Ext.alloc w24 o).cell e0_0
              have te0_1 := fun o => (Ext.alloc w24 o).cell e0_1
              have te0_2 := fun o => (Ext.alloc w24 o).cell e0_2
              have te0_3 := fun o => (Ext.alloc w24 o).cell e0_3
              have te0_4 := fun o => (Ext.alloc w24 o).cell e0_4
              have te0_5 := fun o => (Ext.alloc w24 o).cell e0_5
              have te1_0 := fun o => (Ext.alloc w24 o).cell e1_0
              have te1_1 := fun o => (Ext.alloc w24 o).cell e1_1
              have te1_2 := fun o => (Ext.alloc w24 o).cell e1_2
              have te1_3 := fun o => (Ext.alloc w24 o).cell e1_3
              have te1_4 := fun o => (Ext.alloc w24 o).cell e1_4
              have te1_5 := fun o => (Ext.alloc w24 o).cell e1_5
              have te2_0 := fun o => (Ext.alloc w24 o).cell e2_0
              have te2_1 := fun o => (Ext.alloc w24 o).cell e2_1
              have te2_2 := fun o => (Ext.alloc w24 o).cell e2_2
              have te2_3 := fun o => (Ext.alloc w24 o).cell e2_3
              have te2_4 := fun o => (Ext.alloc w24 o).cell e2_4
              have te2_5 := fun o => (Ext.alloc w24 o).cell e2_5
              have tka__0 := fun o => (Ext.alloc w24 o).cell ka__0
              have tka__1 := fun o => (Ext.alloc w24 o).cell ka__1
              have tka__2 := fun o => (Ext.alloc w24 o).cell ka__2
              have tkb__0 := fun o => (Ext.alloc w24 o).cell kb__0
              have tkb__1 := fun o => (Ext.alloc w24 o).cell kb__1
              have tkb__2 := fun o => (Ext.alloc w24 o).cell kb__2
              have td_0 := fun o => (Ext.alloc w24 o).cell d_0
              have td_1 := fun o => (Ext.alloc w24 o).cell d_1
              have td_2 := fun o => (Ext.alloc w24 o).cell d_2
              have td_3 := fun o => (Ext.alloc w24 o).cell d_3
              have td_4 := fun o => (Ext.alloc w24 o).cell d_4
              have td_5 := fun o => (Ext.alloc w24 o).cell d_5
              have tc__0 := fun o => (Ext.alloc w24 o).cell c__0
              have tc__1 := fun o => (Ext.alloc w24 o).cell c__1
              have tc__2 := fun o => (Ext.alloc w24 o).cell c__2
              have tp_0 := fun o => (Ext.alloc w24 o).cell p_0
              have tp_1 := fun o => (Ext.alloc w24 o).cell p_1
              have tp_2 := fun o => (Ext.alloc w24 o).cell p_2
              have tp_3 := fun o => (Ext.alloc w24 o).cell p_3
              have tp_4 := fun o => (Ext.alloc w24 o).cell p_4
              have tp_5 := fun o => (Ext.alloc w24 o).cell p_5
              go_wp2_with fail
              clear te0_0 te0_1 te0_2 te0_3 te0_4 te0_5 te1_0 te1_1 te1_2 te1_3 te1_4 te1_5 te2_0 te2_1 te2_2 te2_3 te2_4 te2_5 tka__0 tka__1 tka__2 tkb__0 tkb__1 tkb__2 td_0 td_1 td_2 td_3 td_4 td_5 tc__0 tc__1 tc__2 tp_0 tp_1 tp_2 tp_3 tp_4 tp_5
              obtain ⟨w25, hw⟩ : ∃ z : World, z = (w24.alloc (.cells #[.bool sz, .slice Az Lz cz, .slice Bz Mz dz] 27)) := ⟨_, rfl⟩
              rw [← hw]
              have x25 : Ext w24 w25 := by rw [hw]; exact Ext.alloc _ _
              have bb := box_at w24 #[.bool sz, .slice Az Lz cz, .slice Bz Mz dz] 27
              rw [← hw] at bb
              replace e0_0 := x25.cell e0_0
              replace e0_1 := x25.cell e0_1
              replace e0_2 := x25.cell e0_2
              replace e0_3 := x25.cell e0_3
              replace e0_4 := x25.cell e0_4
              replace e0_5 := x25.cell e0_5
              replace e1_0 := x25.cell e1_0
              replace e1_1 := x25.cell e1_1
              replace e1_2 := x25.cell e1_2
              replace e1_3 := x25.cell e1_3
              replace e1_4 := x25.cell e1_4
              replace e1_5 := x25.cell e1_5
              replace e2_0 := x25.cell e2_0
              replace e2_1 := x25.cell e2_1
              replace e2_2 := x25.cell e2_2
              replace e2_3 := x25.cell e2_3
              replace e2_4 := x25.cell e2_4
              replace e2_5 := x25.cell e2_5
              replace ka__0 := x25.cell ka__0
              replace ka__1 := x25.cell ka__1
              replace ka__2 := x25.cell ka__2
              replace kb__0 := x25.cell kb__0
              replace kb__1 := x25.cell kb__1
              replace kb__2 := x25.cell kb__2
              replace d_0 := x25.cell d_0
              replace d_1 := x25.cell d_1
              replace d_2 := x25.cell d_2
              replace d_3 := x25.cell d_3
              replace d_4 := x25.cell d_4
              replace d_5 := x25.cell d_5
              replace c__0 := x25.cell c__0
              replace c__1 := x25.cell c__1
              replace c__2 := x25.cell c__2
              replace p_0 := x25.cell p_0
              replace p_1 := x25.cell p_1
              replace p_2 := x25.cell p_2
              replace p_3 := x25.cell p_3
              replace p_4 := x25.cell p_4
              replace p_5 := x25.cell p_5
              have z__0 := bb.1 0 (.bool sz) rfl
              have z__1 := bb.1 1 (.slice Az Lz cz) rfl
              have z__2 := bb.1 2 (.slice Bz Mz dz) rfl
              clear hw bb
              have z := HZZ.out
              go_wp2_with fail
              refine (contains_is (pa.rv.ext (by repeat' (first | with_reducible exact Ext.refl _ | with_reducible assumption | with_reducible apply Ext.alloc_r | with_reducible apply Ext.drew_r | with_reducible apply Ext.drewN_r | with_reducible refine Ext.trans ?_ ‹Ext _ _›))) (pb.rv.ext (by repeat' (first | with_reducible exact Ext.refl _ | with_reducible assumption | with_reducible apply Ext.alloc_r | with_reducible apply Ext.drew_r | with_reducible apply Ext.drewN_r | with_reducible refine Ext.trans ?_ ‹Ext _ _›))) (z.rv.ext (by repeat' (first | with_reducible exact Ext.refl _ | with_reducible assumption | with_reducible apply Ext.alloc_r | with_reducible apply Ext.drew_r | with_reducible apply Ext.drewN_r | with_reducible refine Ext.trans ?_ ‹Ext _ _›))) (by omega) C5.out).mono ?_
              rintro e w26 ⟨rfl, x26⟩
              replace e0_0 := x26.cell e0_0
              replace e0_1 := x26.cell e0_1
              replace e0_2 := x26.cell e0_2
              replace e0_3 := x26.cell e0_3
              replace e0_4 := x26.cell e0_4
              replace e0_5 := x26.cell e0_5
              replace e1_0 := x26.cell e1_0
              replace e1_1 := x26.cell e1_1
              replace e1_2 := x26.cell e1_2
              replace e1_3 := x26.cell e1_3
              replace e1_4 := x26.cell e1_4
              replace e1_5 := x26.cell e1_5
              replace e2_0 := x26.cell e2_0
              replace e2_1 := x26.cell e2_1
              replace e2_2 := x26.cell e2_2
              replace e2_3 := x26.cell e2_3
              replace e2_4 := x26.cell e2_4
              replace e2_5 := x26.cell e2_5
              replace ka__0 := x26.cell ka__0
              replace ka__1 := x26.cell ka__1
              replace ka__2 := x26.cell ka__2
              replace kb__0 := x26.cell kb__0
              replace kb__1 := x26.cell kb__1
              replace kb__2 := x26.cell kb__2
              replace d_0 := x26.cell d_0
              replace d_1 := x26.cell d_1
              replace d_2 := x26.cell d_2
              replace d_3 := x26.cell d_3
              replace d_4 := x26.cell d_4
              replace d_5 := x26.cell d_5
              replace c__0 := x26.cell c__0
              replace c__1 := x26.cell c__1
              replace c__2 := x26.cell c__2
              replace p_0 := x26.cell p_0
              replace p_1 := x26.cell p_1
              replace p_2 := x26.cell p_2
              replace p_3 := x26.cell p_3
              replace p_4 := x26.cell p_4
              replace p_5 := x26.cell p_5
              replace z__0 := x26.cell z__0
              replace z__1 := x26.cell z__1
              replace z__2 := x26.cell z__2
              go_wp2_with fail
              go_ret
              exact ⟨rfl, (by repeat' (first | with_reducible exact Ext.refl _ | with_reducible assumption | with_reducible apply Ext.alloc_r | with_reducible apply Ext.drew_r | with_reducible apply Ext.drewN_r | with_reducible refine Ext.trans ?_ ‹Ext _ _›))⟩
          · by_cases hy0 : Y = 0
            · have HS := Lib.hid he
              clear he hs hz1 hz2
              have HY0 := Lib.hid hy0
              clear hy0
              go_wp2_with fail
              refine (iquo_ne (e3.ext (by repeat' (first | with_reducible exact Ext.refl _ | with_reducible assumption | with_reducible apply Ext.alloc_r | with_reducible apply Ext.drew_r | with_reducible apply Ext.drewN_r | with_reducible refine Ext.trans ?_ ‹Ext _ _›))) (e4.ext (by repeat' (first | with_reducible exact Ext.refl _ | with_reducible assumption | with_reducible apply Ext.alloc_r | with_reducible apply Ext.drew_r | with_reducible apply Ext.drewN_r | with_reducible refine Ext.trans ?_ ‹Ext _ _›))) HZ1.out HZ2.out HS.out).mono ?_
              rintro e w18 ⟨rfl, x18⟩
              replace e0_0 := x18.cell e0_0
              replace e0_1 := x18.cell e0_1
              replace e0_2 := x18.cell e0_2
              replace e0_3 := x18.cell e0_3
              replace e0_4 := x18.cell e0_4
              replace e0_5 := x18.cell e0_5
              replace e1_0 := x18.cell e1_0
              replace e1_1 := x18.cell e1_1
              replace e1_2 := x18.cell e1_2
              replace e1_3 := x18.cell e1_3
              replace e1_4 := x18.cell e1_4
              replace e1_5 := x18.cell e1_5
              replace e2_0 := x18.cell e2_0
              replace e2_1 := x18.cell e2_1
              replace e2_2 := x18.cell e2_2
              replace e2_3 := x18.cell e2_3
              replace e2_4 := x18.cell e2_4
              replace e2_5 := x18.cell e2_5
              replace ka__0 := x18.cell ka__0
              replace ka__1 := x18.cell ka__1
              replace ka__2 := x18.cell ka__2
              replace kb__0 := x18.cell kb__0
              replace kb__1 := x18.cell kb__1
              replace kb__2 := x18.cell kb__2
              have te0_0 := fun o => (Ext.alloc w18 o).cell e0_0
              have te0_1 := fun o => (Ext.alloc w18 o).cell e0_1
              have te0_2 := fun o => (Ext.alloc w18 o).cell e0_2
              have te0_3 := fun o => (Ext.alloc w18 o).cell e0_3
              have te0_4 := fun o => (Ext.alloc w18 o).cell e0_4
              have te0_5 := fun o => (Ext.alloc w18 o).cell e0_5
              have te1_0 := fun o => (Ext.alloc w18 o).cell e1_0
              have te1_1 := fun o => (Ext.alloc w18 o).cell e1_1
              have te1_2 := fun o => (Ext.alloc w18 o).cell e1_2
              have te1_3 := fun o => (Ext.alloc w18 o).cell e1_3
              have te1_4 := fun o => (Ext.alloc w18 o).cell e1_4
              have te1_5 := fun o => (Ext.alloc w18 o).cell e1_5
              have te2_0 := fun o => (Ext.alloc w18 o).cell e2_0
              have te2_1 := fun o => (Ext.alloc w18 o).cell e2_1
              have te2_2 := fun o => (Ext.alloc w18 o).cell e2_2
              have te2_3 := fun o => (Ext.alloc w18 o).cell e2_3
              have te2_4 := fun o => (Ext.alloc w18 o).cell e2_4
              have te2_5 := fun o => (Ext.alloc w18 o).cell e2_5
              have tka__0 := fun o => (Ext.alloc w18 o).cell ka__0
              have tka__1 := fun o => (Ext.alloc w18 o).cell ka__1
              have tka__2 := fun o => (Ext.alloc w18 o).cell ka__2
              have tkb__0 := fun o => (Ext.alloc w18 o).cell kb__0
              have tkb__1 := fun o => (Ext.alloc w18 o).cell kb__1
              have tkb__2 := fun o => (Ext.alloc w18 o).cell kb__2
              go_wp2_with fail
              clear te0_0 te0_1 te0_2 te0_3 te0_4 te0_5 te1_0 te1_1 te1_2 te1_3 te1_4 te1_5 te2_0 te2_1 te2_2 te2_3 te2_4 te2_5 tka__0 tka__1 tka__2 tkb__0 tkb__1 tkb__2
              obtain ⟨w19, hw⟩ : ∃ z : World, z = (w18.alloc (.cells #[.bool false, .slice none 0 0, .slice none 0 0, .bool false, .slice none 0 0, .slice none 0 0] 29)) := ⟨_, rfl⟩
              rw [← hw]
              have x19 : Ext w18 w19 := by rw [hw]; exact Ext.alloc _ _
              have bb := box_at w18 #[.bool false, .slice none 0 0, .slice none 0 0, .bool false, .slice none 0 0, .slice none 0 0] 29
              rw [← hw] at bb
              replace e0_0 := x19.cell e0_0
              replace e0_1 := x19.cell e0_1
              replace e0_2 := x19.cell e0_2
              replace e0_3 := x19.cell e0_3
              replace e0_4 := x19.cell e0_4
              replace e0_5 := x19.cell e0_5
              replace e1_0 := x19.cell e1_0
              replace e1_1 := x19.cell e1_1
              replace e1_2 := x19.cell e1_2
              replace e1_3 := x19.cell e1_3
              replace e1_4 := x19.cell e1_4
              replace e1_5 := x19.cell e1_5
              replace e2_0 := x19.cell e2_0
              replace e2_1 := x19.cell e2_1
              replace e2_2 := x19.cell e2_2
              replace e2_3 := x19.cell e2_3
              replace e2_4 := x19.cell e2_4
              replace e2_5 := x19.cell e2_5
              replace ka__0 := x19.cell ka__0
              replace ka__1 := x19.cell ka__1
              replace ka__2 := x19.cell ka__2
              replace kb__0 := x19.cell kb__0
              replace kb__1 := x19.cell kb__1
              replace kb__2 := x19.cell kb__2
              have d_0 := bb.1 0 (.bool false) rfl
              have d_1 := bb.1 1 (.slice none 0 0) rfl
              have d_2 := bb.1 2 (.slice none 0 0) rfl
              have d_3 := bb.1 3 (.bool false) rfl
              have d_4 := bb.1 4 (.slice none 0 0) rfl
              have d_5 := bb.1 5 (.slice none 0 0) rfl
              clear hw bb
              go_wp2_with fail
              refine (rquo_zero (ka.ext (by repeat' (first | with_reducible exact Ext.refl _ | with_reducible assumption | with_reducible apply Ext.alloc_r | with_reducible apply Ext.drew_r | with_reducible apply Ext.drewN_r | with_reducible refine Ext.trans ?_ ‹Ext _ _›))) (kb.ext (by repeat' (first | with_reducible exact Ext.refl _ | with_reducible assumption | with_reducible apply Ext.alloc_r | with_reducible apply Ext.drew_r | with_reducible apply Ext.drewN_r | with_reducible refine Ext.trans ?_ ‹Ext _ _›))) HY0.out (by omega) (by omega)).mono ?_
              rintro e w20 ⟨rfl, x20⟩
              replace e0_0 := x20.cell e0_0
              replace e0_1 := x20.cell e0_1
              replace e0_2 := x20.cell e0_2
              replace e0_3 := x20.cell e0_3
              replace e0_4 := x20.cell e0_4
              replace e0_5 := x20.cell e0_5
              replace e1_0 := x20.cell e1_0
              replace e1_1 := x20.cell e1_1
              replace e1_2 := x20.cell e1_2
              replace e1_3 := x20.cell e1_3
              replace e1_4 := x20.cell e1_4
              replace e1_5 := x20.cell e1_5
              replace e2_0 := x20.cell e2_0
              replace e2_1 := x20.cell e2_1
              replace e2_2 := x20.cell e2_2
              replace e2_3 := x20.cell e2_3
              replace e2_4 := x20.cell e2_4
              replace e2_5 := x20.cell e2_5
              replace ka__0 := x20.cell ka__0
              replace ka__1 := x20.cell ka__1
              replace ka__2 := x20.cell ka__2
              replace kb__0 := x20.cell kb__0
              replace kb__1 := x20.cell kb__1
              replace kb__2 := x20.cell kb__2
              replace d_0 := x20.cell d_0
              replace d_1 := x20.cell d_1
              replace d_2 := x20.cell d_2
              replace d_3 := x20.cell d_3
              replace d_4 := x20.cell d_4
              replace d_5 := x20.cell d_5
              have te0_0 := fun o => (Ext.alloc w20 o).cell e0_0
              have te0_1 := fun o => (Ext.alloc w20 o).cell e0_1
              have te0_2 := fun o => (Ext.alloc w20 o).cell e0_2
              have te0_3 := fun o => (Ext.alloc w20 o).cell e0_3
              have te0_4 := fun o => (Ext.alloc w20 o).cell e0_4
              have te0_5 := fun o => (Ext.alloc w20 o).cell e0_5
              have te1_0 := fun o => (Ext.alloc w20 o).cell e1_0
              have te1_1 := fun o => (Ext.alloc w20 o).cell e1_1
              have te1_2 := fun o => (Ext.alloc w20 o).cell e1_2
              have te1_3 := fun o => (Ext.alloc w20 o).cell e1_3
              have te1_4 := fun o => (Ext.alloc w20 o).cell e1_4
              have te1_5 := fun o => (Ext.alloc w20 o).cell e1_5
              have te2_0 := fun o => (Ext.alloc w20 o).cell e2_0
              have te2_1 := fun o => (Ext.alloc w20 o).cell e2_1
              have te2_2 := fun o => (Ext.alloc w20 o).cell e2_2
              have te2_3 := fun o => (Ext.alloc w20 o).cell e2_3
              have te2_4 := fun o => (Ext.alloc w20 o).cell e2_4
              have te2_5 := fun o => (Ext.alloc w20 o).cell e2_5
              have tka__0 := fun o => (Ext.alloc w20 o).cell ka__0
              have tka__1 := fun o => (Ext.alloc w20 o).cell ka__1
              have tka__2 := fun o => (Ext.alloc w20 o).cell ka__2
              have tkb__0 := fun o => (Ext.alloc w20 o).cell kb__0
              have tkb__1 := fun o => (Ext.alloc w20 o).cell kb__1
              have tkb__2 := fun o => (Ext.alloc w20 o).cell kb__2
              have td_0 := fun o => (Ext.alloc w20 o).cell d_0
              have td_1 := fun o => (Ext.alloc w20 o).cell d_1
              have td_2 := fun o => (Ext.alloc w20 o).cell d_2
              have td_3 := fun o => (Ext.alloc w20 o).cell d_3
              have td_4 := fun o => (Ext.alloc w20 o).cell d_4
              have td_5 := fun o => (Ext.alloc w20 o).cell d_5
              go_wp2_with fail
              clear te0_0 te0_1 te0_2 te0_3 te0_4 te0_5 te1_0 te1_1 te1_2 te1_3 te1_4 te1_5 te2_0 te2_1 te2_2 te2_3 te2_4 te2_5 tka__0 tka__1 tka__2 tkb__0 tkb__1 tkb__2 td_0 td_1 td_2 td_3 td_4 td_5
              obtain ⟨w21, hw⟩ : ∃ z : World, z = (w20.alloc (.cells #[.bool false, .slice none 0 0, .slice none 0 0] 27)) := ⟨_, rfl⟩
              rw [← hw]
              have x21 : Ext w20 w21 := by rw [hw]; exact Ext.alloc _ _
              have bb := box_at w20 #[.bool false, .slice none 0 0, .slice none 0 0] 27
              rw [← hw] at bb
              replace e0_0 := x21.cell e0_0
              replace e0_1 := x21.cell e0_1
              replace e0_2 := x21.cell e0_2
              replace e0_3 := x21.cell e0_3
              replace e0_4 := x21.cell e0_4
              replace e0_5 := x21.cell e0_5
              replace e1_0 := x21.cell e1_0
              replace e1_1 := x21.cell e1_1
              replace e1_2 := x21.cell e1_2
              replace e1_3 := x21.cell e1_3
              replace e1_4 := x21.cell e1_4
              replace e1_5 := x21.cell e1_5
              replace e2_0 := x21.cell e2_0
              replace e2_1 := x21.cell e2_1
              replace e2_2 := x21.cell e2_2
              replace e2_3 := x21.cell e2_3
              replace e2_4 := x21.cell e2_4
              replace e2_5 := x21.cell e2_5
              replace ka__0 := x21.cell ka__0
              replace ka__1 := x21.cell ka__1
              replace ka__2 := x21.cell ka__2
              replace kb__0 := x21.cell kb__0
              replace kb__1 := x21.cell kb__1
              replace kb__2 := x21.cell kb__2
              replace d_0 := x21.cell d_0
              replace d_1 := x21.cell d_1
              replace d_2 := x21.cell d_2
              replace d_3 := x21.cell d_3
              replace d_4 := x21.cell d_4
              replace d_5 := x21.cell d_5
              have c__0 := bb.1 0 (.bool false) rfl
              have c__1 := bb.1 1 (.slice none 0 0) rfl
              have c__2 := bb.1 2 (.slice none 0 0) rfl
              clear hw bb
              go_wp2_with fail
              refine (ipow_r (k := 4) (e1.ext (by repeat' (first | with_reducible exact Ext.refl _ | with_reducible assumption | with_reducible apply Ext.alloc_r | with_reducible apply Ext.drew_r | with_reducible apply Ext.drewN_r | with_reducible refine Ext.trans ?_ ‹Ext _ _›))) (e2.ext (by repeat' (first | with_reducible exact Ext.refl _ | with_reducible assumption | with_reducible apply Ext.alloc_r | with_reducible apply Ext.drew_r | with_reducible apply Ext.drewN_r | with_reducible refine Ext.trans ?_ ‹Ext _ _›))) (by omega) (by omega) (by omega)).mono ?_
              rintro e w22 ⟨spa, Apa, cpa, Lpa, Bpa, dpa, Mpa, spb, Apb, cpb, Lpb, Bpb, dpb, Mpb, rfl, pa, pb, x22⟩
              replace e0_0 := x22.cell e0_0
              replace e0_1 := x22.cell e0_1
              replace e0_2 := x22.cell e0_2
              replace e0_3 := x22.cell e0_3
              replace e0_4 := x22.cell e0_4
              replace e0_5 := x22.cell e0_5
              replace e1_0 := x22.cell e1_0
              replace e1_1 := x22.cell e1_1
              replace e1_2 := x22.cell e1_2
              replace e1_3 := x22.cell e1_3
              replace e1_4 := x22.cell e1_4
              replace e1_5 := x22.cell e1_5
              replace e2_0 := x22.cell e2_0
              replace e2_1 := x22.cell e2_1
              replace e2_2 := x22.cell e2_2
              replace e2_3 := x22.cell e2_3
              replace e2_4 := x22.cell e2_4
              replace e2_5 := x22.cell e2_5
              replace ka__0 := x22.cell ka__0
              replace ka__1 := x22.cell ka__1
              replace ka__2 := x22.cell ka__2
              replace kb__0 := x22.cell kb__0
              replace kb__1 := x22.cell kb__1
              replace kb__2 := x22.cell kb__2
              replace d_0 := x22.cell d_0
              replace d_1 := x22.cell d_1
              replace d_2 := x22.cell d_2
              replace d_3 := x22.cell d_3
              replace d_4 := x22.cell d_4
              replace d_5 := x22.cell d_5
              replace c__0 := x22.cell c__0
              replace c__1 := x22.cell c__1
              replace c__2 := x22.cell c__2
              have HPW := Lib.hid (And.intro pa pb)
              clear pa pb
              have te0_0 := fun o => (Ext.alloc w22 o).cell e0_0
              have te0_1 := fun o => (Ext.alloc w22 o).cell e0_1
              have te0_2 := fun o => (Ext.alloc w22 o).cell e0_2
              have te0_3 := fun o => (Ext.alloc w22 o).cell e0_3
              have te0_4 := fun o => (Ext.alloc w22 o).cell e0_4
              have te0_5 := fun o => (Ext.alloc w22 o).cell e0_5
              have te1_0 := fun o => (Ext.alloc w22 o).cell e1_0
              have te1_1 := fun o => (Ext.alloc w22 o).cell e1_1
              have te1_2 := fun o => (Ext.alloc w22 o).cell e1_2
              have te1_3 := fun o => (Ext.alloc w22 o).cell e1_3
              have te1_4 := fun o => (Ext.alloc w22 o).cell e1_4
              have te1_5 := fun o => (Ext.alloc w22 o).cell e1_5
              have te2_0 := fun o => (Ext.alloc w22 o).cell e2_0
              have te2_1 := fun o => (Ext.alloc w22 o).cell e2_1
              have te2_2 := fun o => (Ext.alloc w22 o).cell e2_2
              have te2_3 := fun o => (Ext.alloc w22 o).cell e2_3
              have te2_4 := fun o => (Ext.alloc w22 o).cell e2_4
              have te2_5 := fun o => (Ext.alloc w22 o).cell e2_5
              have tka__0 := fun o => (Ext.alloc w22 o).cell ka__0
              have tka__1 := fun o => (Ext.alloc w22 o).cell ka__1
              have tka__2 := fun o => (Ext.alloc w22 o).cell ka__2
              have tkb__0 := fun o => (Ext.alloc w22 o).cell kb__0
              have tkb__1 := fun o => (Ext.alloc w22 o).cell kb__1
              have tkb__2 := fun o => (Ext.alloc w22 o).cell kb__2
              have td_0 := fun o => (Ext.alloc w22 o).cell d_0
              have td_1 := fun o => (Ext.alloc w22 o).cell d_1
              have td_2 := fun o => (Ext.alloc w22 o).cell d_2
              have td_3 := fun o => (Ext.alloc w22 o).cell d_3
              have td_4 := fun o => (Ext.alloc w22 o).cell d_4
              have td_5 := fun o => (Ext.alloc w22 o).cell d_5
              have tc__0 := fun o => (Ext.alloc w22 o).cell c__0
              have tc__1 := fun o => (Ext.alloc w22 o).cell c__1
              have tc__2 := fun o => (Ext.alloc w22 o).cell c__2
              go_wp2_with fail
              clear te0_0 te0_1 te0_2 te0_3 te0_4 te0_5 te1_0 te1_1 te1_2 te1_3 te1_4 te1_5 te2_0 te2_1 te2_2 te2_3 te2_4 te2_5 tka__0 tka__1 tka__2 tkb__0 tkb__1 tkb__2 td_0 td_1 td_2 td_3 td_4 td_5 tc__0 tc__1 tc__2
              obtain ⟨w23, hw⟩ : ∃ z : World, z = (w22.alloc (.cells #[.bool spa, .slice Apa Lpa cpa, .slice Bpa Mpa dpa, .bool spb, .slice Apb Lpb cpb, .slice Bpb Mpb dpb] 29)) := ⟨_, rfl⟩
              rw [← hw]
              have x23 : Ext w22 w23 := by rw [hw]; exact Ext.alloc _ _
              have bb := box_at w22 #[.bool spa, .slice Apa Lpa cpa, .slice Bpa Mpa dpa, .bool spb, .slice Apb Lpb cpb, .slice Bpb Mpb dpb] 29
              rw [← hw] at bb
              replace e0_0 := x23.cell e0_0
              replace e0_1 := x23.cell e0_1
              replace e0_2 := x23.cell e0_2
              replace e0_3 := x23.cell e0_3
              replace e0_4 := x23.cell e0_4
              replace e0_5 := x23.cell e0_5
              replace e1_0 := x23.cell e1_0
              replace e1_1 := x23.cell e1_1
              replace e1_2 := x23.cell e1_2
              replace e1_3 := x23.cell e1_3
              replace e1_4 := x23.cell e1_4
              replace e1_5 := x23.cell e1_5
              replace e2_0 := x23.cell e2_0
              replace e2_1 := x23.cell e2_1
              replace e2_2 := x23.cell e2_2
              replace e2_3 := x23.cell e2_3
              replace e2_4 := x23.cell e2_4
              replace e2_5 := x23.cell e2_5
              replace ka__0 := x23.cell ka__0
              replace ka__1 := x23.cell ka__1
              replace ka__2 := x23.cell ka__2
              replace kb__0 := x23.cell kb__0
              replace kb__1 := x23.cell kb__1
              replace kb__2 := x23.cell kb__2
              replace d_0 := x23.cell d_0
              replace d_1 := x23.cell d_1
              replace d_2 := x23.cell d_2
              replace d_3 := x23.cell d_3
              replace d_4 := x23.cell d_4
              replace d_5 := x23.cell d_5
              replace c__0 := x23.cell c__0
              replace c__1 := x23.cell c__1
              replace c__2 := x23.cell c__2
              have p_0 := bb.1 0 (.bool spa) rfl
              have p_1 := bb.1 1 (.slice Apa Lpa cpa) rfl
              have p_2 := bb.1 2 (.slice Bpa Mpa dpa) rfl
              have p_3 := bb.1 3 (.bool spb) rfl
              have p_4 := bb.1 4 (.slice Apb Lpb cpb) rfl
              have p_5 := bb.1 5 (.slice Bpb Mpb dpb) rfl
              clear hw bb
              have pa := HPW.out.1
              have pb := HPW.out.2
              go_wp2_with fail
              refine (rpow_r (k := 4) (ka.ext (by repeat' (first | with_reducible exact Ext.refl _ | with_reducible assumption | with_reducible apply Ext.alloc_r | with_reducible apply Ext.drew_r | with_reducible apply Ext.drewN_r | with_reducible refine Ext.trans ?_ ‹Ext _ _›))) (by omega) (by omega) (by omega)).mono ?_
              rintro e w24 ⟨sz, Az, cz, Lz, Bz, dz, Mz, rfl, z, x24⟩
              replace e0_0 := x24.cell e0_0
              replace e0_1 := x24.cell e0_1
              replace e0_2 := x24.cell e0_2
              replace e0_3 := x24.cell e0_3
              replace e0_4 := x24.cell e0_4
              replace e0_5 := x24.cell e0_5
              replace e1_0 := x24.cell e1_0
              replace e1_1 := x24.cell e1_1
              replace e1_2 := x24.cell e1_2
              replace e1_3 := x24.cell e1_3
              replace e1_4 := x24.cell e1_4
              replace e1_5 := x24.cell e1_5
              replace e2_0 := x24.cell e2_0
              replace e2_1 := x24.cell e2_1
              replace e2_2 := x24.cell e2_2
              replace e2_3 := x24.cell e2_3
              replace e2_4 := x24.cell e2_4
              replace e2_5 := x24.cell e2_5
              replace ka__0 := x24.cell ka__0
              replace ka__1 := x24.cell ka__1
              replace ka__2 := x24.cell ka__2
              replace kb__0 := x24.cell kb__0
              replace kb__1 := x24.cell kb__1
              replace kb__2 := x24.cell kb__2
              replace d_0 := x24.cell d_0
              replace d_1 := x24.cell d_1
              replace d_2 := x24.cell d_2
              replace d_3 := x24.cell d_3
              replace d_4 := x24.cell d_4
              replace d_5 := x24.cell d_5
              replace c__0 := x24.cell c__0
              replace c__1 := x24.cell c__1
              replace c__2 := x24.cell c__2
              replace p_0 := x24.cell p_0
              replace p_1 := x24.cell p_1
              replace p_2 := x24.cell p_2
              replace p_3 := x24.cell p_3
              replace p_4 := x24.cell p_4
              replace p_5 := x24.cell p_5
              have HZZ := Lib.hid z
              clear z
              have te0_0 := fun o => (Ext.alloc w24 o).cell e0_0
              have te0_1 := fun o => (Ext.alloc w24 o).cell e0_1
              have te0_2 := fun o => (Ext.alloc w24 o).cell e0_2
              have te0_3 := fun o => (Ext.alloc w24 o).cell e0_3
              have te0_4 := fun o => (Ext.alloc w24 o).cell e0_4
              have te0_5 := fun o => (Ext.alloc w24 o).cell e0_5
              have te1_0 := fun o => (Ext.alloc w24 o).cell e1_0
              have te1_1 := fun o => (Ext.alloc w24 o).cell e1_1
              have te1_2 := fun o => (Ext.alloc w24 o).cell e1_2
              have te1_3 := fun o => (Ext.alloc w24 o).cell e1_3
              have te1_4 := fun o => (Ext.alloc w24 o).cell e1_4
              have te1_5 := fun o => (Ext.alloc w24 o).cell e1_5
              have te2_0 := fun o => (Ext.alloc w24 o).cell e2_0
              have te2_1 := fun o => (Ext.alloc w24 o).cell e2_1
              have te2_2 := fun o => (Ext.alloc w24 o).cell e2_2
              have te2_3 := fun o => (Ext.alloc w24 o).cell e2_3
              have te2_4 := fun o => (Ext.alloc w24 o).cell e2_4
              have te2_5 := fun o => (Ext.alloc w24 o).cell e2_5
              have tka__0 := fun o => (Ext.alloc w24 o).cell ka__0
              have tka__1 := fun o => (Ext.alloc w24 o).cell ka__1
              have tka__2 := fun o => (Ext.alloc w24 o).cell ka__2
              have tkb__0 := fun o => (Ext.alloc w24 o).cell kb__0
              have tkb__1 := fun o => (Ext.alloc w24 o).cell kb__1
              have tkb__2 := fun o => (Ext.alloc w24 o).cell kb__2
              have td_0 := fun o => (Ext.alloc w24 o).cell d_0
              have td_1 := fun o => (Ext.alloc w24 o).cell d_1
              have td_2 := fun o => (Ext.alloc w24 o).cell d_2
              have td_3 := fun o => (Ext.alloc w24 o).cell d_3
              have td_4 := fun o => (Ext.alloc w24 o).cell d_4
              have td_5 := fun o => (Ext.alloc w24 o).cell d_5
              have tc__0 := fun o => (Ext.alloc w24 o).cell c__0
              have tc__1 := fun o => (Ext.alloc w24 o).cell c__1
              have tc__2 := fun o => (Ext.alloc w24 o).cell c__2
              have tp_0 := fun o => (Ext.alloc w24 o).cell p_0
              have tp_1 := fun o => (Ext.alloc w24 o).cell p_1
              have tp_2 := fun o => (Ext.alloc w24 o).cell p_2
              have tp_3 := fun o => (Ext.alloc w24 o).cell p_3
              have tp_4 := fun o => (Ext.alloc w24 o).cell p_4
              have tp_5 := fun o => (Ext.alloc w24 o).cell p_5
              go_wp2_with fail
              clear te0_0 te0_1 te0_2 te0_3 te0_4 te0_5 te1_0 te1_1 te1_2 te1_3 te1_4 te1_5 te2_0 te2_1 te2_2 te2_3 te2_4 te2_5 tka__0 tka__1 tka__2 tkb__0 tkb__1 tkb__2 td_0 td_1 td_2 td_3 td_4 td_5 tc__0 tc__1 tc__2 tp_0 tp_1 tp_2 tp_3 tp_4 tp_5
              obtain ⟨w25, hw⟩ : ∃ z : World, z = (w24.alloc (.cells #[.bool sz, .slice Az Lz cz, .slice Bz Mz dz] 27)) := ⟨_, rfl⟩
              rw [← hw]
              have x25 : Ext w24 w25 := by rw [hw]; exact Ext.alloc _ _
              have bb := box_at w24 #[.bool sz, .slice Az Lz cz, .slice Bz Mz dz] 27
              rw [← hw] at bb
              replace e0_0 := x25.cell e0_0
              replace e0_1 := x25.cell e0_1
              replace e0_2 := x25.cell e0_2
              replace e0_3 := x25.cell e0_3
              replace e0_4 := x25.cell e0_4
              replace e0_5 := x25.cell e0_5
              replace e1_0 := x25.cell e1_0
              replace e1_1 := x25.cell e1_1
              replace e1_2 := x25.cell e1_2
              replace e1_3 := x25.cell e1_3
              replace e1_4 := x25.cell e1_4
              replace e1_5 := x25.cell e1_5
              replace e2_0 := x25.cell e2_0
              replace e2_1 := x25.cell e2_1
              replace e2_2 := x25.cell e2_2
              replace e2_3 := x25.cell e2_3
              replace e2_4 := x25.cell e2_4
              replace e2_5 := x25.cell e2_5
              replace ka__0 := x25.cell ka__0
              replace ka__1 := x25.cell ka__1
              replace ka__2 := x25.cell ka__2
              replace kb__0 := x25.cell kb__0
              replace kb__1 := x25.cell kb__1
              replace kb__2 := x25.cell kb__2
              replace d_0 := x25.cell d_0
              replace d_1 := x25.cell d_1
              replace d_2 := x25.cell d_2
              replace d_3 := x25.cell d_3
              replace d_4 := x25.cell d_4
              replace d_5 := x25.cell d_5
              replace c__0 := x25.cell c__0
              replace c__1 := x25.cell c__1
              replace c__2 := x25.cell c__2
              replace p_0 := x25.cell p_0
              replace p_1 := x25.cell p_1
              replace p_2 := x25.cell p_2
              replace p_3 := x25.cell p_3
              replace p_4 := x25.cell p_4
              replace p_5 := x25.cell p_5
              have z__0 := bb.1 0 (.bool sz) rfl
              have z__1 := bb.1 1 (.slice Az Lz cz) rfl
              have z__2 := bb.1 2 (.slice Bz Mz dz) rfl
              clear hw bb
              have z := HZZ.out
              go_wp2_with fail
              refine (contains_is (pa.rv.ext (by repeat' (first | with_reducible exact Ext.refl _ | with_reducible assumption | with_reducible apply Ext.alloc_r | with_reducible apply Ext.drew_r | with_reducible apply Ext.drewN_r | with_reducible refine Ext.trans ?_ ‹Ext _ _›))) (pb.rv.ext (by repeat' (first | with_reducible exact Ext.refl _ | with_reducible assumption | with_reducible apply Ext.alloc_r | with_reducible apply Ext.drew_r | with_reducible apply Ext.drewN_r | with_reducible refine Ext.trans ?_ ‹Ext _ _›))) (z.rv.ext (by repeat' (first | with_reducible exact Ext.refl _ | with_reducible assumption | with_reducible apply Ext.alloc_r | with_reducible apply Ext.drew_r | with_reducible apply Ext.drewN_r | with_reducible refine Ext.trans ?_ ‹Ext _ _›))) (by omega) C5.out).mono ?_
              rintro e w26 ⟨rfl, x26⟩
              replace e0_0 := x26.cell e0_0
              replace e0_1 := x26.cell e0_1
              replace e0_2 := x26.cell e0_2
              replace e0_3 := x26.cell e0_3
              replace e0_4 := x26.cell e0_4
              replace e0_5 := x26.cell e0_5
              replace e1_0 := x26.cell e1_0
              replace e1_1 := x26.cell e1_1
              replace e1_2 := x26.cell e1_2
              replace e1_3 := x26.cell e1_3
              replace e1_4 := x26.cell e1_4
              replace e1_5 := x26.cell e1_5
              replace e2_0 := x26.cell e2_0
              replace e2_1 := x26.cell e2_1
              replace e2_2 := x26.cell e2_2
              replace e2_3 := x26.cell e2_3
              replace e2_4 := x26.cell e2_4
              replace e2_5 := x26.cell e2_5
              replace ka__0 := x26.cell ka__0
              replace ka__1 := x26.cell ka__1
              replace ka__2 := x26.cell ka__2
              replace kb__0 := x26.cell kb__0
              replace kb__1 := x26.cell kb__1
              replace kb__2 := x26.cell kb__2
              replace d_0 := x26.cell d_0
              replace d_1 := x26.cell d_1
              replace d_2 := x26.cell d_2
              replace d_3 := x26.cell d_3
              replace d_4 := x26.cell d_4
              replace d_5 := x26.cell d_5
              replace c__0 := x26.cell c__0
              replace c__1 := x26.cell c__1
              replace c__2 := x26.cell c__2
              replace p_0 := x26.cell p_0
              replace p_1 := x26.cell p_1
              replace p_2 := x26.cell p_2
              replace p_3 := x26.cell p_3
              replace p_4 := x26.cell p_4
              replace p_5 := x26.cell p_5
              replace z__0 := x26.cell z__0
              replace z__1 := x26.cell z__1
              replace z__2 := x26.cell z__2
              go_wp2_with fail
              go_ret
              exact ⟨rfl, (by repeat' (first | with_reducible exact Ext.refl _ | with_reducible assumption | with_reducible apply Ext.alloc_r | with_reducible apply Ext.drew_r | with_reducible apply Ext.drewN_r | with_reducible refine Ext.trans ?_ ‹Ext _ _›))⟩
            · have HS := Lib.hid he
              clear he hs hz1 hz2
              have HY0 := Lib.hid hy0
              clear hy0
              go_wp2_with fail
              refine (iquo_ne (e3.ext (by repeat' (first | with_reducible exact Ext.refl _ | with_reducible assumption | with_reducible apply Ext.alloc_r | with_reducible apply Ext.drew_r | with_reducible apply Ext.drewN_r | with_reducible refine Ext.trans ?_ ‹Ext _ _›))) (e4.ext (by repeat' (first | with_reducible exact Ext.refl _ | with_reducible assumption | with_reducible apply Ext.alloc_r | with_reducible apply Ext.drew_r | with_reducible apply Ext.drewN_r | with_reducible refine Ext.trans ?_ ‹Ext _ _›))) HZ1.out HZ2.out HS.out).mono ?_
              rintro e w18 ⟨rfl, x18⟩
              replace e0_0 := x18.cell e0_0
              replace e0_1 := x18.cell e0_1
              replace e0_2 := x18.cell e0_2
              replace e0_3 := x18.cell e0_3
              replace e0_4 := x18.cell e0_4
              replace e0_5 := x18.cell e0_5
              replace e1_0 := x18.cell e1_0
              replace e1_1 := x18.cell e1_1
              replace e1_2 := x18.cell e1_2
              replace e1_3 := x18.cell e1_3
              replace e1_4 := x18.cell e1_4
              replace e1_5 := x18.cell e1_5
              replace e2_0 := x18.cell e2_0
              replace e2_1 := x18.cell e2_1
              replace e2_2 := x18.cell e2_2
              replace e2_3 := x18.cell e2_3
              replace e2_4 := x18.cell e2_4
              replace e2_5 := x18.cell e2_5
              replace ka__0 := x18.cell ka__0
              replace ka__1 := x18.cell ka__1
              replace ka__2 := x18.cell ka__2
              replace kb__0 := x18.cell kb__0
              replace kb__1 := x18.cell kb__1
              replace kb__2 := x18.cell kb__2
              have te0_0 := fun o => (Ext.alloc w18 o).cell e0_0
              have te0_1 := fun o => (Ext.alloc w18 o).cell e0_1
              have te0_2 := fun o => (Ext.alloc w18 o).cell e0_2
              have te0_3 := fun o => (Ext.alloc w18 o).cell e0_3
              have te0_4 := fun o => (Ext.alloc w18 o).cell e0_4
              have te0_5 := fun o => (Ext.alloc w18 o).cell e0_5
              have te1_0 := fun o => (Ext.alloc w18 o).cell e1_0
              have te1_1 := fun o => (Ext.alloc w18 o).cell e1_1
              have te1_2 := fun o => (Ext.alloc w18 o).cell e1_2
              have te1_3 := fun o => (Ext.alloc w18 o).cell e1_3
              have te1_4 := fun o => (Ext.alloc w18 o).cell e1_4
              have te1_5 := fun o => (Ext.alloc w18 o).cell e1_5
              have te2_0 := fun o => (Ext.alloc w18 o).cell e2_0
              have te2_1 := fun o => (Ext.alloc w18 o).cell e2_1
              have te2_2 := fun o => (Ext.alloc w18 o).cell e2_2
              have te2_3 := fun o => (Ext.alloc w18 o).cell e2_3
              have te2_4 := fun o => (Ext.alloc w18 o).cell e2_4
              have te2_5 := fun o => (Ext.alloc w18 o).cell e2_5
              have tka__0 := fun o => (Ext.alloc w18 o).cell ka__0
              have tka__1 := fun o => (Ext.alloc w18 o).cell ka__1
              have tka__2 := fun o => (Ext.alloc w18 o).cell ka__2
              have tkb__0 := fun o => (Ext.alloc w18 o).cell kb__0
              have tkb__1 := fun o => (Ext.alloc w18 o).cell kb__1
              have tkb__2 := fun o => (Ext.alloc w18 o).cell kb__2
              go_wp2_with fail
              clear te0_0 te0_1 te0_2 te0_3 te0_4 te0_5 te1_0 te1_1 te1_2 te1_3 te1_4 te1_5 te2_0 te2_1 te2_2 te2_3 te2_4 te2_5 tka__0 tka__1 tka__2 tkb__0 tkb__1 tkb__2
              obtain ⟨w19, hw⟩ : ∃ z : World, z = (w18.alloc (.cells #[.bool false, .slice none 0 0, .slice none 0 0, .bool false, .slice none 0 0, .slice none 0 0] 29)) := ⟨_, rfl⟩
              rw [← hw]
              have x19 : Ext w18 w19 := by rw [hw]; exact Ext.alloc _ _
              have bb := box_at w18 #[.bool false, .slice none 0 0, .slice none 0 0, .bool false, .slice none 0 0, .slice none 0 0] 29
              rw [← hw] at bb
              replace e0_0 := x19.cell e0_0
              replace e0_1 := x19.cell e0_1
              replace e0_2 := x19.cell e0_2
              replace e0_3 := x19.cell e0_3
              replace e0_4 := x19.cell e0_4
              replace e0_5 := x19.cell e0_5
              replace e1_0 := x19.cell e1_0
              replace e1_1 := x19.cell e1_1
              replace e1_2 := x19.cell e1_2
              replace e1_3 := x19.cell e1_3
              replace e1_4 := x19.cell e1_4
              replace e1_5 := x19.cell e1_5
              replace e2_0 := x19.cell e2_0
              replace e2_1 := x19.cell e2_1
              replace e2_2 := x19.cell e2_2
              replace e2_3 := x19.cell e2_3
              replace e2_4 := x19.cell e2_4
              replace e2_5 := x19.cell e2_5
              replace ka__0 := x19.cell ka__0
              replace ka__1 := x19.cell ka__1
              replace ka__2 := x19.cell ka__2
              replace kb__0 := x19.cell kb__0
              replace kb__1 := x19.cell kb__1
              replace kb__2 := x19.cell kb__2
              have d_0 := bb.1 0 (.bool false) rfl
              have d_1 := bb.1 1 (.slice none 0 0) rfl
              have d_2 := bb.1 2 (.slice none 0 0) rfl
              have d_3 := bb.1 3 (.bool false) rfl
              have d_4 := bb.1 4 (.slice none 0 0) rfl
              have d_5 := bb.1 5 (.slice none 0 0) rfl
              clear hw bb
              go_wp2_with fail
              refine (rquo_r (ka.ext (by repeat' (first | with_reducible exact Ext.refl _ | with_reducible assumption | with_reducible apply Ext.alloc_r | with_reducible apply Ext.drew_r | with_reducible apply Ext.drewN_r | with_reducible refine Ext.trans ?_ ‹Ext _ _›))) (kb.ext (by repeat' (first | with_reducible exact Ext.refl _ | with_reducible assumption | with_reducible apply Ext.alloc_r | with_reducible apply Ext.drew_r | with_reducible apply Ext.drewN_r | with_reducible refine Ext.trans ?_ ‹Ext _ _›))) HY0.out (by omega) (by omega)).mono ?_
              rintro e w20 ⟨sc, Ac, cc, Lc, Bc, dc, Mc, rfl, c, x20⟩
              replace e0_0 := x20.cell e0_0
              replace e0_1 := x20.cell e0_1
              replace e0_2 := x20.cell e0_2
              replace e0_3 := x20.cell e0_3
              replace e0_4 := x20.cell e0_4
              replace e0_5 := x20.cell e0_5
              replace e1_0 := x20.cell e1_0
              replace e1_1 := x20.cell e1_1
              replace e1_2 := x20.cell e1_2
              replace e1_3 := x20.cell e1_3
              replace e1_4 := x20.cell e1_4
              replace e1_5 := x20.cell e1_5
              replace e2_0 := x20.cell e2_0
              replace e2_1 := x20.cell e2_1
              replace e2_2 := x20.cell e2_2
              replace e2_3 := x20.cell e2_3
              replace e2_4 := x20.cell e2_4
              replace e2_5 := x20.cell e2_5
              replace ka__0 := x20.cell ka__0
              replace ka__1 := x20.cell ka__1
              replace ka__2 := x20.cell ka__2
              replace kb__0 := x20.cell kb__0
              replace kb__1 := x20.cell kb__1
              replace kb__2 := x20.cell kb__2
              replace d_0 := x20.cell d_0
              replace d_1 := x20.cell d_1
              replace d_2 := x20.cell d_2
              replace d_3 := x20.cell d_3
              replace d_4 := x20.cell d_4
              replace d_5 := x20.cell d_5
              have HCC := Lib.hid c
              clear c
              have te0_0 := fun o => (Ext.alloc w20 o).cell e0_0
              have te0_1 := fun o => (Ext.alloc w20 o).cell e0_1
              have te0_2 := fun o => (Ext.alloc w20 o).cell e0_2
              have te0_3 := fun o => (Ext.alloc w20 o).cell e0_3
              have te0_4 := fun o => (Ext.alloc w20 o).cell e0_4
              have te0_5 := fun o => (Ext.alloc w20 o).cell e0_5
              have te1_0 := fun o => (Ext.alloc w20 o).cell e1_0
              have te1_1 := fun o => (Ext.alloc w20 o).cell e1_1
              have te1_2 := fun o => (Ext.alloc w20 o).cell e1_2
              have te1_3 := fun o => (Ext.alloc w20 o).cell e1_3
              have te1_4 := fun o => (Ext.alloc w20 o).cell e1_4
              have te1_5 := fun o => (Ext.alloc w20 o).cell e1_5
              have te2_0 := fun o => (Ext.alloc w20 o).cell e2_0
              have te2_1 := fun o => (Ext.alloc w20 o).cell e2_1
              have te2_2 := fun o => (Ext.alloc w20 o).cell e2_2
              have te2_3 := fun o => (Ext.alloc w20 o).cell e2_3
              have te2_4 := fun o => (Ext.alloc w20 o).cell e2_4
              have te2_5 := fun o => (Ext.alloc w20 o).cell e2_5
              have tka__0 := fun o => (Ext.alloc w20 o).cell ka__0
              have tka__1 := fun o => (Ext.alloc w20 o).cell ka__1
              have tka__2 := fun o => (Ext.alloc w20 o).cell ka__2
              have tkb__0 := fun o => (Ext.alloc w20 o).cell kb__0
              have tkb__1 := fun o => (Ext.alloc w20 o).cell kb__1
              have tkb__2 := fun o => (Ext.alloc w20 o).cell kb__2
              have td_0 := fun o => (Ext.alloc w20 o).cell d_0
              have td_1 := fun o => (Ext.alloc w20 o).cell d_1
              have td_2 := fun o => (Ext.alloc w20 o).cell d_2
              have td_3 := fun o => (Ext.alloc w20 o).cell d_3
              have td_4 := fun o => (Ext.alloc w20 o).cell d_4
              have td_5 := fun o => (Ext.alloc w20 o).cell d_5
              go_wp2_with fail
              clear te0_0 te0_1 te0_2 te0_3 te0_4 te0_5 te1_0 te1_1 te1_2 te1_3 te1_4 te1_5 te2_0 te2_1 te2_2 te2_3 te2_4 te2_5 tka__0 tka__1 tka__2 tkb__0 tkb__1 tkb__2 td_0 td_1 td_2 td_3 td_4 td_5
              obtain ⟨w21, hw⟩ : ∃ z : World, z = (w20.alloc (.cells #[.bool sc, .slice Ac Lc cc, .slice Bc Mc dc] 27)) := ⟨_, rfl⟩
              rw [← hw]
              have x21 : Ext w20 w21 := by rw [hw]; exact Ext.alloc _ _
              have bb := box_at w20 #[.bool sc, .slice Ac Lc cc, .slice Bc Mc dc] 27
              rw [← hw] at bb
              replace e0_0 := x21.cell e0_0
              replace e0_1 := x21.cell e0_1
              replace e0_2 := x21.cell e0_2
              replace e0_3 := x21.cell e0_3
              replace e0_4 := x21.cell e0_4
              replace e0_5 := x21.cell e0_5
              replace e1_0 := x21.cell e1_0
              replace e1_1 := x21.cell e1_1
              replace e1_2 := x21.cell e1_2
              replace e1_3 := x21.cell e1_3
              replace e1_4 := x21.cell e1_4
              replace e1_5 := x21.cell e1_5
              replace e2_0 := x21.cell e2_0
              replace e2_1 := x21.cell e2_1
              replace e2_2 := x21.cell e2_2
              replace e2_3 := x21.cell e2_3
              replace e2_4 := x21.cell e2_4
              replace e2_5 := x21.cell e2_5
              replace ka__0 := x21.cell ka__0
              replace ka__1 := x21.cell ka__1
              replace ka__2 := x21.cell ka__2
              replace kb__0 := x21.cell kb__0
              replace kb__1 := x21.cell kb__1
              replace kb__2 := x21.cell kb__2
              replace d_0 := x21.cell d_0
              replace d_1 := x21.cell d_1
              replace d_2 := x21.cell d_2
              replace d_3 := x21.cell d_3
              replace d_4 := x21.cell d_4
              replace d_5 := x21.cell d_5
              have c__0 := bb.1 0 (.bool sc) rfl
              have c__1 := bb.1 1 (.slice Ac Lc cc) rfl
              have c__2 := bb.1 2 (.slice Bc Mc dc) rfl
              clear hw bb
              go_wp2_with fail
              refine (ipow_r (k := 4) (e1.ext (by repeat' (first | with_reducible exact Ext.refl _ | with_reducible assumption | with_reducible apply Ext.alloc_r | with_reducible apply Ext.drew_r | with_reducible apply Ext.drewN_r | with_reducible refine Ext.trans ?_ ‹Ext _ _›))) (e2.ext (by repeat' (first | with_reducible exact Ext.refl _ | with_reducible assumption | with_reducible apply Ext.alloc_r | with_reducible apply Ext.drew_r | with_reducible apply Ext.drewN_r | with_reducible refine Ext.trans ?_ ‹Ext _ _›))) (by omega) (by omega) (by omega)).mono ?_
              rintro e w22 ⟨spa, Apa, cpa, Lpa, Bpa, dpa, Mpa, spb, Apb, cpb, Lpb, Bpb, dpb, Mpb, rfl, pa, pb, x22⟩
              replace e0_0 := x22.cell e0_0
              replace e0_1 := x22.cell e0_1
              replace e0_2 := x22.cell e0_2
              replace e0_3 := x22.cell e0_3
              replace e0_4 := x22.cell e0_4
              replace e0_5 := x22.cell e0_5
              replace e1_0 := x22.cell e1_0
              replace e1_1 := x22.cell e1_1
              replace e1_2 := x22.cell e1_2
              replace e1_3 := x22.cell e1_3
              replace e1_4 := x22.cell e1_4
              replace e1_5 := x22.cell e1_5
              replace e2_0 := x22.cell e2_0
              replace e2_1 := x22.cell e2_1
              replace e2_2 := x22.cell e2_2
              replace e2_3 := x22.cell e2_3
              replace e2_4 := x22.cell e2_4
              replace e2_5 := x22.cell e2_5
              replace ka__0 := x22.cell ka__0
              replace ka__1 := x22.cell ka__1
              replace ka__2 := x22.cell ka__2
              replace kb__0 := x22.cell kb__0
              replace kb__1 := x22.cell kb__1
              replace kb__2 := x22.cell kb__2
              replace d_0 := x22.cell d_0
              replace d_1 := x22.cell d_1
              replace d_2 := x22.cell d_2
              replace d_3 := x22.cell d_3
              replace d_4 := x22.cell d_4
              replace d_5 := x22.cell d_5
              replace c__0 := x22.cell c__0
              replace c__1 := x22.cell c__1
              replace c__2 := x22.cell c__2
              have HPW := Lib.hid (And.intro pa pb)
              clear pa pb
              have te0_0 := fun o => (Ext.alloc w22 o).cell e0_0
              have te0_1 := fun o => (Ext.alloc w22 o).cell e0_1
              have te0_2 := fun o => (Ext.alloc w22 o).cell e0_2
              have te0_3 := fun o => (Ext.alloc w22 o).cell e0_3
              have te0_4 := fun o => (Ext.alloc w22 o).cell e0_4
              have te0_5 := fun o => (Ext.alloc w22 o).cell e0_5
              have te1_0 := fun o => (Ext.alloc w22 o).cell e1_0
              have te1_1 := fun o => (Ext.alloc w22 o).cell e1_1
              have te1_2 := fun o => (Ext.alloc w22 o).cell e1_2
              have te1_3 := fun o => (Ext.alloc w22 o).cell e1_3
              have te1_4 := fun o => (Ext.alloc w22 o).cell e1_4
              have te1_5 := fun o => (Ext.alloc w22 o).cell e1_5
              have te2_0 := fun o => (Ext.alloc w22 o).cell e2_0
              have te2_1 := fun o => (Ext.alloc w22 o).cell e2_1
              have te2_2 := fun o => (Ext.alloc w22 o).cell e2_2
              have te2_3 := fun o => (Ext.alloc w22 o).cell e2_3
              have te2_4 := fun o => (Ext.alloc w22 o).cell e2_4
              have te2_5 := fun o => (Ext.alloc w22 o).cell e2_5
              have tka__0 := fun o => (Ext.alloc w22 o).cell ka__0
              have tka__1 := fun o => (Ext.alloc w22 o).cell ka__1
              have tka__2 := fun o => (Ext.alloc w22 o).cell ka__2
              have tkb__0 := fun o => (Ext.alloc w22 o).cell kb__0
              have tkb__1 := fun o => (Ext.alloc w22 o).cell kb__1
              have tkb__2 := fun o => (Ext.alloc w22 o).cell kb__2
              have td_0 := fun o => (Ext.alloc w22 o).cell d_0
              have td_1 := fun o => (Ext.alloc w22 o).cell d_1
              have td_2 := fun o => (Ext.alloc w22 o).cell d_2
              have td_3 := fun o => (Ext.alloc w22 o).cell d_3
              have td_4 := fun o => (Ext.alloc w22 o).cell d_4
              have td_5 := fun o => (Ext.alloc w22 o).cell d_5
              have tc__0 := fun o => (Ext.alloc w22 o).cell c__0
              have tc__1 := fun o => (Ext.alloc w22 o).cell c__1
              have tc__2 := fun o => (Ext.alloc w22 o).cell c__2
              go_wp2_with fail
              clear te0_0 te0_1 te0_2 te0_3 te0_4 te0_5 te1_0 te1_1 te1_2 te1_3 te1_4 te1_5 te2_0 te2_1 te2_2 te2_3 te2_4 te2_5 tka__0 tka__1 tka__2 tkb__0 tkb__1 tkb__2 td_0 td_1 td_2 td_3 td_4 td_5 tc__0 tc__1 tc__2
              obtain ⟨w23, hw⟩ : ∃ z : World, z = (w22.alloc (.cells #[.bool spa, .slice Apa Lpa cpa, .slice Bpa Mpa dpa, .bool spb, .slice Apb Lpb cpb, .slice Bpb Mpb dpb] 29)) := ⟨_, rfl⟩
              rw [← hw]
              have x23 : Ext w22 w23 := by rw [hw]; exact Ext.alloc _ _
              have bb := box_at w22 #[.bool spa, .slice Apa Lpa cpa, .slice Bpa Mpa dpa, .bool spb, .slice Apb Lpb cpb, .slice Bpb Mpb dpb] 29
              rw [← hw] at bb
              replace e0_0 := x23.cell e0_0
              replace e0_1 := x23.cell e0_1
              replace e0_2 := x23.cell e0_2
              replace e0_3 := x23.cell e0_3
              replace e0_4 := x23.cell e0_4
              replace e0_5 := x23.cell e0_5
              replace e1_0 := x23.cell e1_0
              replace e1_1 := x23.cell e1_1
              replace e1_2 := x23.cell e1_2
              replace e1_3 := x23.cell e1_3
              replace e1_4 := x23.cell e1_4
              replace e1_5 := x23.cell e1_5
              replace e2_0 := x23.cell e2_0
              replace e2_1 := x23.cell e2_1
              replace e2_2 := x23.cell e2_2
              replace e2_3 := x23.cell e2_3
              replace e2_4 := x23.cell e2_4
              replace e2_5 := x23.cell e2_5
              replace ka__0 := x23.cell ka__0
              replace ka__1 := x23.cell ka__1
              replace ka__2 := x23.cell ka__2
              replace kb__0 := x23.cell kb__0
              replace kb__1 := x23.cell kb__1
              replace kb__2 := x23.cell kb__2
              replace d_0 := x23.cell d_0
              replace d_1 := x23.cell d_1
              replace d_2 := x23.cell d_2
              replace d_3 := x23.cell d_3
              replace d_4 := x23.cell d_4
              replace d_5 := x23.cell d_5
              replace c__0 := x23.cell c__0
              replace c__1 := x23.cell c__1
              replace c__2 := x23.cell c__2
              have p_0 := bb.1 0 (.bool spa) rfl
              have p_1 := bb.1 1 (.slice Apa Lpa cpa) rfl
              have p_2 := bb.1 2 (.slice Bpa Mpa dpa) rfl
              have p_3 := bb.1 3 (.bool spb) rfl
              have p_4 := bb.1 4 (.slice Apb Lpb cpb) rfl
              have p_5 := bb.1 5 (.slice Bpb Mpb dpb) rfl
              clear hw bb
              have pa := HPW.out.1
              have pb := HPW.out.2
              go_wp2_with fail
              refine (rpow_r (k := 4) (ka.ext (by repeat' (first | with_reducible exact Ext.refl _ | with_reducible assumption | with_reducible apply Ext.alloc_r | with_reducible apply Ext.drew_r | with_reducible apply Ext.drewN_r | with_reducible refine Ext.trans ?_ ‹Ext _ _›))) (by omega) (by omega) (by omega)).mono ?_
              rintro e w24 ⟨sz, Az, cz, Lz, Bz, dz, Mz, rfl, z, x24⟩
              replace e0_0 := x24.cell e0_0
              replace e0_1 := x24.cell e0_1
              replace e0_2 := x24.cell e0_2
              replace e0_3 := x24.cell e0_3
              replace e0_4 := x24.cell e0_4
              replace e0_5 := x24.cell e0_5
              replace e1_0 := x24.cell e1_0
              replace e1_1 := x24.cell e1_1
              replace e1_2 := x24.cell e1_2
              replace e1_3 := x24.cell e1_3
              replace e1_4 := x24.cell e1_4
              replace e1_5 := x24.cell e1_5
              replace e2_0 := x24.cell e2_0
              replace e2_1 := x24.cell e2_1
              replace e2_2 := x24.cell e2_2
              replace e2_3 := x24.cell e2_3
              replace e2_4 := x24.cell e2_4
              replace e2_5 := x24.cell e2_5
              replace ka__0 := x24.cell ka__0
              replace ka__1 := x24.cell ka__1
              replace ka__2 := x24.cell ka__2
              replace kb__0 := x24.cell kb__0
              replace kb__1 := x24.cell kb__1
              replace kb__2 := x24.cell kb__2
              replace d_0 := x24.cell d_0
              replace d_1 := x24.cell d_1
              replace d_2 := x24.cell d_2
              replace d_3 := x24.cell d_3
              replace d_4 := x24.cell d_4
              replace d_5 := x24.cell d_5
              replace c__0 := x24.cell c__0
              replace c__1 := x24.cell c__1
              replace c__2 := x24.cell c__2
              replace p_0 := x24.cell p_0
              replace p_1 := x24.cell p_1
              replace p_2 := x24.cell p_2
              replace p_3 := x24.cell p_3
              replace p_4 := x24.cell p_4
              replace p_5 := x24.cell p_5
              have HZZ := Lib.hid z
              clear z
              have te0_0 := fun o => (Ext.alloc w24 o).cell e0_0
              have te0_1 := fun o => (Ext.alloc w24 o).cell e0_1
              have te0_2 := fun o => (Ext.alloc w24 o).cell e0_2
              have te0_3 := fun o => (Ext.alloc w24 o).cell e0_3
              have te0_4 := fun o => (Ext.alloc w24 o).cell e0_4
              have te0_5 := fun o => (Ext.alloc w24 o).cell e0_5
              have te1_0 := fun o => (Ext.alloc w24 o).cell e1_0
              have te1_1 := fun o => (Ext.alloc w24 o).cell e1_1
              have te1_2 := fun o => (Ext.alloc w24 o).cell e1_2
              have te1_3 := fun o => (Ext.alloc w24 o).cell e1_3
              have te1_4 := fun o => (Ext.alloc w24 o).cell e1_4
              have te1_5 := fun o => (Ext.alloc w24 o).cell e1_5
              have te2_0 := fun o => (Ext.alloc w24 o).cell e2_0
              have te2_1 := fun o => (Ext.alloc w24 o).cell e2_1
              have te2_2 := fun o => (Ext.alloc w24 o).cell e2_2
              have te2_3 := fun o => (Ext.alloc w24 o).cell e2_3
              have te2_4 := fun o => (Ext.alloc w24 o).cell e2_4
              have te2_5 := fun o => (Ext.alloc w24 o).cell e2_5
              have tka__0 := fun o => (Ext.alloc w24 o).cell ka__0
              have tka__1 := fun o => (Ext.alloc w24 o).cell ka__1
              have tka__2 := fun o => (Ext.alloc w24 o).cell ka__2
              have tkb__0 := fun o => (Ext.alloc w24 o).cell kb__0
              have tkb__1 := fun o => (Ext.alloc w24 o).cell kb__1
              have tkb__2 := fun o => (Ext.alloc w24 o).cell kb__2
              have td_0 := fun o => (Ext.alloc w24 o).cell d_0
              have td_1 := fun o => (Ext.alloc w24 o).cell d_1
              have td_2 := fun o => (Ext.alloc w24 o).cell d_2
              have td_3 := fun o => (Ext.alloc w24 o).cell d_3
              have td_4 := fun o => (Ext.alloc w24 o).cell d_4
              have td_5 := fun o => (Ext.alloc w24 o).cell d_5
              have tc__0 := fun o => (Ext.alloc w24 o).cell c__0
              have tc__1 := fun o => (Ext.alloc w24 o).cell c__1
              have tc__2 := fun o => (Ext.alloc w24 o).cell c__2
              have tp_0 := fun o => (Ext.alloc w24 o).cell p_0
              have tp_1 := fun o => (Ext.alloc w24 o).cell p_1
              have tp_2 := fun o => (Ext.alloc w24 o).cell p_2
              have tp_3 := fun o => (Ext.alloc w24 o).cell p_3
              have tp_4 := fun o => (Ext.alloc w24 o).cell p_4
              have tp_5 := fun o => (Ext.alloc w24 o).cell p_5
              go_wp2_with fail
              clear te0_0 te0_1 te0_2 te0_3 te0_4 te0_5 te1_0 te1_1 te1_2 te1_3 te1_4 te1_5 te2_0 te2_1 te2_2 te2_3 te2_4 te2_5 tka__0 tka__1 tka__2 tkb__0 tkb__1 tkb__2 td_0 td_1 td_2 td_3 td_4 td_5 tc__0 tc__1 tc__2 tp_0 tp_1 tp_2 tp_3 tp_4 tp_5
              obtain ⟨w25, hw⟩ : ∃ z : World, z = (w24.alloc (.cells #[.bool sz, .slice Az Lz cz, .slice Bz Mz dz] 27)) := ⟨_, rfl⟩
              rw [← hw]
              have x25 : Ext w24 w25 := by rw [hw]; exact Ext.alloc _ _
              have bb := box_at w24 #[.bool sz, .slice Az Lz cz, .slice Bz Mz dz] 27
              rw [← hw] at bb
              replace e0_0 := x25.cell e0_0
              replace e0_1 := x25.cell e0_1
              replace e0_2 := x25.cell e0_2
              replace e0_3 := x25.cell e0_3
              replace e0_4 := x25.cell e0_4
              replace e0_5 := x25.cell e0_5
              replace e1_0 := x25.cell e1_0
              replace e1_1 := x25.cell e1_1
              replace e1_2 := x25.cell e1_2
              replace e1_3 := x25.cell e1_3
              replace e1_4 := x25.cell e1_4
              replace e1_5 := x25.cell e1_5
              replace e2_0 := x25.cell e2_0
              replace e2_1 := x25.cell e2_1
              replace e2_2 := x25.cell e2_2
              replace e2_3 := x25.cell e2_3
              replace e2_4 := x25.cell e2_4
              replace e2_5 := x25.cell e2_5
              replace ka__0 := x25.cell ka__0
              replace ka__1 := x25.cell ka__1
              replace ka__2 := x25.cell ka__2
              replace kb__0 := x25.cell kb__0
              replace kb__1 := x25.cell kb__1
              replace kb__2 := x25.cell kb__2
              replace d_0 := x25.cell d_0
              replace d_1 := x25.cell d_1
              replace d_2 := x25.cell d_2
              replace d_3 := x25.cell d_3
              replace d_4 := x25.cell d_4
              replace d_5 := x25.cell d_5
              replace c__0 := x25.cell c__0
              replace c__1 := x25.cell c__1
              replace c__2 := x25.cell c__2
              replace p_0 := x25.cell p_0
              replace p_1 := x25.cell p_1
              replace p_2 := x25.cell p_2
              replace p_3 := x25.cell p_3
              replace p_4 := x25.cell p_4
              replace p_5 := x25.cell p_5
              have z__0 := bb.1 0 (.bool sz) rfl
              have z__1 := bb.1 1 (.slice Az Lz cz) rfl
              have z__2 := bb.1 2 (.slice Bz Mz dz) rfl
              clear hw bb
              have z := HZZ.out
              go_wp2_with fail
              refine (contains_is (pa.rv.ext (by repeat' (first | with_reducible exact Ext.refl _ | with_reducible assumption | with_reducible apply Ext.alloc_r | with_reducible apply Ext.drew_r | with_reducible apply Ext.drewN_r | with_reducible refine Ext.trans ?_ ‹Ext _ _›))) (pb.rv.ext (by repeat' (first | with_reducible exact Ext.refl _ | with_reducible assumption | with_reducible apply Ext.alloc_r | with_reducible apply Ext.drew_r | with_reducible apply Ext.drewN_r | with_reducible refine Ext.trans ?_ ‹Ext _ _›))) (z.rv.ext (by repeat' (first | with_reducible exact Ext.refl _ | with_reducible assumption | with_reducible apply Ext.alloc_r | with_reducible apply Ext.drew_r | with_reducible apply Ext.drewN_r | with_reducible refine Ext.trans ?_ ‹Ext _ _›))) (by omega) C5.out).mono ?_
              rintro e w26 ⟨rfl, x26⟩
              replace e0_0 := x26.cell e0_0
              replace e0_1 := x26.cell e0_1
              replace e0_2 := x26.cell e0_2
              replace e0_3 := x26.cell e0_3
              replace e0_4 := x26.cell e0_4
              replace e0_5 := x26.cell e0_5
              replace e1_0 := x26.cell e1_0
              replace e1_1 := x26.cell e1_1
              replace e1_2 := x26.cell e1_2
              replace e1_3 := x26.cell e1_3
              replace e1_4 := x26.cell e1_4
              replace e1_5 := x26.cell e1_5
              replace e2_0 := x26.cell e2_0
              replace e2_1 := x26.cell e2_1
              replace e2_2 := x26.cell e2_2
              replace e2_3 := x26.cell e2_3
              replace e2_4 := x26.cell e2_4
              replace e2_5 := x26.cell e2_5
              replace ka__0 := x26.cell ka__0
              replace ka__1 := x26.cell ka__1
              replace ka__2 := x26.cell ka__2
              replace kb__0 := x26.cell kb__0
              replace kb__1 := x26.cell kb__1
              replace kb__2 := x26.cell kb__2
              replace d_0 := x26.cell d_0
              replace d_1 := x26.cell d_1
              replace d_2 := x26.cell d_2
              replace d_3 := x26.cell d_3
              replace d_4 := x26.cell d_4
              replace d_5 := x26.cell d_5
              replace c__0 := x26.cell c__0
              replace c__1 := x26.cell c__1
              replace c__2 := x26.cell c__2
              replace p_0 := x26.cell p_0
              replace p_1 := x26.cell p_1
              replace p_2 := x26.cell p_2
              replace p_3 := x26.cell p_3
              replace p_4 := x26.cell p_4
              replace p_5 := x26.cell p_5
              replace z__0 := x26.cell z__0
              replace z__1 := x26.cell z__1
              replace z__2 := x26.cell z__2
              go_wp2_with fail
              go_ret
              exact ⟨rfl, (by repeat' (first | with_reducible exact Ext.refl _ | with_reducible assumption | with_reducible apply Ext.alloc_r | with_reducible apply Ext.drew_r | with_reducible apply Ext.drewN_r | with_reducible refine Ext.trans ?_ ‹Ext _ _›))⟩
      · have HN : Hid ((decide (L6 ≤ 3) && decide (M6 ≤ 3)) = false) := by show _ = _; simpa using hg6
        have HF := Lib.hid hf
        have HG5 := Lib.hid hg5
        clear hf hg5 hg6
        go_enter Try.func3, Try.ntmps3
        go_wp2_with fail
        obtain ⟨w0, hw0⟩ : ∃ z : World, z = (((w.alloc (.cells #[.bool s1, .slice A1 L1 c1, .slice B1 M1 d1, .bool s2, .slice A2 L2 c2, .slice B2 M2 d2] 29)).alloc (.cells #[.bool s3, .slice A3 L3 c3, .slice B3 M3 d3, .bool s4, .slice A4 L4 c4, .slice B4 M4 d4] 29)).alloc (.cells #[.bool s5, .slice A5 L5 c5, .slice B5 M5 d5, .bool s6, .slice A6 L6 c6, .slice B6 M6 d6] 30)) := ⟨_, rfl⟩
        rw [← hw0]
        have b0 := box_at w #[.bool s1, .slice A1 L1 c1, .slice B1 M1 d1, .bool s2, .slice A2 L2 c2, .slice B2 M2 d2] 29
        have b1 := box_at (w.alloc (.cells #[.bool s1, .slice A1 L1 c1, .slice B1 M1 d1, .bool s2, .slice A2 L2 c2, .slice B2 M2 d2] 29)) #[.bool s3, .slice A3 L3 c3, .slice B3 M3 d3, .bool s4, .slice A4 L4 c4, .slice B4 M4 d4] 29
        have b2 := box_at ((w.alloc (.cells #[.bool s1, .slice A1 L1 c1, .slice B1 M1 d1, .bool s2, .slice A2 L2 c2, .slice B2 M2 d2] 29)).alloc (.cells #[.bool s3, .slice A3 L3 c3, .slice B3 M3 d3, .bool s4, .slice A4 L4 c4, .slice B4 M4 d4] 29)) #[.bool s5, .slice A5 L5 c5, .slice B5 M5 d5, .bool s6, .slice A6 L6 c6, .slice B6 M6 d6] 30
        have hsz : w0.heap.size = w.heap.size + 1 + 1 + 1 := by rw [hw0]; simp
        rw [← hw0] at b2
        have y2 : Ext ((w.alloc (.cells #[.bool s1, .slice A1 L1 c1, .slice B1 M1 d1, .bool s2, .slice A2 L2 c2, .slice B2 M2 d2] 29)).alloc (.cells #[.bool s3, .slice A3 L3 c3, .slice B3 M3 d3, .bool s4, .slice A4 L4 c4, .slice B4 M4 d4] 29)) w0 := by rw [hw0]; exact Ext.alloc _ _
        have y1 : Ext (w.alloc (.cells #[.bool s1, .slice A1 L1 c1, .slice B1 M1 d1, .bool s2, .slice A2 L2 c2, .slice B2 M2 d2] 29)) w0 := (Ext.alloc _ _).trans y2
        have y0 : Ext w w0 := (Ext.alloc _ _).trans y1
        have x0 : Ext w w0 := y0
        have e0_0 := y1.cell (b0.1 0 (.bool s1) rfl)
        have e0_1 := y1.cell (b0.1 1 (.slice A1 L1 c1) rfl)
        have e0_2 := y1.cell (b0.1 2 (.slice B1 M1 d1) rfl)
        have e0_3 := y1.cell (b0.1 3 (.bool s2) rfl)
        have e0_4 := y1.cell (b0.1 4 (.slice A2 L2 c2) rfl)
        have e0_5 := y1.cell (b0.1 5 (.slice B2 M2 d2) rfl)
        have e1_0 := y2.cell (b1.1 0 (.bool s3) rfl)
        have e1_1 := y2.cell (b1.1 1 (.slice A3 L3 c3) rfl)
        have e1_2 := y2.cell (b1.1 2 (.slice B3 M3 d3) rfl)
        have e1_3 := y2.cell (b1.1 3 (.bool s4) rfl)
        have e1_4 := y2.cell (b1.1 4 (.slice A4 L4 c4) rfl)
        have e1_5 := y2.cell (b1.1 5 (.slice B4 M4 d4) rfl)
        have e2_0 := b2.1 0 (.bool s5) rfl
        have e2_1 := b2.1 1 (.slice A5 L5 c5) rfl
        have e2_2 := b2.1 2 (.slice B5 M5 d5) rfl
        have e2_3 := b2.1 3 (.bool s6) rfl
        have e2_4 := b2.1 4 (.slice A6 L6 c6) rfl
        have e2_5 := b2.1 5 (.slice B6 M6 d6) rfl
        simp only [World.size_alloc] at e1_0 e1_1 e1_2 e1_3 e1_4 e1_5 e2_0 e2_1 e2_2 e2_3 e2_4 e2_5
        clear hw0 b0 b1 b2 y0 y1 y2
        go_wp2_with fail
        refine (awake6 _).mono ?_
        rintro e w1 ⟨rfl, x1⟩
        replace e0_0 := x1.cell e0_0
        replace e0_1 := x1.cell e0_1
        replace e0_2 := x1.cell e0_2
        replace e0_3 := x1.cell e0_3
        replace e0_4 := x1.cell e0_4
        replace e0_5 := x1.cell e0_5
        replace e1_0 := x1.cell e1_0
        replace e1_1 := x1.cell e1_1
        replace e1_2 := x1.cell e1_2
        replace e1_3 := x1.cell e1_3
        replace e1_4 := x1.cell e1_4
        replace e1_5 := x1.cell e1_5
        replace e2_0 := x1.cell e2_0
        replace e2_1 := x1.cell e2_1
        replace e2_2 := x1.cell e2_2
        replace e2_3 := x1.cell e2_3
        replace e2_4 := x1.cell e2_4
        replace e2_5 := x1.cell e2_5
        go_wp2_with fail
        refine (few6_yes (by omega) (by omega) (by omega) (by omega) (by omega) (by omega) (by omega) (by omega) HF.out).mono ?_
        rintro e w2 ⟨rfl, x2⟩
        replace e0_0 := x2.cell e0_0
        replace e0_1 := x2.cell e0_1
        replace e0_2 := x2.cell e0_2
        replace e0_3 := x2.cell e0_3
        replace e0_4 := x2.cell e0_4
        replace e0_5 := x2.cell e0_5
        replace e1_0 := x2.cell e1_0
        replace e1_1 := x2.cell e1_1
        replace e1_2 := x2.cell e1_2
        replace e1_3 := x2.cell e1_3
        replace e1_4 := x2.cell e1_4
        replace e1_5 := x2.cell e1_5
        replace e2_0 := x2.cell e2_0
        replace e2_1 := x2.cell e2_1
        replace e2_2 := x2.cell e2_2
        replace e2_3 := x2.cell e2_3
        replace e2_4 := x2.cell e2_4
        replace e2_5 := x2.cell e2_5
        go_wp2_with fail
        refine (small_is (by omega) (by omega) HG5.out).mono ?_
        rintro e w3 ⟨rfl, x3⟩
        replace e0_0 := x3.cell e0_0
        replace e0_1 := x3.cell e0_1
        replace e0_2 := x3.cell e0_2
        replace e0_3 := x3.cell e0_3
        replace e0_4 := x3.cell e0_4
        replace e0_5 := x3.cell e0_5
        replace e1_0 := x3.cell e1_0
        replace e1_1 := x3.cell e1_1
        replace e1_2 := x3.cell e1_2
        replace e1_3 := x3.cell e1_3
        replace e1_4 := x3.cell e1_4
        replace e1_5 := x3.cell e1_5
        replace e2_0 := x3.cell e2_0
        replace e2_1 := x3.cell e2_1
        replace e2_2 := x3.cell e2_2
        replace e2_3 := x3.cell e2_3
        replace e2_4 := x3.cell e2_4
        replace e2_5 := x3.cell e2_5
        go_wp2_with fail
        refine (small_is (by omega) (by omega) HN.out).mono ?_
        rintro e w4 ⟨rfl, x4⟩
        replace e0_0 := x4.cell e0_0
        replace e0_1 := x4.cell e0_1
        replace e0_2 := x4.cell e0_2
        replace e0_3 := x4.cell e0_3
        replace e0_4 := x4.cell e0_4
        replace e0_5 := x4.cell e0_5
        replace e1_0 := x4.cell e1_0
        replace e1_1 := x4.cell e1_1
        replace e1_2 := x4.cell e1_2
        replace e1_3 := x4.cell e1_3
        replace e1_4 := x4.cell e1_4
        replace e1_5 := x4.cell e1_5
        replace e2_0 := x4.cell e2_0
        replace e2_1 := x4.cell e2_1
        replace e2_2 := x4.cell e2_2
        replace e2_3 := x4.cell e2_3
        replace e2_4 := x4.cell e2_4
        replace e2_5 := x4.cell e2_5
        clear hsz
        go_wp2_with fail
        refine (awake6 _).mono ?_
        rintro e w5 ⟨rfl, x5⟩
        replace e0_0 := x5.cell e0_0
        replace e0_1 := x5.cell e0_1
        replace e0_2 := x5.cell e0_2
        replace e0_3 := x5.cell e0_3
        replace e0_4 := x5.cell e0_4
        replace e0_5 := x5.cell e0_5
        replace e1_0 := x5.cell e1_0
        replace e1_1 := x5.cell e1_1
        replace e1_2 := x5.cell e1_2
        replace e1_3 := x5.cell e1_3
        replace e1_4 := x5.cell e1_4
        replace e1_5 := x5.cell e1_5
        replace e2_0 := x5.cell e2_0
        replace e2_1 := x5.cell e2_1
        replace e2_2 := x5.cell e2_2
        replace e2_3 := x5.cell e2_3
        replace e2_4 := x5.cell e2_4
        replace e2_5 := x5.cell e2_5
        go_wp2_with fail
        go_ret
        exact ⟨rfl, (by repeat' (first | with_reducible exact Ext.refl _ | with_reducible assumption | with_reducible apply Ext.alloc_r | with_reducible apply Ext.drew_r | with_reducible apply Ext.drewN_r | with_reducible refine Ext.trans ?_ ‹Ext _ _›))⟩
    · have HN : Hid ((decide (L5 ≤ 3) && decide (M5 ≤ 3)) = false) := by show _ = _; simpa using hg5
      have HF := Lib.hid hf
      clear hf hg5
      go_enter Try.func3, Try.ntmps3
      go_wp2_with fail
      obtain ⟨w0, hw0⟩ : ∃ z : World, z = (((w.alloc (.cells #[.bool s1, .slice A1 L1 c1, .slice B1 M1 d1, .bool s2, .slice A2 L2 c2, .slice B2 M2 d2] 29)).alloc (.cells #[.bool s3, .slice A3 L3 c3, .slice B3 M3 d3, .bool s4, .slice A4 L4 c4, .slice B4 M4 d4] 29)).alloc (.cells #[.bool s5, .slice A5 L5 c5, .slice B5 M5 d5, .bool s6, .slice A6 L6 c6, .slice B6 M6 d6] 30)) := ⟨_, rfl⟩
      rw [← hw0]
      have b0 := box_at w #[.bool s1, .slice A1 L1 c1, .slice B1 M1 d1, .bool s2, .slice A2 L2 c2, .slice B2 M2 d2] 29
      have b1 := box_at (w.alloc (.cells #[.bool s1, .slice A1 L1 c1, .slice B1 M1 d1, .bool s2, .slice A2 L2 c2, .slice B2 M2 d2] 29)) #[.bool s3, .slice A3 L3 c3, .slice B3 M3 d3, .bool s4, .slice A4 L4 c4, .slice B4 M4 d4] 29
      have b2 := box_at ((w.alloc (.cells #[.bool s1, .slice A1 L1 c1, .slice B1 M1 d1, .bool s2, .slice A2 L2 c2, .slice B2 M2 d2] 29)).alloc (.cells #[.bool s3, .slice A3 L3 c3, .slice B3 M3 d3, .bool s4, .slice A4 L4 c4, .slice B4 M4 d4] 29)) #[.bool s5, .slice A5 L5 c5, .slice B5 M5 d5, .bool s6, .slice A6 L6 c6, .slice B6 M6 d6] 30
      have hsz : w0.heap.size = w.heap.size + 1 + 1 + 1 := by rw [hw0]; simp
      rw [← hw0] at b2
      have y2 : Ext ((w.alloc (.cells #[.bool s1, .slice A1 L1 c1, .slice B1 M1 d1, .bool s2, .slice A2 L2 c2, .slice B2 M2 d2] 29)).alloc (.cells #[.bool s3, .slice A3 L3 c3, .slice B3 M3 d3, .bool s4, .slice A4 L4 c4, .slice B4 M4 d4] 29)) w0 := by rw [hw0]; exact Ext.alloc _ _
      have y1 : Ext (w.alloc (.cells #[.bool s1, .slice A1 L1 c1, .slice B1 M1 d1, .bool s2, .slice A2 L2 c2, .slice B2 M2 d2] 29)) w0 := (Ext.alloc _ _).trans y2
      have y0 : Ext w w0 := (Ext.alloc _ _).trans y1
      have x0 : Ext w w0 := y0
      have e0_0 := y1.cell (b0.1 0 (.bool s1) rfl)
      have e0_1 := y1.cell (b0.1 1 (.slice A1 L1 c1) rfl)
      have e0_2 := y1.cell (b0.1 2 (.slice B1 M1 d1) rfl)
      have e0_3 := y1.cell (b0.1 3 (.bool s2) rfl)
      have e0_4 := y1.cell (b0.1 4 (.slice A2 L2 c2) rfl)
      have e0_5 := y1.cell (b0.1 5 (.slice B2 M2 d2) rfl)
      have e1_0 := y2.cell (b1.1 0 (.bool s3) rfl)
      have e1_1 := y2.cell (b1.1 1 (.slice A3 L3 c3) rfl)
      have e1_2 := y2.cell (b1.1 2 (.slice B3 M3 d3) rfl)
      have e1_3 := y2.cell (b1.1 3 (.bool s4) rfl)
      have e1_4 := y2.cell (b1.1 4 (.slice A4 L4 c4) rfl)
      have e1_5 := y2.cell (b1.1 5 (.slice B4 M4 d4) rfl)
      have e2_0 := b2.1 0 (.bool s5) rfl
      have e2_1 := b2.1 1 (.slice A5 L5 c5) rfl
      have e2_2 := b2.1 2 (.slice B5 M5 d5) rfl
      have e2_3 := b2.1 3 (.bool s6) rfl
      have e2_4 := b2.1 4 (.slice A6 L6 c6) rfl
      have e2_5 := b2.1 5 (.slice B6 M6 d6) rfl
      simp only [World.size_alloc] at e1_0 e1_1 e1_2 e1_3 e1_4 e1_5 e2_0 e2_1 e2_2 e2_3 e2_4 e2_5
      clear hw0 b0 b1 b2 y0 y1 y2
      go_wp2_with fail
      refine (awake6 _).mono ?_
      rintro e w1 ⟨rfl, x1⟩
      replace e0_0 := x1.cell e0_0
      replace e0_1 := x1.cell e0_1
      replace e0_2 := x1.cell e0_2
      replace e0_3 := x1.cell e0_3
      replace e0_4 := x1.cell e0_4
      replace e0_5 := x1.cell e0_5
      replace e1_0 := x1.cell e1_0
      replace e1_1 := x1.cell e1_1
      replace e1_2 := x1.cell e1_2
      replace e1_3 := x1.cell e1_3
      replace e1_4 := x1.cell e1_4
      replace e1_5 := x1.cell e1_5
      replace e2_0 := x1.cell e2_0
      replace e2_1 := x1.cell e2_1
      replace e2_2 := x1.cell e2_2
      replace e2_3 := x1.cell e2_3
      replace e2_4 := x1.cell e2_4
      replace e2_5 := x1.cell e2_5
      go_wp2_with fail
      refine (few6_yes (by omega) (by omega) (by omega) (by omega) (by omega) (by omega) (by omega) (by omega) HF.out).mono ?_
      rintro e w2 ⟨rfl, x2⟩
      replace e0_0 := x2.cell e0_0
      replace e0_1 := x2.cell e0_1
      replace e0_2 := x2.cell e0_2
      replace e0_3 := x2.cell e0_3
      replace e0_4 := x2.cell e0_4
      replace e0_5 := x2.cell e0_5
      replace e1_0 := x2.cell e1_0
      replace e1_1 := x2.cell e1_1
      replace e1_2 := x2.cell e1_2
      replace e1_3 := x2.cell e1_3
      replace e1_4 := x2.cell e1_4
      replace e1_5 := x2.cell e1_5
      replace e2_0 := x2.cell e2_0
      replace e2_1 := x2.cell e2_1
      replace e2_2 := x2.cell e2_2
      replace e2_3 := x2.cell e2_3
      replace e2_4 := x2.cell e2_4
      replace e2_5 := x2.cell e2_5
      go_wp2_with fail
      refine (small_is (by omega) (by omega) HN.out).mono ?_
      rintro e w3 ⟨rfl, x3⟩
      replace e0_0 := x3.cell e0_0
      replace e0_1 := x3.cell e0_1
      replace e0_2 := x3.cell e0_2
      replace e0_3 := x3.cell e0_3
      replace e0_4 := x3.cell e0_4
      replace e0_5 := x3.cell e0_5
      replace e1_0 := x3.cell e1_0
      replace e1_1 := x3.cell e1_1
      replace e1_2 := x3.cell e1_2
      replace e1_3 := x3.cell e1_3
      replace e1_4 := x3.cell e1_4
      replace e1_5 := x3.cell e1_5
      replace e2_0 := x3.cell e2_0
      replace e2_1 := x3.cell e2_1
      replace e2_2 := x3.cell e2_2
      replace e2_3 := x3.cell e2_3
      replace e2_4 := x3.cell e2_4
      replace e2_5 := x3.cell e2_5
      clear hsz
      go_wp2_with fail
      refine (awake6 _).mono ?_
      rintro e w4 ⟨rfl, x4⟩
      replace e0_0 := x4.cell e0_0
      replace e0_1 := x4.cell e0_1
      replace e0_2 := x4.cell e0_2
      replace e0_3 := x4.cell e0_3
      replace e0_4 := x4.cell e0_4
      replace e0_5 := x4.cell e0_5
      replace e1_0 := x4.cell e1_0
      replace e1_1 := x4.cell e1_1
      replace e1_2 := x4.cell e1_2
      replace e1_3 := x4.cell e1_3
      replace e1_4 := x4.cell e1_4
      replace e1_5 := x4.cell e1_5
      replace e2_0 := x4.cell e2_0
      replace e2_1 := x4.cell e2_1
      replace e2_2 := x4.cell e2_2
      replace e2_3 := x4.cell e2_3
      replace e2_4 := x4.cell e2_4
      replace e2_5 := x4.cell e2_5
      go_wp2_with fail
      go_ret
      exact ⟨rfl, (by repeat' (first | with_reducible exact Ext.refl _ | with_reducible assumption | with_reducible apply Ext.alloc_r | with_reducible apply Ext.drew_r | with_reducible apply Ext.drewN_r | with_reducible refine Ext.trans ?_ ‹Ext _ _›))⟩
  · have HN := Lib.hid hf
    clear hf
    go_enter Try.func3, Try.ntmps3
    go_wp2_with fail
    obtain ⟨w0, hw0⟩ : ∃ z : World, z = (((w.alloc (.cells #[.bool s1, .slice A1 L1 c1, .slice B1 M1 d1, .bool s2, .slice A2 L2 c2, .slice B2 M2 d2] 29)).alloc (.cells #[.bool s3, .slice A3 L3 c3, .slice B3 M3 d3, .bool s4, .slice A4 L4 c4, .slice B4 M4 d4] 29)).alloc (.cells #[.bool s5, .slice A5 L5 c5, .slice B5 M5 d5, .bool s6, .slice A6 L6 c6, .slice B6 M6 d6] 30)) := ⟨_, rfl⟩
    rw [← hw0]
    have b0 := box_at w #[.bool s1, .slice A1 L1 c1, .slice B1 M1 d1, .bool s2, .slice A2 L2 c2, .slice B2 M2 d2] 29
    have b1 := box_at (w.alloc (.cells #[.bool s1, .slice A1 L1 c1, .slice B1 M1 d1, .bool s2, .slice A2 L2 c2, .slice B2 M2 d2] 29)) #[.bool s3, .slice A3 L3 c3, .slice B3 M3 d3, .bool s4, .slice A4 L4 c4, .slice B4 M4 d4] 29
    have b2 := box_at ((w.alloc (.cells #[.bool s1, .slice A1 L1 c1, .slice B1 M1 d1, .bool s2, .slice A2 L2 c2, .slice B2 M2 d2] 29)).alloc (.cells #[.bool s3, .slice A3 L3 c3, .slice B3 M3 d3, .bool s4, .slice A4 L4 c4, .slice B4 M4 d4] 29)) #[.bool s5, .slice A5 L5 c5, .slice B5 M5 d5, .bool s6, .slice A6 L6 c6, .slice B6 M6 d6] 30
    have hsz : w0.heap.size = w.heap.size + 1 + 1 + 1 := by rw [hw0]; simp
    rw [← hw0] at b2
    have y2 : Ext ((w.alloc (.cells #[.bool s1, .slice A1 L1 c1, .slice B1 M1 d1, .bool s2, .slice A2 L2 c2, .slice B2 M2 d2] 29)).alloc (.cells #[.bool s3, .slice A3 L3 c3, .slice B3 M3 d3, .bool s4, .slice A4 L4 c4, .slice B4 M4 d4] 29)) w0 := by rw [hw0]; exact Ext.alloc _ _
    have y1 : Ext (w.alloc (.cells #[.bool s1, .slice A1 L1 c1, .slice B1 M1 d1, .bool s2, .slice A2 L2 c2, .slice B2 M2 d2] 29)) w0 := (Ext.alloc _ _).trans y2
    have y0 : Ext w w0 := (Ext.alloc _ _).trans y1
    have x0 : Ext w w0 := y0
    have e0_0 := y1.cell (b0.1 0 (.bool s1) rfl)
    have e0_1 := y1.cell (b0.1 1 (.slice A1 L1 c1) rfl)
    have e0_2 := y1.cell (b0.1 2 (.slice B1 M1 d1) rfl)
    have e0_3 := y1.cell (b0.1 3 (.bool s2) rfl)
    have e0_4 := y1.cell (b0.1 4 (.slice A2 L2 c2) rfl)
    have e0_5 := y1.cell (b0.1 5 (.slice B2 M2 d2) rfl)
    have e1_0 := y2.cell (b1.1 0 (.bool s3) rfl)
    have e1_1 := y2.cell (b1.1 1 (.slice A3 L3 c3) rfl)
    have e1_2 := y2.cell (b1.1 2 (.slice B3 M3 d3) rfl)
    have e1_3 := y2.cell (b1.1 3 (.bool s4) rfl)
    have e1_4 := y2.cell (b1.1 4 (.slice A4 L4 c4) rfl)
    have e1_5 := y2.cell (b1.1 5 (.slice B4 M4 d4) rfl)
    have e2_0 := b2.1 0 (.bool s5) rfl
    have e2_1 := b2.1 1 (.slice A5 L5 c5) rfl
    have e2_2 := b2.1 2 (.slice B5 M5 d5) rfl
    have e2_3 := b2.1 3 (.bool s6) rfl
    have e2_4 := b2.1 4 (.slice A6 L6 c6) rfl
    have e2_5 := b2.1 5 (.slice B6 M6 d6) rfl
    simp only [World.size_alloc] at e1_0 e1_1 e1_2 e1_3 e1_4 e1_5 e2_0 e2_1 e2_2 e2_3 e2_4 e2_5
    clear hw0 b0 b1 b2 y0 y1 y2
    go_wp2_with fail
    refine (awake6 _).mono ?_
    rintro e w1 ⟨rfl, x1⟩
    replace e0_0 := x1.cell e0_0
    replace e0_1 := x1.cell e0_1
    replace e0_2 := x1.cell e0_2
    replace e0_3 := x1.cell e0_3
    replace e0_4 := x1.cell e0_4
    replace e0_5 := x1.cell e0_5
    replace e1_0 := x1.cell e1_0
    replace e1_1 := x1.cell e1_1
    replace e1_2 := x1.cell e1_2
    replace e1_3 := x1.cell e1_3
    replace e1_4 := x1.cell e1_4
    replace e1_5 := x1.cell e1_5
    replace e2_0 := x1.cell e2_0
    replace e2_1 := x1.cell e2_1
    replace e2_2 := x1.cell e2_2
    replace e2_3 := x1.cell e2_3
    replace e2_4 := x1.cell e2_4
    replace e2_5 := x1.cell e2_5
    go_wp2_with fail
    refine (few6_no (by omega) (by omega) (by omega) (by omega) (by omega) (by omega) (by omega) (by omega) HN.out).mono ?_
    rintro e w2 ⟨rfl, x2⟩
    replace e0_0 := x2.cell e0_0
    replace e0_1 := x2.cell e0_1
    replace e0_2 := x2.cell e0_2
    replace e0_3 := x2.cell e0_3
    replace e0_4 := x2.cell e0_4
    replace e0_5 := x2.cell e0_5
    replace e1_0 := x2.cell e1_0
    replace e1_1 := x2.cell e1_1
    replace e1_2 := x2.cell e1_2
    replace e1_3 := x2.cell e1_3
    replace e1_4 := x2.cell e1_4
    replace e1_5 := x2.cell e1_5
    replace e2_0 := x2.cell e2_0
    replace e2_1 := x2.cell e2_1
    replace e2_2 := x2.cell e2_2
    replace e2_3 := x2.cell e2_3
    replace e2_4 := x2.cell e2_4
    replace e2_5 := x2.cell e2_5
    clear hsz
    go_wp2_with fail
    refine (awake6 _).mono ?_
    rintro e w3 ⟨rfl, x3⟩
    replace e0_0 := x3.cell e0_0
    replace e0_1 := x3.cell e0_1
    replace e0_2 := x3.cell e0_2
    replace e0_3 := x3.cell e0_3
    replace e0_4 := x3.cell e0_4
    replace e0_5 := x3.cell e0_5
    replace e1_0 := x3.cell e1_0
    replace e1_1 := x3.cell e1_1
    replace e1_2 := x3.cell e1_2
    replace e1_3 := x3.cell e1_3
    replace e1_4 := x3.cell e1_4
    replace e1_5 := x3.cell e1_5
    replace e2_0 := x3.cell e2_0
    replace e2_1 := x3.cell e2_1
    replace e2_2 := x3.cell e2_2
    replace e2_3 := x3.cell e2_3
    replace e2_4 := x3.cell e2_4
    replace e2_5 := x3.cell e2_5
    go_wp2_with fail
    go_ret
    exact ⟨rfl, (by repeat' (first | with_reducible exact Ext.refl _ | with_reducible assumption | with_reducible apply Ext.alloc_r | with_reducible apply Ext.drew_r | with_reducible apply Ext.drewN_r | with_reducible refine Ext.trans ?_ ‹Ext _ _›))⟩
end Go.Proofs.Ytehhkeenjlpikaa
