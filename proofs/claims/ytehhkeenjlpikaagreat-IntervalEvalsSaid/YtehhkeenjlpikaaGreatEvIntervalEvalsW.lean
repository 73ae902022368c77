/- The walk of IntervalEvals. -/
import Derived.Test.YtehhkeenjlpikaaGreatEvLaw6
import Derived.Test.YtehhkeenjlpikaaGreatEvIvE
import Derived.Test.YtehhkeenjlpikaaGreatEvOpenV
import Derived.Test.YtehhkeenjlpikaaGreatEvPutI
import Derived.Test.YtehhkeenjlpikaaGreatEvJvI
namespace Go.Proofs.YtehhkeenjlpikaaGreat
open Go.RowKit
set_option maxHeartbeats 40000000 in
set_option maxRecDepth 100000 in
theorem intervalEvals_len {w : World} {A0 : Option Addr} {c0 n : Nat} {s1 : Bool} {A1 B1 : Option Addr} {c1 L1 d1 M1 : Nat} {x1 : Int} {y1 : Nat} {s2 : Bool} {A2 B2 : Option Addr} {c2 L2 d2 M2 : Nat} {x2 : Int} {y2 : Nat} {s3 : Bool} {A3 B3 : Option Addr} {c3 L3 d3 M3 : Nat} {x3 : Int} {y3 : Nat} (h1 : RW w s1 A1 c1 L1 B1 d1 M1 x1 y1) (h2 : RW w s2 A2 c2 L2 B2 d2 M2 x2 y2) (h3 : RW w s3 A3 c3 L3 B3 d3 M3 x3 y3) (h8 : 8 < n) :
    Calls Tryz.prog 4 #[.slice A0 n c0, Value.agg #[Value.bool s1, Value.slice A1 L1 c1, Value.slice B1 M1 d1, Value.bool s2, Value.slice A2 L2 c2, Value.slice B2 M2 d2], Value.agg #[Value.bool s3, Value.slice A3 L3 c3, Value.slice B3 M3 d3]] w fun e w' => e = .returned (.bool true) ∧ Ext w w' := by
  have pa1 := h1.num.nv.cap
  have pb1 := h1.den.cap
  have qa1 := h1.num.nv.le
  have qb1 := h1.den.le
  have pa2 := h2.num.nv.cap
  have pb2 := h2.den.cap
  have qa2 := h2.num.nv.le
  have qb2 := h2.den.le
  have pa3 := h3.num.nv.cap
  have pb3 := h3.den.cap
  have qa3 := h3.num.nv.le
  have qb3 := h3.den.le
  have hnd : decide ((n : Int) > 8) = true := decide_eq_true (by omega)
  have hnd2 : decide (8 < n) = true := decide_eq_true (by omega)
  go_enter Tryz.func4, Tryz.ntmps4
  go_wp2_with fail
  obtain ⟨w0, hw0⟩ : ∃ z : World, z = ((w.alloc (.cells #[.bool s1, .slice A1 L1 c1, .slice B1 M1 d1, .bool s2, .slice A2 L2 c2, .slice B2 M2 d2] 29)).alloc (.cells #[.bool s3, .slice A3 L3 c3, .slice B3 M3 d3] 27)) := ⟨_, rfl⟩
  rw [← hw0]
  have b0 := box_at w #[.bool s1, .slice A1 L1 c1, .slice B1 M1 d1, .bool s2, .slice A2 L2 c2, .slice B2 M2 d2] 29
  have b1 := box_at (w.alloc (.cells #[.bool s1, .slice A1 L1 c1, .slice B1 M1 d1, .bool s2, .slice A2 L2 c2, .slice B2 M2 d2] 29)) #[.bool s3, .slice A3 L3 c3, .slice B3 M3 d3] 27
  have hsz : w0.heap.size = w.heap.size + 1 + 1 := by rw [hw0]; simp
  rw [← hw0] at b1
  have y1 : Ext (w.alloc (.cells #[.bool s1, .slice A1 L1 c1, .slice B1 M1 d1, .bool s2, .slice A2 L2 c2, .slice B2 M2 d2] 29)) w0 := by rw [hw0]; exact Ext.alloc _ _
  have y0 : Ext w w0 := (Ext.alloc _ _).trans y1
  have x0 : Ext w w0 := y0
  have e0_0 := y1.cell (b0.1 0 (.bool s1) rfl)
  have e0_1 := y1.cell (b0.1 1 (.slice A1 L1 c1) rfl)
  have e0_2 := y1.cell (b0.1 2 (.slice B1 M1 d1) rfl)
  have e0_3 := y1.cell (b0.1 3 (.bool s2) rfl)
  have e0_4 := y1.cell (b0.1 4 (.slice A2 L2 c2) rfl)
  have e0_5 := y1.cell (b0.1 5 (.slice B2 M2 d2) rfl)
  have e1_0 := b1.1 0 (.bool s3) rfl
  have e1_1 := b1.1 1 (.slice A3 L3 c3) rfl
  have e1_2 := b1.1 2 (.slice B3 M3 d3) rfl
  simp only [World.size_alloc] at e1_0 e1_1 e1_2
  clear hw0 b0 b1 y0 y1
  go_wp2_with fail
  refine (awake6 _).mono ?_
  rintro e w1 ⟨rfl, x1⟩
  replace e0_0 := x1.cell e0_0
  replace e0_1 := x1.cell e0_1
  replace e0_2 := x1.cell e0_2
  replace e0_3 := x1.cell e0_3
  replace e0_4 := x1.cell e0_4
  replace e0_5 := x1.cell e0_5
  replace e1_0 := x1.cell e1_0
  replace e1_1 := x1.cell e1_1
  replace e1_2 := x1.cell e1_2
  clear hsz
  go_wp2_with fail
  refine (awake6 _).mono ?_
  rintro e w2 ⟨rfl, x2⟩
  replace e0_0 := x2.cell e0_0
  replace e0_1 := x2.cell e0_1
  replace e0_2 := x2.cell e0_2
  replace e0_3 := x2.cell e0_3
  replace e0_4 := x2.cell e0_4
  replace e0_5 := x2.cell e0_5
  replace e1_0 := x2.cell e1_0
  replace e1_1 := x2.cell e1_1
  replace e1_2 := x2.cell e1_2
  go_wp2_with fail
  go_ret
  exact ⟨rfl, (by with_reducible repeat' first | exact Ext.refl _ | assumption | apply Ext.alloc_r | apply Ext.drew_r | apply Ext.drewN_r | refine Ext.trans ?_ ‹Ext _ _›)⟩
set_option maxHeartbeats 40000000 in
set_option maxRecDepth 100000 in
theorem intervalEvals_few {w : World} {A0 : Option Addr} {c0 n : Nat} {s1 : Bool} {A1 B1 : Option Addr} {c1 L1 d1 M1 : Nat} {x1 : Int} {y1 : Nat} {s2 : Bool} {A2 B2 : Option Addr} {c2 L2 d2 M2 : Nat} {x2 : Int} {y2 : Nat} {s3 : Bool} {A3 B3 : Option Addr} {c3 L3 d3 M3 : Nat} {x3 : Int} {y3 : Nat} (h1 : RW w s1 A1 c1 L1 B1 d1 M1 x1 y1) (h2 : RW w s2 A2 c2 L2 B2 d2 M2 x2 y2) (h3 : RW w s3 A3 c3 L3 B3 d3 M3 x3 y3) (h8 : n ≤ 8) (hf : ¬ (L1 ≤ 2 ∧ M1 ≤ 2 ∧ L2 ≤ 2 ∧ M2 ≤ 2 ∧ L1 ≤ 2 ∧ M1 ≤ 2 ∧ L2 ≤ 2 ∧ M2 ≤ 2)) :
    Calls Tryz.prog 4 #[.slice A0 n c0, Value.agg #[Value.bool s1, Value.slice A1 L1 c1, Value.slice B1 M1 d1, Value.bool s2, Value.slice A2 L2 c2, Value.slice B2 M2 d2], Value.agg #[Value.bool s3, Value.slice A3 L3 c3, Value.slice B3 M3 d3]] w fun e w' => e = .returned (.bool true) ∧ Ext w w' := by
  have pa1 := h1.num.nv.cap
  have pb1 := h1.den.cap
  have qa1 := h1.num.nv.le
  have qb1 := h1.den.le
  have pa2 := h2.num.nv.cap
  have pb2 := h2.den.cap
  have qa2 := h2.num.nv.le
  have qb2 := h2.den.le
  have pa3 := h3.num.nv.cap
  have pb3 := h3.den.cap
  have qa3 := h3.num.nv.le
  have qb3 := h3.den.le
  have hnd : decide ((n : Int) > 8) = false := decide_eq_false (by omega)
  have hnd2 : decide (8 < n) = false := decide_eq_false (by omega)
  have HN := Lib.hid hf
  clear hf
  go_enter Tryz.func4, Tryz.ntmps4
  go_wp2_with fail
  obtain ⟨w0, hw0⟩ : ∃ z : World, z = ((w.alloc (.cells #[.bool s1, .slice A1 L1 c1, .slice B1 M1 d1, .bool s2, .slice A2 L2 c2, .slice B2 M2 d2] 29)).alloc (.cells #[.bool s3, .slice A3 L3 c3, .slice B3 M3 d3] 27)) := ⟨_, rfl⟩
  rw [← hw0]
  have b0 := box_at w #[.bool s1, .slice A1 L1 c1, .slice B1 M1 d1, .bool s2, .slice A2 L2 c2, .slice B2 M2 d2] 29
  have b1 := box_at (w.alloc (.cells #[.bool s1, .slice A1 L1 c1, .slice B1 M1 d1, .bool s2, .slice A2 L2 c2, .slice B2 M2 d2] 29)) #[.bool s3, .slice A3 L3 c3, .slice B3 M3 d3] 27
  have hsz : w0.heap.size = w.heap.size + 1 + 1 := by rw [hw0]; simp
  rw [← hw0] at b1
  have y1 : Ext (w.alloc (.cells #[.bool s1, .slice A1 L1 c1, .slice B1 M1 d1, .bool s2, .slice A2 L2 c2, .slice B2 M2 d2] 29)) w0 := by rw [hw0]; exact Ext.alloc _ _
  have y0 : Ext w w0 := (Ext.alloc _ _).trans y1
  have x0 : Ext w w0 := y0
  have e0_0 := y1.cell (b0.1 0 (.bool s1) rfl)
  have e0_1 := y1.cell (b0.1 1 (.slice A1 L1 c1) rfl)
  have e0_2 := y1.cell (b0.1 2 (.slice B1 M1 d1) rfl)
  have e0_3 := y1.cell (b0.1 3 (.bool s2) rfl)
  have e0_4 := y1.cell (b0.1 4 (.slice A2 L2 c2) rfl)
  have e0_5 := y1.cell (b0.1 5 (.slice B2 M2 d2) rfl)
  have e1_0 := b1.1 0 (.bool s3) rfl
  have e1_1 := b1.1 1 (.slice A3 L3 c3) rfl
  have e1_2 := b1.1 2 (.slice B3 M3 d3) rfl
  simp only [World.size_alloc] at e1_0 e1_1 e1_2
  clear hw0 b0 b1 y0 y1
  go_wp2_with fail
  refine (awake6 _).mono ?_
  rintro e w1 ⟨rfl, x1⟩
  replace e0_0 := x1.cell e0_0
  replace e0_1 := x1.cell e0_1
  replace e0_2 := x1.cell e0_2
  replace e0_3 := x1.cell e0_3
  replace e0_4 := x1.cell e0_4
  replace e0_5 := x1.cell e0_5
  replace e1_0 := x1.cell e1_0
  replace e1_1 := x1.cell e1_1
  replace e1_2 := x1.cell e1_2
  go_wp2_with fail
  refine (few6_no (by omega) (by omega) (by omega) (by omega) (by omega) (by omega) (by omega) (by omega) HN.out).mono ?_
  rintro e w2 ⟨rfl, x2⟩
  replace e0_0 := x2.cell e0_0
  replace e0_1 := x2.cell e0_1
  replace e0_2 := x2.cell e0_2
  replace e0_3 := x2.cell e0_3
  replace e0_4 := x2.cell e0_4
  replace e0_5 := x2.cell e0_5
  replace e1_0 := x2.cell e1_0
  replace e1_1 := x2.cell e1_1
  replace e1_2 := x2.cell e1_2
  clear hsz
  go_wp2_with fail
  refine (awake6 _).mono ?_
  rintro e w3 ⟨rfl, x3⟩
  replace e0_0 := x3.cell e0_0
  replace e0_1 := x3.cell e0_1
  replace e0_2 := x3.cell e0_2
  replace e0_3 := x3.cell e0_3
  replace e0_4 := x3.cell e0_4
  replace e0_5 := x3.cell e0_5
  replace e1_0 := x3.cell e1_0
  replace e1_1 := x3.cell e1_1
  replace e1_2 := x3.cell e1_2
  go_wp2_with fail
  go_ret
  exact ⟨rfl, (by with_reducible repeat' first | exact Ext.refl _ | assumption | apply Ext.alloc_r | apply Ext.drew_r | apply Ext.drewN_r | refine Ext.trans ?_ ‹Ext _ _›)⟩
set_option maxHeartbeats 40000000 in
set_option maxRecDepth 100000 in
theorem intervalEvals_small {w : World} {A0 : Option Addr} {c0 n : Nat} {s1 : Bool} {A1 B1 : Option Addr} {c1 L1 d1 M1 : Nat} {x1 : Int} {y1 : Nat} {s2 : Bool} {A2 B2 : Option Addr} {c2 L2 d2 M2 : Nat} {x2 : Int} {y2 : Nat} {s3 : Bool} {A3 B3 : Option Addr} {c3 L3 d3 M3 : Nat} {x3 : Int} {y3 : Nat} (h1 : RW w s1 A1 c1 L1 B1 d1 M1 x1 y1) (h2 : RW w s2 A2 c2 L2 B2 d2 M2 x2 y2) (h3 : RW w s3 A3 c3 L3 B3 d3 M3 x3 y3) (h8 : n ≤ 8) (hf : L1 ≤ 2 ∧ M1 ≤ 2 ∧ L2 ≤ 2 ∧ M2 ≤ 2 ∧ L1 ≤ 2 ∧ M1 ≤ 2 ∧ L2 ≤ 2 ∧ M2 ≤ 2) (hg : ¬ (decide (L3 ≤ 2) && decide (M3 ≤ 2)) = true) :
    Calls Tryz.prog 4 #[.slice A0 n c0, Value.agg #[Value.bool s1, Value.slice A1 L1 c1, Value.slice B1 M1 d1, Value.bool s2, Value.slice A2 L2 c2, Value.slice B2 M2 d2], Value.agg #[Value.bool s3, Value.slice A3 L3 c3, Value.slice B3 M3 d3]] w fun e w' => e = .returned (.bool true) ∧ Ext w w' := by
  have pa1 := h1.num.nv.cap
  have pb1 := h1.den.cap
  have qa1 := h1.num.nv.le
  have qb1 := h1.den.le
  have pa2 := h2.num.nv.cap
  have pb2 := h2.den.cap
  have qa2 := h2.num.nv.le
  have qb2 := h2.den.le
  have pa3 := h3.num.nv.cap
  have pb3 := h3.den.cap
  have qa3 := h3.num.nv.le
  have qb3 := h3.den.le
  have hnd : decide ((n : Int) > 8) = false := decide_eq_false (by omega)
  have hnd2 : decide (8 < n) = false := decide_eq_false (by omega)
  have HF := Lib.hid hf
  have HN : Hid ((decide (L3 ≤ 2) && decide (M3 ≤ 2)) = false) := by show _ = _; simpa using hg
  clear hf hg
  go_enter Tryz.func4, Tryz.ntmps4
  go_wp2_with fail
  obtain ⟨w0, hw0⟩ : ∃ z : World, z = ((w.alloc (.cells #[.bool s1, .slice A1 L1 c1, .slice B1 M1 d1, .bool s2, .slice A2 L2 c2, .slice B2 M2 d2] 29)).alloc (.cells #[.bool s3, .slice A3 L3 c3, .slice B3 M3 d3] 27)) := ⟨_, rfl⟩
  rw [← hw0]
  have b0 := box_at w #[.bool s1, .slice A1 L1 c1, .slice B1 M1 d1, .bool s2, .slice A2 L2 c2, .slice B2 M2 d2] 29
  have b1 := box_at (w.alloc (.cells #[.bool s1, .slice A1 L1 c1, .slice B1 M1 d1, .bool s2, .slice A2 L2 c2, .slice B2 M2 d2] 29)) #[.bool s3, .slice A3 L3 c3, .slice B3 M3 d3] 27
  have hsz : w0.heap.size = w.heap.size + 1 + 1 := by rw [hw0]; simp
  rw [← hw0] at b1
  have y1 : Ext (w.alloc (.cells #[.bool s1, .slice A1 L1 c1, .slice B1 M1 d1, .bool s2, .slice A2 L2 c2, .slice B2 M2 d2] 29)) w0 := by rw [hw0]; exact Ext.alloc _ _
  have y0 : Ext w w0 := (Ext.alloc _ _).trans y1
  have x0 : Ext w w0 := y0
  have e0_0 := y1.cell (b0.1 0 (.bool s1) rfl)
  have e0_1 := y1.cell (b0.1 1 (.slice A1 L1 c1) rfl)
  have e0_2 := y1.cell (b0.1 2 (.slice B1 M1 d1) rfl)
  have e0_3 := y1.cell (b0.1 3 (.bool s2) rfl)
  have e0_4 := y1.cell (b0.1 4 (.slice A2 L2 c2) rfl)
  have e0_5 := y1.cell (b0.1 5 (.slice B2 M2 d2) rfl)
  have e1_0 := b1.1 0 (.bool s3) rfl
  have e1_1 := b1.1 1 (.slice A3 L3 c3) rfl
  have e1_2 := b1.1 2 (.slice B3 M3 d3) rfl
  simp only [World.size_alloc] at e1_0 e1_1 e1_2
  clear hw0 b0 b1 y0 y1
  go_wp2_with fail
  refine (awake6 _).mono ?_
  rintro e w1 ⟨rfl, x1⟩
  replace e0_0 := x1.cell e0_0
  replace e0_1 := x1.cell e0_1
  replace e0_2 := x1.cell e0_2
  replace e0_3 := x1.cell e0_3
  replace e0_4 := x1.cell e0_4
  replace e0_5 := x1.cell e0_5
  replace e1_0 := x1.cell e1_0
  replace e1_1 := x1.cell e1_1
  replace e1_2 := x1.cell e1_2
  go_wp2_with fail
  refine (few6_yes (by omega) (by omega) (by omega) (by omega) (by omega) (by omega) (by omega) (by omega) HF.out).mono ?_
  rintro e w2 ⟨rfl, x2⟩
  replace e0_0 := x2.cell e0_0
  replace e0_1 := x2.cell e0_1
  replace e0_2 := x2.cell e0_2
  replace e0_3 := x2.cell e0_3
  replace e0_4 := x2.cell e0_4
  replace e0_5 := x2.cell e0_5
  replace e1_0 := x2.cell e1_0
  replace e1_1 := x2.cell e1_1
  replace e1_2 := x2.cell e1_2
  go_wp2_with fail
  refine (small_is (by omega) (by omega) HN.out).mono ?_
  rintro e w3 ⟨rfl, x3⟩
  replace e0_0 := x3.cell e0_0
  replace e0_1 := x3.cell e0_1
  replace e0_2 := x3.cell e0_2
  replace e0_3 := x3.cell e0_3
  replace e0_4 := x3.cell e0_4
  replace e0_5 := x3.cell e0_5
  replace e1_0 := x3.cell e1_0
  replace e1_1 := x3.cell e1_1
  replace e1_2 := x3.cell e1_2
  clear hsz
  go_wp2_with fail
  refine (awake6 _).mono ?_
  rintro e w4 ⟨rfl, x4⟩
  replace e0_0 := x4.cell e0_0
  replace e0_1 := x4.cell e0_1
  replace e0_2 := x4.cell e0_2
  replace e0_3 := x4.cell e0_3
  replace e0_4 := x4.cell e0_4
  replace e0_5 := x4.cell e0_5
  replace e1_0 := x4.cell e1_0
  replace e1_1 := x4.cell e1_1
  replace e1_2 := x4.cell e1_2
  go_wp2_with fail
  go_ret
  exact ⟨rfl, (by with_reducible repeat' first | exact Ext.refl _ | assumption | apply Ext.alloc_r | apply Ext.drew_r | apply Ext.drewN_r | refine Ext.trans ?_ ‹Ext _ _›)⟩
set_option maxHeartbeats 40000000 in
set_option maxRecDepth 100000 in
theorem intervalEvals_main {w : World} {A0 : Option Addr} {c0 n : Nat} {qs : List Rat} {s1 : Bool} {A1 B1 : Option Addr} {c1 L1 d1 M1 : Nat} {x1 : Int} {y1 : Nat} {s2 : Bool} {A2 B2 : Option Addr} {c2 L2 d2 M2 : Nat} {x2 : Int} {y2 : Nat} {s3 : Bool} {A3 B3 : Option Addr} {c3 L3 d3 M3 : Nat} {x3 : Int} {y3 : Nat} (h1 : RW w s1 A1 c1 L1 B1 d1 M1 x1 y1) (h2 : RW w s2 A2 c2 L2 B2 d2 M2 x2 y2) (h3 : RW w s3 A3 c3 L3 B3 d3 M3 x3 y3) (hl : RWL w A0 qs) (hn : n = qs.length) (h8 : n ≤ 8) (hf : L1 ≤ 2 ∧ M1 ≤ 2 ∧ L2 ≤ 2 ∧ M2 ≤ 2 ∧ L1 ≤ 2 ∧ M1 ≤ 2 ∧ L2 ≤ 2 ∧ M2 ≤ 2) (hg : (decide (L3 ≤ 2) && decide (M3 ≤ 2)) = true) :
    Calls Tryz.prog 4 #[.slice A0 n c0, Value.agg #[Value.bool s1, Value.slice A1 L1 c1, Value.slice B1 M1 d1, Value.bool s2, Value.slice A2 L2 c2, Value.slice B2 M2 d2], Value.agg #[Value.bool s3, Value.slice A3 L3 c3, Value.slice B3 M3 d3]] w fun e w' => e = .returned (.bool true) ∧ Ext w w' := by
  have pa1 := h1.num.nv.cap
  have pb1 := h1.den.cap
  have qa1 := h1.num.nv.le
  have qb1 := h1.den.le
  have pa2 := h2.num.nv.cap
  have pb2 := h2.den.cap
  have qa2 := h2.num.nv.le
  have qb2 := h2.den.le
  have pa3 := h3.num.nv.cap
  have pb3 := h3.den.cap
  have qa3 := h3.num.nv.le
  have qb3 := h3.den.le
  have hnd : decide ((n : Int) > 8) = false := decide_eq_false (by omega)
  have hnd2 : decide (8 < n) = false := decide_eq_false (by omega)
  have hm3 : L3 ≤ 2 ∧ M3 ≤ 2 := by simpa using hg
  have HF := Lib.hid hf
  have HG3 := Lib.hid hg
  have HN := Lib.hid hn
  have hl8 : qs.length ≤ 8 := by omega
  have e1 := h1.rv (N := 2) (by omega) (by omega) (by omega)
  have e2 := h2.rv (N := 2) (by omega) (by omega) (by omega)
  have e3 := h3.rv (N := 2) (by omega) (by omega) (by omega)
  have HO1 : Hid (∀ w', Ext w w' → Calls Tryz.prog 10 #[Value.agg #[Value.bool s1, Value.slice A1 L1 c1, Value.slice B1 M1 d1, Value.bool s2, Value.slice A2 L2 c2, Value.slice B2 M2 d2]] w' (RetJ w' 64 (minQ (mkRat x1 y1) (mkRat x2 y2)) (maxQ (mkRat x1 y1) (mkRat x2 y2)))) := fun w' hx => lof6 (h1.ext hx) (h2.ext hx) (by omega) (by omega) (by omega) (by omega) (by omega) (by omega)
  have HQ3 : Hid (∀ w', Ext w w' → Calls Tryz.prog 18 #[Value.agg #[Value.bool s3, Value.slice A3 L3 c3, Value.slice B3 M3 d3]] w' (RetQ w' 64 (mkRat x3 y3))) := fun w' hx => lq6 (h3.ext hx) (by omega) (by omega) (by omega) (by omega)
  generalize mkRat x1 y1 = q1 at *
  generalize mkRat x2 y2 = q2 at *
  generalize mkRat x3 y3 = q3 at *
  clear hf hg hm3 hn h1 h2 h3
  go_enter Tryz.func4, Tryz.ntmps4
  go_wp2_with fail
  obtain ⟨w0, hw0⟩ : ∃ z : World, z = ((w.alloc (.cells #[.bool s1, .slice A1 L1 c1, .slice B1 M1 d1, .bool s2, .slice A2 L2 c2, .slice B2 M2 d2] 29)).alloc (.cells #[.bool s3, .slice A3 L3 c3, .slice B3 M3 d3] 27)) := ⟨_, rfl⟩
  rw [← hw0]
  have b0 := box_at w #[.bool s1, .slice A1 L1 c1, .slice B1 M1 d1, .bool s2, .slice A2 L2 c2, .slice B2 M2 d2] 29
  have b1 := box_at (w.alloc (.cells #[.bool s1, .slice A1 L1 c1, .slice B1 M1 d1, .bool s2, .slice A2 L2 c2, .slice B2 M2 d2] 29)) #[.bool s3, .slice A3 L3 c3, .slice B3 M3 d3] 27
  have hsz : w0.heap.size = w.heap.size + 1 + 1 := by rw [hw0]; simp
  rw [← hw0] at b1
  have y1 : Ext (w.alloc (.cells #[.bool s1, .slice A1 L1 c1, .slice B1 M1 d1, .bool s2, .slice A2 L2 c2, .slice B2 M2 d2] 29)) w0 := by rw [hw0]; exact Ext.alloc _ _
  have y0 : Ext w w0 := (Ext.alloc _ _).trans y1
  have x0 : Ext w w0 := y0
  have e0_0 := y1.cell (b0.1 0 (.bool s1) rfl)
  have e0_1 := y1.cell (b0.1 1 (.slice A1 L1 c1) rfl)
  have e0_2 := y1.cell (b0.1 2 (.slice B1 M1 d1) rfl)
  have e0_3 := y1.cell (b0.1 3 (.bool s2) rfl)
  have e0_4 := y1.cell (b0.1 4 (.slice A2 L2 c2) rfl)
  have e0_5 := y1.cell (b0.1 5 (.slice B2 M2 d2) rfl)
  have e1_0 := b1.1 0 (.bool s3) rfl
  have e1_1 := b1.1 1 (.slice A3 L3 c3) rfl
  have e1_2 := b1.1 2 (.slice B3 M3 d3) rfl
  simp only [World.size_alloc] at e1_0 e1_1 e1_2
  clear hw0 b0 b1 y0 y1
  go_wp2_with fail
  refine (awake6 _).mono ?_
  rintro e w1 ⟨rfl, x1⟩
  replace e0_0 := x1.cell e0_0
  replace e0_1 := x1.cell e0_1
  replace e0_2 := x1.cell e0_2
  replace e0_3 := x1.cell e0_3
  replace e0_4 := x1.cell e0_4
  replace e0_5 := x1.cell e0_5
  replace e1_0 := x1.cell e1_0
  replace e1_1 := x1.cell e1_1
  replace e1_2 := x1.cell e1_2
  go_wp2_with fail
  refine (few6_yes (by omega) (by omega) (by omega) (by omega) (by omega) (by omega) (by omega) (by omega) HF.out).mono ?_
  rintro e w2 ⟨rfl, x2⟩
  replace e0_0 := x2.cell e0_0
  replace e0_1 := x2.cell e0_1
  replace e0_2 := x2.cell e0_2
  replace e0_3 := x2.cell e0_3
  replace e0_4 := x2.cell e0_4
  replace e0_5 := x2.cell e0_5
  replace e1_0 := x2.cell e1_0
  replace e1_1 := x2.cell e1_1
  replace e1_2 := x2.cell e1_2
  go_wp2_with fail
  refine (small_is (by omega) (by omega) HG3.out).mono ?_
  rintro e w3 ⟨rfl, x3⟩
  replace e0_0 := x3.cell e0_0
  replace e0_1 := x3.cell e0_1
  replace e0_2 := x3.cell e0_2
  replace e0_3 := x3.cell e0_3
  replace e0_4 := x3.cell e0_4
  replace e0_5 := x3.cell e0_5
  replace e1_0 := x3.cell e1_0
  replace e1_1 := x3.cell e1_1
  replace e1_2 := x3.cell e1_2
  clear hsz HF HG3
  go_wp2_with fail
  have xwS : Ext w w3 := (by with_reducible repeat' first | exact Ext.refl _ | assumption | apply Ext.alloc_r | apply Ext.drew_r | apply Ext.drewN_r | refine Ext.trans ?_ ‹Ext _ _›)
  go_loopg [7, 8] qs.length (fun kk lv iv wr => ∃ (k : Nat) (Al : Option Addr) (ca : Nat), iv = .int .i64 k ∧ lv = .slice Al k ca ∧ k ≤ qs.length ∧ Hid (GQ wr w3.heap.size 64 (qs.take k) Al ca) ∧ Hid (CSK w A0 2 qs k) ∧ Hid (qs.length - k ≤ kk) ∧ Ext w3 wr)
  case atStart => exact ⟨0, none, 0, rfl, rfl, Nat.zero_le _, (by show GQ _ _ _ _ _ _; rw [List.take_zero]; exact GQ.nil _ _ _), (fun j hj h => absurd h (Nat.not_lt_zero _)), Nat.sub_le _ _, Ext.refl _⟩
  case round =>
    obtain ⟨k, Al, ca, rfl, rfl, hk, HG, HC, HK, hxr⟩ := hrel
    have xwr : Ext w wr := xwS.trans hxr
    by_cases hlt : k < qs.length
    · have hkn : (k : Int) < (n : Int) := by have := HN.out; omega
      have hk0 : (0 : Int) ≤ (k : Int) := by omega
      obtain ⟨b, off, sy, Ay, cy, Ly, By, dy, My, x0, y0, rfl, hb0, k0_0, k0_1, k0_2, hr, hq⟩ := hl k hlt
      have py := hr.num.nv.cap
      have ky := hr.den.cap
      have ry := hr.num.nv.le
      have ty := hr.den.le
      have HKM : Hid (k + 1 ≤ qs.length ∧ qs.length - (k + 1) < gk) := ⟨hlt, by have h5 : qs.length - k ≤ gk := HK.out; omega⟩
      have HQK := Lib.hid hq
      have szr := hxr.size
      clear HK hq
      have kc_0 := xwr.cell k0_0
      have kc_1 := xwr.cell k0_1
      have kc_2 := xwr.cell k0_2
      rcases hsm : (decide (Ly ≤ 2) && decide (My ≤ 2)) with _ | _
      · have HS := Lib.hid hsm
        clear hsm
        go_wp2_with fail
        refine (small_is (by omega) (by omega) HS.out).mono ?_
        rintro e wa ⟨rfl, xa⟩
        go_wp2_with fail
        go_ret
        exact ⟨rfl, xwr.trans xa⟩
      · have HS := Lib.hid hsm
        have hm4 : Ly ≤ 2 ∧ My ≤ 2 := by simpa using hsm
        have HM4 := Lib.hid hm4
        clear hsm hm4
        go_wp2_with fail
        refine (small_is (by omega) (by omega) HS.out).mono ?_
        rintro e wa ⟨rfl, xa⟩
        clear kc_0 kc_1 kc_2 HS
        have xwa : Ext w wa := xwr.trans xa
        have kc_0 := xwa.cell k0_0
        have kc_1 := xwa.cell k0_1
        have kc_2 := xwa.cell k0_2
        go_wp2_with fail
        clear kc_0 kc_1 kc_2
        refine (lq6 (K := 64) (hr.ext xwa) (by have := HM4.out; omega) (by have := HM4.out; omega) (by omega) (by omega)).mono ?_
        rintro e wz ⟨gz, Az, cz, Lz, hz, Bz, dz, Mz, rfl, z, xz⟩
        have HZ := Lib.hid z
        have xSz : Ext w3 wz := (hxr.trans xa).trans xz
        have hszz : w3.heap.size ≤ wz.heap.size := xSz.size
        have xrz : Ext wr wz := xa.trans xz
        clear z
        go_wp2_with (at_builtin; refine wpList_GQ rfl _ _ rfl w3.heap.size 64 (qs.take k) Al ca k (by rw [List.length_take]; omega) rfl ?hG wz.heap.size gz Az cz Lz hz Bz dz Mz qs[k] rfl ?h0 ?h1 ?h2 ?h3 ?hq (by omega) ?hB ?hh)
        case hG => exact HG.out.ext (xrz.trans (Ext.alloc _ _))
        case h0 => exact (BK.new _ _ _).c 0 _ rfl
        case h1 => exact (BK.new _ _ _).c 1 _ rfl
        case h2 => exact (BK.new _ _ _).c 2 _ rfl
        case h3 => exact (BK.new _ _ _).c 3 _ rfl
        case hq => rw [HQK.out]; exact HZ.out.ext (Ext.alloc _ _)
        case hB => simp only [World.size_alloc]; omega
        case hh =>
          intro A2 c2 w7 hG2 hkp hx7
          have x7 : Ext w3 w7 := hx7 w3 (xSz.trans (Ext.alloc _ _)) (Nat.le_refl _)
          have hG3 : Hid (GQ w7 w3.heap.size 64 (qs.take (k + 1)) A2 c2) := by show GQ _ _ _ _ _ _; first | exact hG2 | (rw [← List.take_append_getElem hlt]; exact hG2)
          have hC2 : Hid (CSK w (some ⟨b, off, none⟩) 2 qs (k + 1)) := fun j hj hjk => by
            rcases Nat.lt_or_ge j k with h5 | h5
            · exact HC.out j hj h5
            · obtain rfl : j = k := by omega
              exact ⟨b, off, sy, Ay, cy, Ly, By, dy, My, rfl, hb0, k0_0, k0_1, k0_2, by rw [HQK.out]; exact hr.rv HM4.out.1 HM4.out.2 (by omega)⟩
          clear HG HC HZ hG2 hkp hx7
          go_wp2_with fail
          go_roundg (qs.length - (k + 1))
          case measure => exact HKM.out.2
          case rel => exact ⟨k + 1, A2, c2, by go_num, rfl, HKM.out.1, hG3, hC2, Nat.le_refl _, x7⟩
    · obtain rfl : k = n := by have := HN.out; omega
      have HCS : Hid (CS w A0 2 qs) := CSK.cs (by have h5 := HC.out; rwa [HN.out] at h5)
      have HCL : Hid (∀ w', Ext wr w' → CQL w' Al 64 qs) := fun w' hx => by
        have h5 := HG.out
        rw [HN.out, List.take_length] at h5
        exact h5.cql.ext hx
      have hlk : ¬ (k : Int) < (k : Int) := by omega
      clear HG HC HK hlt hk hl
      replace e0_0 := hxr.cell e0_0
      replace e0_1 := hxr.cell e0_1
      replace e0_2 := hxr.cell e0_2
      replace e0_3 := hxr.cell e0_3
      replace e0_4 := hxr.cell e0_4
      replace e0_5 := hxr.cell e0_5
      replace e1_0 := hxr.cell e1_0
      replace e1_1 := hxr.cell e1_1
      replace e1_2 := hxr.cell e1_2
      obtain ⟨E1, hE1⟩ : ∃ z : Rat, z = (ev q1 q2 qs).1 := ⟨_, rfl⟩
      obtain ⟨E2, hE2⟩ : ∃ z : Rat, z = (ev q1 q2 qs).2 := ⟨_, rfl⟩
      have HEV : Hid (∀ w', Ext w w' → Calls Tryz.prog 19 #[.slice A0 k c0, Value.agg #[Value.bool s1, Value.slice A1 L1 c1, Value.slice B1 M1 d1, Value.bool s2, Value.slice A2 L2 c2, Value.slice B2 M2 d2]] w' (RetI w' 41 E1 E2)) := fun w' hx => by
        have h5 : qs.length * (2 + 2 + 1) ≤ 8 * (2 + 2 + 1) := Nat.mul_le_mul_right _ hl8
        refine (ieval_r (HCS.out.ext hx) HN.out (e1.ext hx) (e2.ext hx) (by omega) (by omega)).mono ?_
        rintro e w'' ⟨s, A, c, L, B, d, M, s', A', c', L', B', d', M', he, ha, hb, hx2⟩
        rw [hE1, hE2]
        exact ⟨s, A, c, L, B, d, M, s', A', c', L', B', d', M', he, ha.wide (by omega), hb.wide (by omega), hx2⟩
      have HEE : Hid ((ev (minQ q1 q2) (maxQ q1 q2) qs).1 = E1 ∧ (ev (minQ q1 q2) (maxQ q1 q2) qs).2 = E2) := by
        show _ ∧ _
        rw [ev_norm, hE1, hE2]
        exact ⟨rfl, rfl⟩
      have HIN : Hid (minQ q1 q2 ≤ q3 ∧ q3 ≤ maxQ q1 q2 → minQ E1 E2 ≤ hv q3 qs ∧ hv q3 qs ≤ maxQ E1 E2) := fun h => by
        have h5 := ev_in (show inI q3 q1 q2 from h) qs
        rw [← hE1, ← hE2] at h5
        exact ⟨Rat.le_trans (minQ_l _ _) h5.1, Rat.le_trans h5.2 (maxQ_r _ _)⟩
      clear hE1 hE2
      go_wp2_with fail
      refine (HO1.out _ (by with_reducible repeat' first | exact Ext.refl _ | assumption | apply Ext.alloc_r | apply Ext.drew_r | apply Ext.drewN_r | refine Ext.trans ?_ ‹Ext _ _›)).mono ?_
      rintro e w4 ⟨gxa, Axa, cxa, Lxa, hxa, Bxa, dxa, Mxa, gxb, Axb, cxb, Lxb, hxb, Bxb, dxb, Mxb, rfl, xa, xb, x4⟩
      replace e0_0 := x4.cell e0_0
      replace e0_1 := x4.cell e0_1
      replace e0_2 := x4.cell e0_2
      replace e0_3 := x4.cell e0_3
      replace e0_4 := x4.cell e0_4
      replace e0_5 := x4.cell e0_5
      replace e1_0 := x4.cell e1_0
      replace e1_1 := x4.cell e1_1
      replace e1_2 := x4.cell e1_2
      have HX := Lib.hid (And.intro xa xb)
      clear xa xb
      have te0_0 := fun o => (Ext.alloc w4 o).cell e0_0
      have te0_1 := fun o => (Ext.alloc w4 o).cell e0_1
      have te0_2 := fun o => (Ext.alloc w4 o).cell e0_2
      have te0_3 := fun o => (Ext.alloc w4 o).cell e0_3
      have te0_4 := fun o => (Ext.alloc w4 o).cell e0_4
      have te0_5 := fun o => (Ext.alloc w4 o).cell e0_5
      have te1_0 := fun o => (Ext.alloc w4 o).cell e1_0
      have te1_1 := fun o => (Ext.alloc w4 o).cell e1_1
      have te1_2 := fun o => (Ext.alloc w4 o).cell e1_2
      go_wp2_with fail
      clear te0_0 te0_1 te0_2 te0_3 te0_4 te0_5 te1_0 te1_1 te1_2
      obtain ⟨w5, hw⟩ : ∃ z : World, z = (w4.alloc (.cells #[.int .i64 gxa, .slice Axa Lxa cxa, .int .i64 hxa, .slice Bxa Mxa dxa, .int .i64 gxb, .slice Axb Lxb cxb, .int .i64 hxb, .slice Bxb Mxb dxb] 38)) := ⟨_, rfl⟩
      rw [← hw]
      have x5 : Ext w4 w5 := by rw [hw]; exact Ext.alloc _ _
      have bb := box_at w4 #[.int .i64 gxa, .slice Axa Lxa cxa, .int .i64 hxa, .slice Bxa Mxa dxa, .int .i64 gxb, .slice Axb Lxb cxb, .int .i64 hxb, .slice Bxb Mxb dxb] 38
      rw [← hw] at bb
      replace e0_0 := x5.cell e0_0
      replace e0_1 := x5.cell e0_1
      replace e0_2 := x5.cell e0_2
      replace e0_3 := x5.cell e0_3
      replace e0_4 := x5.cell e0_4
      replace e0_5 := x5.cell e0_5
      replace e1_0 := x5.cell e1_0
      replace e1_1 := x5.cell e1_1
      replace e1_2 := x5.cell e1_2
      have x_0 := bb.1 0 (.int .i64 gxa) rfl
      have x_1 := bb.1 1 (.slice Axa Lxa cxa) rfl
      have x_2 := bb.1 2 (.int .i64 hxa) rfl
      have x_3 := bb.1 3 (.slice Bxa Mxa dxa) rfl
      have x_4 := bb.1 4 (.int .i64 gxb) rfl
      have x_5 := bb.1 5 (.slice Axb Lxb cxb) rfl
      have x_6 := bb.1 6 (.int .i64 hxb) rfl
      have x_7 := bb.1 7 (.slice Bxb Mxb dxb) rfl
      clear hw bb
      have xa := HX.out.1
      have xb := HX.out.2
      go_wp2_with fail
      refine (HEV.out _ (by with_reducible repeat' first | exact Ext.refl _ | assumption | apply Ext.alloc_r | apply Ext.drew_r | apply Ext.drewN_r | refine Ext.trans ?_ ‹Ext _ _›)).mono ?_
      rintro e w6 ⟨sva, Ava, cva, Lva, Bva, dva, Mva, svb, Avb, cvb, Lvb, Bvb, dvb, Mvb, rfl, va, vb, x6⟩
      replace e0_0 := x6.cell e0_0
      replace e0_1 := x6.cell e0_1
      replace e0_2 := x6.cell e0_2
      replace e0_3 := x6.cell e0_3
      replace e0_4 := x6.cell e0_4
      replace e0_5 := x6.cell e0_5
      replace e1_0 := x6.cell e1_0
      replace e1_1 := x6.cell e1_1
      replace e1_2 := x6.cell e1_2
      replace x_0 := x6.cell x_0
      replace x_1 := x6.cell x_1
      replace x_2 := x6.cell x_2
      replace x_3 := x6.cell x_3
      replace x_4 := x6.cell x_4
      replace x_5 := x6.cell x_5
      replace x_6 := x6.cell x_6
      replace x_7 := x6.cell x_7
      have HV := Lib.hid (And.intro va vb)
      clear va vb
      have te0_0 := fun o => (Ext.alloc w6 o).cell e0_0
      have te0_1 := fun o => (Ext.alloc w6 o).cell e0_1
      have te0_2 := fun o => (Ext.alloc w6 o).cell e0_2
      have te0_3 := fun o => (Ext.alloc w6 o).cell e0_3
      have te0_4 := fun o => (Ext.alloc w6 o).cell e0_4
      have te0_5 := fun o => (Ext.alloc w6 o).cell e0_5
      have te1_0 := fun o => (Ext.alloc w6 o).cell e1_0
      have te1_1 := fun o => (Ext.alloc w6 o).cell e1_1
      have te1_2 := fun o => (Ext.alloc w6 o).cell e1_2
      have tx_0 := fun o => (Ext.alloc w6 o).cell x_0
      have tx_1 := fun o => (Ext.alloc w6 o).cell x_1
      have tx_2 := fun o => (Ext.alloc w6 o).cell x_2
      have tx_3 := fun o => (Ext.alloc w6 o).cell x_3
      have tx_4 := fun o => (Ext.alloc w6 o).cell x_4
      have tx_5 := fun o => (Ext.alloc w6 o).cell x_5
      have tx_6 := fun o => (Ext.alloc w6 o).cell x_6
      have tx_7 := fun o => (Ext.alloc w6 o).cell x_7
      go_wp2_with fail
      clear te0_0 te0_1 te0_2 te0_3 te0_4 te0_5 te1_0 te1_1 te1_2 tx_0 tx_1 tx_2 tx_3 tx_4 tx_5 tx_6 tx_7
      obtain ⟨w7, hw⟩ : ∃ z : World, z = (w6.alloc (.cells #[.bool sva, .slice Ava Lva cva, .slice Bva Mva dva, .bool svb, .slice Avb Lvb cvb, .slice Bvb Mvb dvb] 29)) := ⟨_, rfl⟩
      rw [← hw]
      have x7 : Ext w6 w7 := by rw [hw]; exact Ext.alloc _ _
      have bb := box_at w6 #[.bool sva, .slice Ava Lva cva, .slice Bva Mva dva, .bool svb, .slice Avb Lvb cvb, .slice Bvb Mvb dvb] 29
      rw [← hw] at bb
      replace e0_0 := x7.cell e0_0
      replace e0_1 := x7.cell e0_1
      replace e0_2 := x7.cell e0_2
      replace e0_3 := x7.cell e0_3
      replace e0_4 := x7.cell e0_4
      replace e0_5 := x7.cell e0_5
      replace e1_0 := x7.cell e1_0
      replace e1_1 := x7.cell e1_1
      replace e1_2 := x7.cell e1_2
      replace x_0 := x7.cell x_0
      replace x_1 := x7.cell x_1
      replace x_2 := x7.cell x_2
      replace x_3 := x7.cell x_3
      replace x_4 := x7.cell x_4
      replace x_5 := x7.cell x_5
      replace x_6 := x7.cell x_6
      replace x_7 := x7.cell x_7
      have v_0 := bb.1 0 (.bool sva) rfl
      have v_1 := bb.1 1 (.slice Ava Lva cva) rfl
      have v_2 := bb.1 2 (.slice Bva Mva dva) rfl
      have v_3 := bb.1 3 (.bool svb) rfl
      have v_4 := bb.1 4 (.slice Avb Lvb cvb) rfl
      have v_5 := bb.1 5 (.slice Bvb Mvb dvb) rfl
      clear hw bb
      have va := HV.out.1
      have vb := HV.out.2
      go_wp2_with fail
      have HK : Hid (∀ w', Ext w7 w' → Ext w7 w' ∧ w'.cell? ⟨w4.heap.size, 0, none⟩ = some (.int .i64 gxa) ∧ w'.cell? ⟨w4.heap.size, 1, none⟩ = some (.slice Axa Lxa cxa) ∧ w'.cell? ⟨w4.heap.size, 2, none⟩ = some (.int .i64 hxa) ∧ w'.cell? ⟨w4.heap.size, 3, none⟩ = some (.slice Bxa Mxa dxa) ∧ w'.cell? ⟨w4.heap.size, 4, none⟩ = some (.int .i64 gxb) ∧ w'.cell? ⟨w4.heap.size, 5, none⟩ = some (.slice Axb Lxb cxb) ∧ w'.cell? ⟨w4.heap.size, 6, none⟩ = some (.int .i64 hxb) ∧ w'.cell? ⟨w4.heap.size, 7, none⟩ = some (.slice Bxb Mxb dxb) ∧ w'.cell? ⟨w6.heap.size, 0, none⟩ = some (.bool sva) ∧ w'.cell? ⟨w6.heap.size, 1, none⟩ = some (.slice Ava Lva cva) ∧ w'.cell? ⟨w6.heap.size, 2, none⟩ = some (.slice Bva Mva dva) ∧ w'.cell? ⟨w6.heap.size, 3, none⟩ = some (.bool svb) ∧ w'.cell? ⟨w6.heap.size, 4, none⟩ = some (.slice Avb Lvb cvb) ∧ w'.cell? ⟨w6.heap.size, 5, none⟩ = some (.slice Bvb Mvb dvb)) := fun w' hk => ⟨hk, hk.cell x_0, hk.cell x_1, hk.cell x_2, hk.cell x_3, hk.cell x_4, hk.cell x_5, hk.cell x_6, hk.cell x_7, hk.cell v_0, hk.cell v_1, hk.cell v_2, hk.cell v_3, hk.cell v_4, hk.cell v_5⟩
      first
      | go_region_held3 (fun w' => Ext w7 w' ∧ w'.cell? ⟨w4.heap.size, 0, none⟩ = some (.int .i64 gxa) ∧ w'.cell? ⟨w4.heap.size, 1, none⟩ = some (.slice Axa Lxa cxa) ∧ w'.cell? ⟨w4.heap.size, 2, none⟩ = some (.int .i64 hxa) ∧ w'.cell? ⟨w4.heap.size, 3, none⟩ = some (.slice Bxa Mxa dxa) ∧ w'.cell? ⟨w4.heap.size, 4, none⟩ = some (.int .i64 gxb) ∧ w'.cell? ⟨w4.heap.size, 5, none⟩ = some (.slice Axb Lxb cxb) ∧ w'.cell? ⟨w4.heap.size, 6, none⟩ = some (.int .i64 hxb) ∧ w'.cell? ⟨w4.heap.size, 7, none⟩ = some (.slice Bxb Mxb dxb) ∧ w'.cell? ⟨w6.heap.size, 0, none⟩ = some (.bool sva) ∧ w'.cell? ⟨w6.heap.size, 1, none⟩ = some (.slice Ava Lva cva) ∧ w'.cell? ⟨w6.heap.size, 2, none⟩ = some (.slice Bva Mva dva) ∧ w'.cell? ⟨w6.heap.size, 3, none⟩ = some (.bool svb) ∧ w'.cell? ⟨w6.heap.size, 4, none⟩ = some (.slice Avb Lvb cvb) ∧ w'.cell? ⟨w6.heap.size, 5, none⟩ = some (.slice Bvb Mvb dvb))
          ((with_reducible refine HK.out _ ?_; (with_reducible repeat' first | exact Ext.refl _ | assumption | apply Ext.alloc_r | apply Ext.drew_r | apply Ext.drewN_r | refine Ext.trans ?_ ‹Ext _ _›)))
          (first
            | (go_at_call 14; have hgd := jea; clear hgd; refine (lis6 (va.ext (by with_reducible repeat' first | exact Ext.refl _ | assumption | apply Ext.alloc_r | apply Ext.drew_r | apply Ext.drewN_r | refine Ext.trans ?_ ‹Ext _ _›)) (vb.ext (by with_reducible repeat' first | exact Ext.refl _ | assumption | apply Ext.alloc_r | apply Ext.drew_r | apply Ext.drewN_r | refine Ext.trans ?_ ‹Ext _ _›)) (jea.ext (by with_reducible repeat' first | exact Ext.refl _ | assumption | apply Ext.alloc_r | apply Ext.drew_r | apply Ext.drewN_r | refine Ext.trans ?_ ‹Ext _ _›)) (jeb.ext (by with_reducible repeat' first | exact Ext.refl _ | assumption | apply Ext.alloc_r | apply Ext.drew_r | apply Ext.drewN_r | refine Ext.trans ?_ ‹Ext _ _›)) HEE.out.1 HEE.out.2 (by omega)).mono ?_; rintro e w9 ⟨rfl, x9⟩)
            | (go_at_call 20; refine (jeval_r (HCL.out _ (by with_reducible repeat' first | exact Ext.refl _ | assumption | apply Ext.alloc_r | apply Ext.drew_r | apply Ext.drewN_r | refine Ext.trans ?_ ‹Ext _ _›)) HN.out (xa.ext (by with_reducible repeat' first | exact Ext.refl _ | assumption | apply Ext.alloc_r | apply Ext.drew_r | apply Ext.drewN_r | refine Ext.trans ?_ ‹Ext _ _›)) (xb.ext (by with_reducible repeat' first | exact Ext.refl _ | assumption | apply Ext.alloc_r | apply Ext.drew_r | apply Ext.drewN_r | refine Ext.trans ?_ ‹Ext _ _›)) (by omega) (by omega) (by omega)).mono ?_; rintro e w8 ⟨gjea, Ajea, cjea, Ljea, hjea, Bjea, djea, Mjea, gjeb, Ajeb, cjeb, Ljeb, hjeb, Bjeb, djeb, Mjeb, rfl, jea, jeb, x8⟩))
      | fail
      clear HK
      have xh : Ext w7 w9 := (by with_reducible repeat' first | exact Ext.refl _ | assumption | apply Ext.alloc_r | apply Ext.drew_r | apply Ext.drewN_r | refine Ext.trans ?_ ‹Ext _ _›)
      replace e0_0 := xh.cell e0_0
      replace e0_1 := xh.cell e0_1
      replace e0_2 := xh.cell e0_2
      replace e0_3 := xh.cell e0_3
      replace e0_4 := xh.cell e0_4
      replace e0_5 := xh.cell e0_5
      replace e1_0 := xh.cell e1_0
      replace e1_1 := xh.cell e1_1
      replace e1_2 := xh.cell e1_2
      replace x_0 := xh.cell x_0
      replace x_1 := xh.cell x_1
      replace x_2 := xh.cell x_2
      replace x_3 := xh.cell x_3
      replace x_4 := xh.cell x_4
      replace x_5 := xh.cell x_5
      replace x_6 := xh.cell x_6
      replace x_7 := xh.cell x_7
      replace v_0 := xh.cell v_0
      replace v_1 := xh.cell v_1
      replace v_2 := xh.cell v_2
      replace v_3 := xh.cell v_3
      replace v_4 := xh.cell v_4
      replace v_5 := xh.cell v_5
      clear xh
      clear HEE HEV HX HV
      by_cases hb : minQ q1 q2 ≤ q3 ∧ q3 ≤ maxQ q1 q2
      · have HB : Hid (decide (minQ q1 q2 ≤ q3 ∧ q3 ≤ maxQ q1 q2) = true) := decide_eq_true hb
        have HB2 : Hid (decide (minQ E1 E2 ≤ hv q3 qs ∧ hv q3 qs ≤ maxQ E1 E2) = true) := decide_eq_true (HIN.out hb)
        clear hb HIN
        go_wp2_with fail
        have HK : Hid (∀ w', Ext w9 w' → Ext w9 w' ∧ w'.cell? ⟨w4.heap.size, 0, none⟩ = some (.int .i64 gxa) ∧ w'.cell? ⟨w4.heap.size, 1, none⟩ = some (.slice Axa Lxa cxa) ∧ w'.cell? ⟨w4.heap.size, 2, none⟩ = some (.int .i64 hxa) ∧ w'.cell? ⟨w4.heap.size, 3, none⟩ = some (.slice Bxa Mxa dxa) ∧ w'.cell? ⟨w4.heap.size, 4, none⟩ = some (.int .i64 gxb) ∧ w'.cell? ⟨w4.heap.size, 5, none⟩ = some (.slice Axb Lxb cxb) ∧ w'.cell? ⟨w4.heap.size, 6, none⟩ = some (.int .i64 hxb) ∧ w'.cell? ⟨w4.heap.size, 7, none⟩ = some (.slice Bxb Mxb dxb) ∧ w'.cell? ⟨w6.heap.size, 0, none⟩ = some (.bool sva) ∧ w'.cell? ⟨w6.heap.size, 1, none⟩ = some (.slice Ava Lva cva) ∧ w'.cell? ⟨w6.heap.size, 2, none⟩ = some (.slice Bva Mva dva) ∧ w'.cell? ⟨w6.heap.size, 3, none⟩ = some (.bool svb) ∧ w'.cell? ⟨w6.heap.size, 4, none⟩ = some (.slice Avb Lvb cvb) ∧ w'.cell? ⟨w6.heap.size, 5, none⟩ = some (.slice Bvb Mvb dvb) ∧ w'.cell? ⟨w.heap.size + 1, 0, none⟩ = some (.bool s3) ∧ w'.cell? ⟨w.heap.size + 1, 1, none⟩ = some (.slice A3 L3 c3) ∧ w'.cell? ⟨w.heap.size + 1, 2, none⟩ = some (.slice B3 M3 d3)) := fun w' hk => ⟨hk, hk.cell x_0, hk.cell x_1, hk.cell x_2, hk.cell x_3, hk.cell x_4, hk.cell x_5, hk.cell x_6, hk.cell x_7, hk.cell v_0, hk.cell v_1, hk.cell v_2, hk.cell v_3, hk.cell v_4, hk.cell v_5, hk.cell e1_0, hk.cell e1_1, hk.cell e1_2⟩
        first
        | go_region_held3 (fun w' => Ext w9 w' ∧ w'.cell? ⟨w4.heap.size, 0, none⟩ = some (.int .i64 gxa) ∧ w'.cell? ⟨w4.heap.size, 1, none⟩ = some (.slice Axa Lxa cxa) ∧ w'.cell? ⟨w4.heap.size, 2, none⟩ = some (.int .i64 hxa) ∧ w'.cell? ⟨w4.heap.size, 3, none⟩ = some (.slice Bxa Mxa dxa) ∧ w'.cell? ⟨w4.heap.size, 4, none⟩ = some (.int .i64 gxb) ∧ w'.cell? ⟨w4.heap.size, 5, none⟩ = some (.slice Axb Lxb cxb) ∧ w'.cell? ⟨w4.heap.size, 6, none⟩ = some (.int .i64 hxb) ∧ w'.cell? ⟨w4.heap.size, 7, none⟩ = some (.slice Bxb Mxb dxb) ∧ w'.cell? ⟨w6.heap.size, 0, none⟩ = some (.bool sva) ∧ w'.cell? ⟨w6.heap.size, 1, none⟩ = some (.slice Ava Lva cva) ∧ w'.cell? ⟨w6.heap.size, 2, none⟩ = some (.slice Bva Mva dva) ∧ w'.cell? ⟨w6.heap.size, 3, none⟩ = some (.bool svb) ∧ w'.cell? ⟨w6.heap.size, 4, none⟩ = some (.slice Avb Lvb cvb) ∧ w'.cell? ⟨w6.heap.size, 5, none⟩ = some (.slice Bvb Mvb dvb) ∧ w'.cell? ⟨w.heap.size + 1, 0, none⟩ = some (.bool s3) ∧ w'.cell? ⟨w.heap.size + 1, 1, none⟩ = some (.slice A3 L3 c3) ∧ w'.cell? ⟨w.heap.size + 1, 2, none⟩ = some (.slice B3 M3 d3))
            ((with_reducible refine HK.out _ ?_; (with_reducible repeat' first | exact Ext.refl _ | assumption | apply Ext.alloc_r | apply Ext.drew_r | apply Ext.drewN_r | refine Ext.trans ?_ ‹Ext _ _›)))
            (first
              | (go_at_call_of 21 (#[Value.agg #[Value.int IntKind.i64 gova, Value.slice Aova Lova cova, Value.int IntKind.i64 hova, Value.slice Bova Mova dova, Value.int IntKind.i64 govb, Value.slice Aovb Lovb covb, Value.int IntKind.i64 hovb, Value.slice Bovb Movb dovb], Value.agg #[Value.int IntKind.i64 gvl, Value.slice Avl Lvl cvl, Value.int IntKind.i64 hvl, Value.slice Bvl Mvl dvl]]); have hgd := vl; clear hgd; refine (jcontains_is ((ova.ext (by with_reducible repeat' first | exact Ext.refl _ | assumption | apply Ext.alloc_r | apply Ext.drew_r | apply Ext.drewN_r | refine Ext.trans ?_ ‹Ext _ _›)).wide (K' := 2000) (by omega)) ((ovb.ext (by with_reducible repeat' first | exact Ext.refl _ | assumption | apply Ext.alloc_r | apply Ext.drew_r | apply Ext.drewN_r | refine Ext.trans ?_ ‹Ext _ _›)).wide (K' := 2000) (by omega)) ((vl.ext (by with_reducible repeat' first | exact Ext.refl _ | assumption | apply Ext.alloc_r | apply Ext.drew_r | apply Ext.drewN_r | refine Ext.trans ?_ ‹Ext _ _›)).wide (K' := 2000) (by omega)) (by omega) HB2.out).mono ?_; rintro e w15 ⟨rfl, x15⟩)
              | (go_at_call 22; have hgd := qd; clear hgd; refine (jvalue_r (HCL.out _ (by with_reducible repeat' first | exact Ext.refl _ | assumption | apply Ext.alloc_r | apply Ext.drew_r | apply Ext.drewN_r | refine Ext.trans ?_ ‹Ext _ _›)) HN.out (qd.ext (by with_reducible repeat' first | exact Ext.refl _ | assumption | apply Ext.alloc_r | apply Ext.drew_r | apply Ext.drewN_r | refine Ext.trans ?_ ‹Ext _ _›)) (by omega) (by omega) (by omega)).mono ?_; rintro e w14 ⟨gvl, Avl, cvl, Lvl, hvl, Bvl, dvl, Mvl, rfl, vl, x14⟩)
              | (go_at_call_of 18 (#[Value.agg #[Value.bool s3, Value.slice A3 L3 c3, Value.slice B3 M3 d3]]); have hgd := ova; clear hgd; refine (HQ3.out _ (by with_reducible repeat' first | exact Ext.refl _ | assumption | apply Ext.alloc_r | apply Ext.drew_r | apply Ext.drewN_r | refine Ext.trans ?_ ‹Ext _ _›)).mono ?_; rintro e w13 ⟨gqd, Aqd, cqd, Lqd, hqd, Bqd, dqd, Mqd, rfl, qd, x13⟩)
              | (go_at_call 10; have hgd := qc; clear hgd; refine (lof_ro (va.ext (by with_reducible repeat' first | exact Ext.refl _ | assumption | apply Ext.alloc_r | apply Ext.drew_r | apply Ext.drewN_r | refine Ext.trans ?_ ‹Ext _ _›)) (vb.ext (by with_reducible repeat' first | exact Ext.refl _ | assumption | apply Ext.alloc_r | apply Ext.drew_r | apply Ext.drewN_r | refine Ext.trans ?_ ‹Ext _ _›)) (by omega) (by omega)).mono ?_; rintro e w12 ⟨gova, Aova, cova, Lova, hova, Bova, dova, Mova, govb, Aovb, covb, Lovb, hovb, Bovb, dovb, Movb, rfl, ova, ovb, x12⟩)
              | (go_at_call_of 21 (#[Value.agg #[Value.int IntKind.i64 gxa, Value.slice Axa Lxa cxa, Value.int IntKind.i64 hxa, Value.slice Bxa Mxa dxa, Value.int IntKind.i64 gxb, Value.slice Axb Lxb cxb, Value.int IntKind.i64 hxb, Value.slice Bxb Mxb dxb], Value.agg #[Value.int IntKind.i64 gqc, Value.slice Aqc Lqc cqc, Value.int IntKind.i64 hqc, Value.slice Bqc Mqc dqc]]); have hgd := qc; clear hgd; refine (jcontains_is (xa.ext (by with_reducible repeat' first | exact Ext.refl _ | assumption | apply Ext.alloc_r | apply Ext.drew_r | apply Ext.drewN_r | refine Ext.trans ?_ ‹Ext _ _›)) (xb.ext (by with_reducible repeat' first | exact Ext.refl _ | assumption | apply Ext.alloc_r | apply Ext.drew_r | apply Ext.drewN_r | refine Ext.trans ?_ ‹Ext _ _›)) (qc.ext (by with_reducible repeat' first | exact Ext.refl _ | assumption | apply Ext.alloc_r | apply Ext.drew_r | apply Ext.drewN_r | refine Ext.trans ?_ ‹Ext _ _›)) (by omega) HB.out).mono ?_; rintro e w11 ⟨rfl, x11⟩)
              | (go_at_call_of 18 (#[Value.agg #[Value.bool s3, Value.slice A3 L3 c3, Value.slice B3 M3 d3]]); refine (HQ3.out _ (by with_reducible repeat' first | exact Ext.refl _ | assumption | apply Ext.alloc_r | apply Ext.drew_r | apply Ext.drewN_r | refine Ext.trans ?_ ‹Ext _ _›)).mono ?_; rintro e w10 ⟨gqc, Aqc, cqc, Lqc, hqc, Bqc, dqc, Mqc, rfl, qc, x10⟩))
        | fail
        clear HK
        have xh : Ext w9 w15 := (by with_reducible repeat' first | exact Ext.refl _ | assumption | apply Ext.alloc_r | apply Ext.drew_r | apply Ext.drewN_r | refine Ext.trans ?_ ‹Ext _ _›)
        replace e0_0 := xh.cell e0_0
        replace e0_1 := xh.cell e0_1
        replace e0_2 := xh.cell e0_2
        replace e0_3 := xh.cell e0_3
        replace e0_4 := xh.cell e0_4
        replace e0_5 := xh.cell e0_5
        replace e1_0 := xh.cell e1_0
        replace e1_1 := xh.cell e1_1
        replace e1_2 := xh.cell e1_2
        replace x_0 := xh.cell x_0
        replace x_1 := xh.cell x_1
        replace x_2 := xh.cell x_2
        replace x_3 := xh.cell x_3
        replace x_4 := xh.cell x_4
        replace x_5 := xh.cell x_5
        replace x_6 := xh.cell x_6
        replace x_7 := xh.cell x_7
        replace v_0 := xh.cell v_0
        replace v_1 := xh.cell v_1
        replace v_2 := xh.cell v_2
        replace v_3 := xh.cell v_3
        replace v_4 := xh.cell v_4
        replace v_5 := xh.cell v_5
        clear xh
        go_wp2_with fail
        go_ret
        exact ⟨rfl, (by with_reducible repeat' first | exact Ext.refl _ | assumption | apply Ext.alloc_r | apply Ext.drew_r | apply Ext.drewN_r | refine Ext.trans ?_ ‹Ext _ _›)⟩
      · have HB : Hid (decide (minQ q1 q2 ≤ q3 ∧ q3 ≤ maxQ q1 q2) = false) := decide_eq_false hb
        clear hb HIN
        go_wp2_with fail
        go_cut [6] (fun s6 wx => s6 = Value.bool true ∧ Ext w9 wx)
        case first =>
          first
          | go_region_with (first
            | (go_at_call 21; have hgd := qc; clear hgd; refine (jcontains_is (xa.ext (by with_reducible repeat' first | exact Ext.refl _ | assumption | apply Ext.alloc_r | apply Ext.drew_r | apply Ext.drewN_r | refine Ext.trans ?_ ‹Ext _ _›)) (xb.ext (by with_reducible repeat' first | exact Ext.refl _ | assumption | apply Ext.alloc_r | apply Ext.drew_r | apply Ext.drewN_r | refine Ext.trans ?_ ‹Ext _ _›)) (qc.ext (by with_reducible repeat' first | exact Ext.refl _ | assumption | apply Ext.alloc_r | apply Ext.drew_r | apply Ext.drewN_r | refine Ext.trans ?_ ‹Ext _ _›)) (by omega) HB.out).mono ?_; rintro e wk2 ⟨rfl, xk2⟩)
            | (go_at_call 18; refine (HQ3.out _ (by with_reducible repeat' first | exact Ext.refl _ | assumption | apply Ext.alloc_r | apply Ext.drew_r | apply Ext.drewN_r | refine Ext.trans ?_ ‹Ext _ _›)).mono ?_; rintro e wk1 ⟨gqc, Aqc, cqc, Lqc, hqc, Bqc, dqc, Mqc, rfl, qc, xk1⟩; have zx_0 := (show Ext w9 wk1 from (by with_reducible repeat' first | exact Ext.refl _ | assumption | apply Ext.alloc_r | apply Ext.drew_r | apply Ext.drewN_r | refine Ext.trans ?_ ‹Ext _ _›)).cell x_0; have zx_1 := (show Ext w9 wk1 from (by with_reducible repeat' first | exact Ext.refl _ | assumption | apply Ext.alloc_r | apply Ext.drew_r | apply Ext.drewN_r | refine Ext.trans ?_ ‹Ext _ _›)).cell x_1; have zx_2 := (show Ext w9 wk1 from (by with_reducible repeat' first | exact Ext.refl _ | assumption | apply Ext.alloc_r | apply Ext.drew_r | apply Ext.drewN_r | refine Ext.trans ?_ ‹Ext _ _›)).cell x_2; have zx_3 := (show Ext w9 wk1 from (by with_reducible repeat' first | exact Ext.refl _ | assumption | apply Ext.alloc_r | apply Ext.drew_r | apply Ext.drewN_r | refine Ext.trans ?_ ‹Ext _ _›)).cell x_3; have zx_4 := (show Ext w9 wk1 from (by with_reducible repeat' first | exact Ext.refl _ | assumption | apply Ext.alloc_r | apply Ext.drew_r | apply Ext.drewN_r | refine Ext.trans ?_ ‹Ext _ _›)).cell x_4; have zx_5 := (show Ext w9 wk1 from (by with_reducible repeat' first | exact Ext.refl _ | assumption | apply Ext.alloc_r | apply Ext.drew_r | apply Ext.drewN_r | refine Ext.trans ?_ ‹Ext _ _›)).cell x_5; have zx_6 := (show Ext w9 wk1 from (by with_reducible repeat' first | exact Ext.refl _ | assumption | apply Ext.alloc_r | apply Ext.drew_r | apply Ext.drewN_r | refine Ext.trans ?_ ‹Ext _ _›)).cell x_6; have zx_7 := (show Ext w9 wk1 from (by with_reducible repeat' first | exact Ext.refl _ | assumption | apply Ext.alloc_r | apply Ext.drew_r | apply Ext.drewN_r | refine Ext.trans ?_ ‹Ext _ _›)).cell x_7; have ze1_0 := (show Ext w9 wk1 from (by with_reducible repeat' first | exact Ext.refl _ | assumption | apply Ext.alloc_r | apply Ext.drew_r | apply Ext.drewN_r | refine Ext.trans ?_ ‹Ext _ _›)).cell e1_0; have ze1_1 := (show Ext w9 wk1 from (by with_reducible repeat' first | exact Ext.refl _ | assumption | apply Ext.alloc_r | apply Ext.drew_r | apply Ext.drewN_r | refine Ext.trans ?_ ‹Ext _ _›)).cell e1_1; have ze1_2 := (show Ext w9 wk1 from (by with_reducible repeat' first | exact Ext.refl _ | assumption | apply Ext.alloc_r | apply Ext.drew_r | apply Ext.drewN_r | refine Ext.trans ?_ ‹Ext _ _›)).cell e1_2))
          | fail
          all_goals (go_wp2_with fail; go_meet)
          all_goals exact ⟨rfl, (by with_reducible repeat' first | exact Ext.refl _ | assumption | apply Ext.alloc_r | apply Ext.drew_r | apply Ext.drewN_r | refine Ext.trans ?_ ‹Ext _ _›)⟩
        case rest =>
          obtain ⟨rfl, xend⟩ := hcut
          go_wp2_with fail
          go_ret
          exact ⟨rfl, (by with_reducible repeat' first | exact Ext.refl _ | assumption | apply Ext.alloc_r | apply Ext.drew_r | apply Ext.drewN_r | refine Ext.trans ?_ ‹Ext _ _›)⟩
set_option maxHeartbeats 40000000 in
set_option maxRecDepth 100000 in
theorem intervalEvals_walk {w : World} {A0 : Option Addr} {c0 n : Nat} {qs : List Rat} (hl : n = qs.length ∧ RWL w A0 qs) {s1 : Bool} {A1 B1 : Option Addr} {c1 L1 d1 M1 : Nat} {x1 : Int} {y1 : Nat} {s2 : Bool} {A2 B2 : Option Addr} {c2 L2 d2 M2 : Nat} {x2 : Int} {y2 : Nat} {s3 : Bool} {A3 B3 : Option Addr} {c3 L3 d3 M3 : Nat} {x3 : Int} {y3 : Nat} (h1 : RW w s1 A1 c1 L1 B1 d1 M1 x1 y1) (h2 : RW w s2 A2 c2 L2 B2 d2 M2 x2 y2) (h3 : RW w s3 A3 c3 L3 B3 d3 M3 x3 y3) :
    Calls Tryz.prog 4 #[.slice A0 n c0, Value.agg #[Value.bool s1, Value.slice A1 L1 c1, Value.slice B1 M1 d1, Value.bool s2, Value.slice A2 L2 c2, Value.slice B2 M2 d2], Value.agg #[Value.bool s3, Value.slice A3 L3 c3, Value.slice B3 M3 d3]] w fun e w' => e = .returned (.bool true) ∧ Ext w w' := by
  by_cases h8 : 8 < n
  · exact intervalEvals_len h1 h2 h3 h8
  · by_cases hf : L1 ≤ 2 ∧ M1 ≤ 2 ∧ L2 ≤ 2 ∧ M2 ≤ 2 ∧ L1 ≤ 2 ∧ M1 ≤ 2 ∧ L2 ≤ 2 ∧ M2 ≤ 2
    · by_cases hg : (decide (L3 ≤ 2) && decide (M3 ≤ 2)) = true
      · exact intervalEvals_main h1 h2 h3 hl.2 hl.1 (by omega) hf hg
      · exact intervalEvals_small h1 h2 h3 (by omega) hf hg
    · exact intervalEvals_few h1 h2 h3 (by omega) hf
end Go.Proofs.YtehhkeenjlpikaaGreat
