/- The walk of IntervalSets. -/
import Derived.Test.YtehhkeenjlpikaaGreatSeLaw6
import Derived.Test.YtehhkeenjlpikaaGreatSeIvD
import Derived.Test.YtehhkeenjlpikaaGreatSeOpenV
import Derived.Test.YtehhkeenjlpikaaGreatSePutI
import Derived.Test.YtehhkeenjlpikaaGreatSeJvE
import Derived.Test.YtehhkeenjlpikaaGreatSeIntervalSetsY
namespace Go.Proofs.YtehhkeenjlpikaaGreat
open Go.RowKit
set_option maxHeartbeats 40000000 in
set_option maxRecDepth 100000 in
theorem intervalSets_walk {w : World} {s1 : Bool} {A1 B1 : Option Addr} {c1 L1 d1 M1 : Nat} {x1 : Int} {y1 : Nat} {s2 : Bool} {A2 B2 : Option Addr} {c2 L2 d2 M2 : Nat} {x2 : Int} {y2 : Nat} {s3 : Bool} {A3 B3 : Option Addr} {c3 L3 d3 M3 : Nat} {x3 : Int} {y3 : Nat} {s4 : Bool} {A4 B4 : Option Addr} {c4 L4 d4 M4 : Nat} {x4 : Int} {y4 : Nat} {s5 : Bool} {A5 B5 : Option Addr} {c5 L5 d5 M5 : Nat} {x5 : Int} {y5 : Nat} (h1 : RW w s1 A1 c1 L1 B1 d1 M1 x1 y1) (h2 : RW w s2 A2 c2 L2 B2 d2 M2 x2 y2) (h3 : RW w s3 A3 c3 L3 B3 d3 M3 x3 y3) (h4 : RW w s4 A4 c4 L4 B4 d4 M4 x4 y4) (h5 : RW w s5 A5 c5 L5 B5 d5 M5 x5 y5) :
    Calls Tryz.prog 6 #[Value.agg #[Value.bool s1, Value.slice A1 L1 c1, Value.slice B1 M1 d1, Value.bool s2, Value.slice A2 L2 c2, Value.slice B2 M2 d2], Value.agg #[Value.bool s3, Value.slice A3 L3 c3, Value.slice B3 M3 d3, Value.bool s4, Value.slice A4 L4 c4, Value.slice B4 M4 d4], Value.agg #[Value.bool s5, Value.slice A5 L5 c5, Value.slice B5 M5 d5]] w fun e w' => e = .returned (.bool true) ∧ Ext w w' := by
  have pa1 := h1.num.nv.cap
  have pb1 := h1.den.cap
  have qa1 := h1.num.nv.le
  have qb1 := h1.den.le
  have pa2 := h2.num.nv.cap
  have pb2 := h2.den.cap
  have qa2 := h2.num.nv.le
  have qb2 := h2.den.le
  have pa3 := h3.num.nv.cap
  have pb3 := h3.den.cap
  have qa3 := h3.num.nv.le
  have qb3 := h3.den.le
  have pa4 := h4.num.nv.cap
  have pb4 := h4.den.cap
  have qa4 := h4.num.nv.le
  have qb4 := h4.den.le
  have pa5 := h5.num.nv.cap
  have pb5 := h5.den.cap
  have qa5 := h5.num.nv.le
  have qb5 := h5.den.le
  by_cases hf : L1 ≤ 4 ∧ M1 ≤ 4 ∧ L2 ≤ 4 ∧ M2 ≤ 4 ∧ L3 ≤ 4 ∧ M3 ≤ 4 ∧ L4 ≤ 4 ∧ M4 ≤ 4
  · by_cases hg5 : (decide (L5 ≤ 4) && decide (M5 ≤ 4)) = true
    · exact intervalSets_any h1 h2 h3 h4 h5 hf hg5
    · have HN : Hid ((decide (L5 ≤ 4) && decide (M5 ≤ 4)) = false) := by show _ = _; simpa using hg5
      have HF := Lib.hid hf
      clear hf hg5
      go_enter Tryz.func6, Tryz.ntmps6
      go_wp2_with fail
      obtain ⟨w0, hw0⟩ : ∃ z : World, z = (((w.alloc (.cells #[.bool s1, .slice A1 L1 c1, .slice B1 M1 d1, .bool s2, .slice A2 L2 c2, .slice B2 M2 d2] 29)).alloc (.cells #[.bool s3, .slice A3 L3 c3, .slice B3 M3 d3, .bool s4, .slice A4 L4 c4, .slice B4 M4 d4] 29)).alloc (.cells #[.bool s5, .slice A5 L5 c5, .slice B5 M5 d5] 27)) := ⟨_, rfl⟩
      rw [← hw0]
      have b0 := box_at w #[.bool s1, .slice A1 L1 c1, .slice B1 M1 d1, .bool s2, .slice A2 L2 c2, .slice B2 M2 d2] 29
      have b1 := box_at (w.alloc (.cells #[.bool s1, .slice A1 L1 c1, .slice B1 M1 d1, .bool s2, .slice A2 L2 c2, .slice B2 M2 d2] 29)) #[.bool s3, .slice A3 L3 c3, .slice B3 M3 d3, .bool s4, .slice A4 L4 c4, .slice B4 M4 d4] 29
      have b2 := box_at ((w.alloc (.cells #[.bool s1, .slice A1 L1 c1, .slice B1 M1 d1, .bool s2, .slice A2 L2 c2, .slice B2 M2 d2] 29)).alloc (.cells #[.bool s3, .slice A3 L3 c3, .slice B3 M3 d3, .bool s4, .slice A4 L4 c4, .slice B4 M4 d4] 29)) #[.bool s5, .slice A5 L5 c5, .slice B5 M5 d5] 27
      have hsz : w0.heap.size = w.heap.size + 1 + 1 + 1 := by rw [hw0]; simp
      rw [← hw0] at b2
      have y2 : Ext ((w.alloc (.cells #[.bool s1, .slice A1 L1 c1, .slice B1 M1 d1, .bool s2, .slice A2 L2 c2, .slice B2 M2 d2] 29)).alloc (.cells #[.bool s3, .slice A3 L3 c3, .slice B3 M3 d3, .bool s4, .slice A4 L4 c4, .slice B4 M4 d4] 29)) w0 := by rw [hw0]; exact Ext.alloc _ _
      have y1 : Ext (w.alloc (.cells #[.bool s1, .slice A1 L1 c1, .slice B1 M1 d1, .bool s2, .slice A2 L2 c2, .slice B2 M2 d2] 29)) w0 := (Ext.alloc _ _).trans y2
      have y0 : Ext w w0 := (Ext.alloc _ _).trans y1
      have x0 : Ext w w0 := y0
      have e0_0 := y1.cell (b0.1 0 (.bool s1) rfl)
      have e0_1 := y1.cell (b0.1 1 (.slice A1 L1 c1) rfl)
      have e0_2 := y1.cell (b0.1 2 (.slice B1 M1 d1) rfl)
      have e0_3 := y1.cell (b0.1 3 (.bool s2) rfl)
      have e0_4 := y1.cell (b0.1 4 (.slice A2 L2 c2) rfl)
      have e0_5 := y1.cell (b0.1 5 (.slice B2 M2 d2) rfl)
      have e1_0 := y2.cell (b1.1 0 (.bool s3) rfl)
      have e1_1 := y2.cell (b1.1 1 (.slice A3 L3 c3) rfl)
      have e1_2 := y2.cell (b1.1 2 (.slice B3 M3 d3) rfl)
      have e1_3 := y2.cell (b1.1 3 (.bool s4) rfl)
      have e1_4 := y2.cell (b1.1 4 (.slice A4 L4 c4) rfl)
      have e1_5 := y2.cell (b1.1 5 (.slice B4 M4 d4) rfl)
      have e2_0 := b2.1 0 (.bool s5) rfl
      have e2_1 := b2.1 1 (.slice A5 L5 c5) rfl
      have e2_2 := b2.1 2 (.slice B5 M5 d5) rfl
      simp only [World.size_alloc] at e1_0 e1_1 e1_2 e1_3 e1_4 e1_5 e2_0 e2_1 e2_2
      clear hw0 b0 b1 b2 y0 y1 y2
      go_wp2_with fail
      refine (awake6 _).mono ?_
      rintro e w1 ⟨rfl, x1⟩
      replace e0_0 := x1.cell e0_0
      replace e0_1 := x1.cell e0_1
      replace e0_2 := x1.cell e0_2
      replace e0_3 := x1.cell e0_3
      replace e0_4 := x1.cell e0_4
      replace e0_5 := x1.cell e0_5
      replace e1_0 := x1.cell e1_0
      replace e1_1 := x1.cell e1_1
      replace e1_2 := x1.cell e1_2
      replace e1_3 := x1.cell e1_3
      replace e1_4 := x1.cell e1_4
      replace e1_5 := x1.cell e1_5
      replace e2_0 := x1.cell e2_0
      replace e2_1 := x1.cell e2_1
      replace e2_2 := x1.cell e2_2
      go_wp2_with fail
      refine (few6_yes (by omega) (by omega) (by omega) (by omega) (by omega) (by omega) (by omega) (by omega) HF.out).mono ?_
      rintro e w2 ⟨rfl, x2⟩
      replace e0_0 := x2.cell e0_0
      replace e0_1 := x2.cell e0_1
      replace e0_2 := x2.cell e0_2
      replace e0_3 := x2.cell e0_3
      replace e0_4 := x2.cell e0_4
      replace e0_5 := x2.cell e0_5
      replace e1_0 := x2.cell e1_0
      replace e1_1 := x2.cell e1_1
      replace e1_2 := x2.cell e1_2
      replace e1_3 := x2.cell e1_3
      replace e1_4 := x2.cell e1_4
      replace e1_5 := x2.cell e1_5
      replace e2_0 := x2.cell e2_0
      replace e2_1 := x2.cell e2_1
      replace e2_2 := x2.cell e2_2
      go_wp2_with fail
      refine (small_is (by omega) (by omega) HN.out).mono ?_
      rintro e w3 ⟨rfl, x3⟩
      replace e0_0 := x3.cell e0_0
      replace e0_1 := x3.cell e0_1
      replace e0_2 := x3.cell e0_2
      replace e0_3 := x3.cell e0_3
      replace e0_4 := x3.cell e0_4
      replace e0_5 := x3.cell e0_5
      replace e1_0 := x3.cell e1_0
      replace e1_1 := x3.cell e1_1
      replace e1_2 := x3.cell e1_2
      replace e1_3 := x3.cell e1_3
      replace e1_4 := x3.cell e1_4
      replace e1_5 := x3.cell e1_5
      replace e2_0 := x3.cell e2_0
      replace e2_1 := x3.cell e2_1
      replace e2_2 := x3.cell e2_2
      clear hsz
      go_wp2_with fail
      refine (awake6 _).mono ?_
      rintro e w4 ⟨rfl, x4⟩
      replace e0_0 := x4.cell e0_0
      replace e0_1 := x4.cell e0_1
      replace e0_2 := x4.cell e0_2
      replace e0_3 := x4.cell e0_3
      replace e0_4 := x4.cell e0_4
      replace e0_5 := x4.cell e0_5
      replace e1_0 := x4.cell e1_0
      replace e1_1 := x4.cell e1_1
      replace e1_2 := x4.cell e1_2
      replace e1_3 := x4.cell e1_3
      replace e1_4 := x4.cell e1_4
      replace e1_5 := x4.cell e1_5
      replace e2_0 := x4.cell e2_0
      replace e2_1 := x4.cell e2_1
      replace e2_2 := x4.cell e2_2
      go_wp2_with fail
      go_ret
      exact ⟨rfl, (by with_reducible repeat' first | exact Ext.refl _ | assumption | apply Ext.alloc_r | apply Ext.drew_r | apply Ext.drewN_r | refine Ext.trans ?_ ‹Ext _ _›)⟩
  · have HN := Lib.hid hf
    clear hf 
    go_enter Tryz.func6, Tryz.ntmps6
    go_wp2_with fail
    obtain ⟨w0, hw0⟩ : ∃ z : World, z = (((w.alloc (.cells #[.bool s1, .slice A1 L1 c1, .slice B1 M1 d1, .bool s2, .slice A2 L2 c2, .slice B2 M2 d2] 29)).alloc (.cells #[.bool s3, .slice A3 L3 c3, .slice B3 M3 d3, .bool s4, .slice A4 L4 c4, .slice B4 M4 d4] 29)).alloc (.cells #[.bool s5, .slice A5 L5 c5, .slice B5 M5 d5] 27)) := ⟨_, rfl⟩
    rw [← hw0]
    have b0 := box_at w #[.bool s1, .slice A1 L1 c1, .slice B1 M1 d1, .bool s2, .slice A2 L2 c2, .slice B2 M2 d2] 29
    have b1 := box_at (w.alloc (.cells #[.bool s1, .slice A1 L1 c1, .slice B1 M1 d1, .bool s2, .slice A2 L2 c2, .slice B2 M2 d2] 29)) #[.bool s3, .slice A3 L3 c3, .slice B3 M3 d3, .bool s4, .slice A4 L4 c4, .slice B4 M4 d4] 29
    have b2 := box_at ((w.alloc (.cells #[.bool s1, .slice A1 L1 c1, .slice B1 M1 d1, .bool s2, .slice A2 L2 c2, .slice B2 M2 d2] 29)).alloc (.cells #[.bool s3, .slice A3 L3 c3, .slice B3 M3 d3, .bool s4, .slice A4 L4 c4, .slice B4 M4 d4] 29)) #[.bool s5, .slice A5 L5 c5, .slice B5 M5 d5] 27
    have hsz : w0.heap.size = w.heap.size + 1 + 1 + 1 := by rw [hw0]; simp
    rw [← hw0] at b2
    have y2 : Ext ((w.alloc (.cells #[.bool s1, .slice A1 L1 c1, .slice B1 M1 d1, .bool s2, .slice A2 L2 c2, .slice B2 M2 d2] 29)).alloc (.cells #[.bool s3, .slice A3 L3 c3, .slice B3 M3 d3, .bool s4, .slice A4 L4 c4, .slice B4 M4 d4] 29)) w0 := by rw [hw0]; exact Ext.alloc _ _
    have y1 : Ext (w.alloc (.cells #[.bool s1, .slice A1 L1 c1, .slice B1 M1 d1, .bool s2, .slice A2 L2 c2, .slice B2 M2 d2] 29)) w0 := (Ext.alloc _ _).trans y2
    have y0 : Ext w w0 := (Ext.alloc _ _).trans y1
    have x0 : Ext w w0 := y0
    have e0_0 := y1.cell (b0.1 0 (.bool s1) rfl)
    have e0_1 := y1.cell (b0.1 1 (.slice A1 L1 c1) rfl)
    have e0_2 := y1.cell (b0.1 2 (.slice B1 M1 d1) rfl)
    have e0_3 := y1.cell (b0.1 3 (.bool s2) rfl)
    have e0_4 := y1.cell (b0.1 4 (.slice A2 L2 c2) rfl)
    have e0_5 := y1.cell (b0.1 5 (.slice B2 M2 d2) rfl)
    have e1_0 := y2.cell (b1.1 0 (.bool s3) rfl)
    have e1_1 := y2.cell (b1.1 1 (.slice A3 L3 c3) rfl)
    have e1_2 := y2.cell (b1.1 2 (.slice B3 M3 d3) rfl)
    have e1_3 := y2.cell (b1.1 3 (.bool s4) rfl)
    have e1_4 := y2.cell (b1.1 4 (.slice A4 L4 c4) rfl)
    have e1_5 := y2.cell (b1.1 5 (.slice B4 M4 d4) rfl)
    have e2_0 := b2.1 0 (.bool s5) rfl
    have e2_1 := b2.1 1 (.slice A5 L5 c5) rfl
    have e2_2 := b2.1 2 (.slice B5 M5 d5) rfl
    simp only [World.size_alloc] at e1_0 e1_1 e1_2 e1_3 e1_4 e1_5 e2_0 e2_1 e2_2
    clear hw0 b0 b1 b2 y0 y1 y2
    go_wp2_with fail
    refine (awake6 _).mono ?_
    rintro e w1 ⟨rfl, x1⟩
    replace e0_0 := x1.cell e0_0
    replace e0_1 := x1.cell e0_1
    replace e0_2 := x1.cell e0_2
    replace e0_3 := x1.cell e0_3
    replace e0_4 := x1.cell e0_4
    replace e0_5 := x1.cell e0_5
    replace e1_0 := x1.cell e1_0
    replace e1_1 := x1.cell e1_1
    replace e1_2 := x1.cell e1_2
    replace e1_3 := x1.cell e1_3
    replace e1_4 := x1.cell e1_4
    replace e1_5 := x1.cell e1_5
    replace e2_0 := x1.cell e2_0
    replace e2_1 := x1.cell e2_1
    replace e2_2 := x1.cell e2_2
    go_wp2_with fail
    refine (few6_no (by omega) (by omega) (by omega) (by omega) (by omega) (by omega) (by omega) (by omega) HN.out).mono ?_
    rintro e w2 ⟨rfl, x2⟩
    replace e0_0 := x2.cell e0_0
    replace e0_1 := x2.cell e0_1
    replace e0_2 := x2.cell e0_2
    replace e0_3 := x2.cell e0_3
    replace e0_4 := x2.cell e0_4
    replace e0_5 := x2.cell e0_5
    replace e1_0 := x2.cell e1_0
    replace e1_1 := x2.cell e1_1
    replace e1_2 := x2.cell e1_2
    replace e1_3 := x2.cell e1_3
    replace e1_4 := x2.cell e1_4
    replace e1_5 := x2.cell e1_5
    replace e2_0 := x2.cell e2_0
    replace e2_1 := x2.cell e2_1
    replace e2_2 := x2.cell e2_2
    clear hsz
    go_wp2_with fail
    refine (awake6 _).mono ?_
    rintro e w3 ⟨rfl, x3⟩
    replace e0_0 := x3.cell e0_0
    replace e0_1 := x3.cell e0_1
    replace e0_2 := x3.cell e0_2
    replace e0_3 := x3.cell e0_3
    replace e0_4 := x3.cell e0_4
    replace e0_5 := x3.cell e0_5
    replace e1_0 := x3.cell e1_0
    replace e1_1 := x3.cell e1_1
    replace e1_2 := x3.cell e1_2
    replace e1_3 := x3.cell e1_3
    replace e1_4 := x3.cell e1_4
    replace e1_5 := x3.cell e1_5
    replace e2_0 := x3.cell e2_0
    replace e2_1 := x3.cell e2_1
    replace e2_2 := x3.cell e2_2
    go_wp2_with fail
    go_ret
    exact ⟨rfl, (by with_reducible repeat' first | exact Ext.refl _ | assumption | apply Ext.alloc_r | apply Ext.drew_r | apply Ext.drewN_r | refine Ext.trans ?_ ‹Ext _ _›)⟩
end Go.Proofs.YtehhkeenjlpikaaGreat
