/- The walk of IntervalMonotonic. -/
import Derived.Test.YtehhkeenjlpikaaMoLaw6
import Derived.Test.YtehhkeenjlpikaaMoIvD
import Derived.Test.YtehhkeenjlpikaaMoIvE
import Derived.Test.YtehhkeenjlpikaaMoIvF
import Derived.Test.YtehhkeenjlpikaaOpenV
import Derived.Test.YtehhkeenjlpikaaMoPutI
namespace Go.Proofs.Ytehhkeenjlpikaa
open Go.RowKit
theorem cs3 {w : World} {g : Nat} {s1 s2 s3 : Bool} {A1 B1 A2 B2 A3 B3 : Option Addr} {c1 d1 L1 M1 c2 d2 L2 M2 c3 d3 L3 M3 : Nat} {q1 q2 q3 : Rat} (k0 : w.cell? ⟨g, 0, none⟩ = some (.bool s1)) (k1 : w.cell? ⟨g, 1, none⟩ = some (.slice A1 L1 c1)) (k2 : w.cell? ⟨g, 2, none⟩ = some (.slice B1 M1 d1)) (k3 : w.cell? ⟨g, 3, none⟩ = some (.bool s2)) (k4 : w.cell? ⟨g, 4, none⟩ = some (.slice A2 L2 c2)) (k5 : w.cell? ⟨g, 5, none⟩ = some (.slice B2 M2 d2)) (k6 : w.cell? ⟨g, 6, none⟩ = some (.bool s3)) (k7 : w.cell? ⟨g, 7, none⟩ = some (.slice A3 L3 c3)) (k8 : w.cell? ⟨g, 8, none⟩ = some (.slice B3 M3 d3)) (h1 : RV w s1 A1 c1 L1 B1 d1 M1 3 q1) (h2 : RV w s2 A2 c2 L2 B2 d2 M2 3 q2) (h3 : RV w s3 A3 c3 L3 B3 d3 M3 3 q3) : CS w (some ⟨g, 0, none⟩) 3 [q1, q2, q3] := fun j hj => by
  have hb := World.block_lt_of_cell? w _ k0
  match j, hj with
  | 0, _ => exact ⟨g, 0, _, _, _, _, _, _, _, rfl, hb, k0, k1, k2, h1⟩
  | 1, _ => exact ⟨g, 0, _, _, _, _, _, _, _, rfl, hb, k3, k4, k5, h2⟩
  | 2, _ => exact ⟨g, 0, _, _, _, _, _, _, _, rfl, hb, k6, k7, k8, h3⟩
theorem ieval3 {w : World} {A0 : Option Addr} {c0 : Nat} {p1 p2 p3 : Rat} {s1 s2 : Bool} {A1 B1 A2 B2 : Option Addr} {c1 d1 L1 M1 c2 d2 L2 M2 : Nat} {q1 q2 : Rat} (hc : CS w A0 3 [p1, p2, p3]) (h1 : RV w s1 A1 c1 L1 B1 d1 M1 3 q1) (h2 : RV w s2 A2 c2 L2 B2 d2 M2 3 q2) :
    Calls Try.prog 24 #[.slice A0 3 c0, Value.agg #[Value.bool s1, Value.slice A1 L1 c1, Value.slice B1 M1 d1, Value.bool s2, Value.slice A2 L2 c2, Value.slice B2 M2 d2]] w (RetI w 22 (ev q1 q2 [p1, p2, p3]).1 (ev q1 q2 [p1, p2, p3]).2) := ieval_r hc rfl h1 h2 (by omega) (by show 1 + 3 * (3 + 3 + 1) < 48; omega)
set_option maxHeartbeats 40000000 in
set_option maxRecDepth 100000 in
theorem intervalMonotonic_walk {w : World} {s1 : Bool} {A1 B1 : Option Addr} {c1 L1 d1 M1 : Nat} {x1 : Int} {y1 : Nat} {s2 : Bool} {A2 B2 : Option Addr} {c2 L2 d2 M2 : Nat} {x2 : Int} {y2 : Nat} {s3 : Bool} {A3 B3 : Option Addr} {c3 L3 d3 M3 : Nat} {x3 : Int} {y3 : Nat} {s4 : Bool} {A4 B4 : Option Addr} {c4 L4 d4 M4 : Nat} {x4 : Int} {y4 : Nat} {s5 : Bool} {A5 B5 : Option Addr} {c5 L5 d5 M5 : Nat} {x5 : Int} {y5 : Nat} {s6 : Bool} {A6 B6 : Option Addr} {c6 L6 d6 M6 : Nat} {x6 : Int} {y6 : Nat} (h1 : RW w s1 A1 c1 L1 B1 d1 M1 x1 y1) (h2 : RW w s2 A2 c2 L2 B2 d2 M2 x2 y2) (h3 : RW w s3 A3 c3 L3 B3 d3 M3 x3 y3) (h4 : RW w s4 A4 c4 L4 B4 d4 M4 x4 y4) (h5 : RW w s5 A5 c5 L5 B5 d5 M5 x5 y5) (h6 : RW w s6 A6 c6 L6 B6 d6 M6 x6 y6) :
    Calls Try.prog 5 #[Value.agg #[Value.bool s1, Value.slice A1 L1 c1, Value.slice B1 M1 d1, Value.bool s2, Value.slice A2 L2 c2, Value.slice B2 M2 d2], Value.agg #[Value.bool s3, Value.slice A3 L3 c3, Value.slice B3 M3 d3, Value.bool s4, Value.slice A4 L4 c4, Value.slice B4 M4 d4], Value.agg #[Value.bool s5, Value.slice A5 L5 c5, Value.slice B5 M5 d5, Value.bool s6, Value.slice A6 L6 c6, Value.slice B6 M6 d6]] w fun e w' => e = .returned (.bool true) ∧ Ext w w' := by
  have pa1 := h1.num.nv.cap
  have pb1 := h1.den.cap
  have qa1 := h1.num.nv.le
  have qb1 := h1.den.le
  have pa2 := h2.num.nv.cap
  have pb2 := h2.den.cap
  have qa2 := h2.num.nv.le
  have qb2 := h2.den.le
  have pa3 := h3.num.nv.cap
  have pb3 := h3.den.cap
  have qa3 := h3.num.nv.le
  have qb3 := h3.den.le
  have pa4 := h4.num.nv.cap
  have pb4 := h4.den.cap
  have qa4 := h4.num.nv.le
  have qb4 := h4.den.le
  have pa5 := h5.num.nv.cap
  have pb5 := h5.den.cap
  have qa5 := h5.num.nv.le
  have qb5 := h5.den.le
  have pa6 := h6.num.nv.cap
  have pb6 := h6.den.cap
  have qa6 := h6.num.nv.le
  have qb6 := h6.den.le
  by_cases hf : L1 ≤ 3 ∧ M1 ≤ 3 ∧ L2 ≤ 3 ∧ M2 ≤ 3 ∧ L3 ≤ 3 ∧ M3 ≤ 3 ∧ L4 ≤ 3 ∧ M4 ≤ 3
  · by_cases hg : L5 ≤ 3 ∧ M5 ≤ 3 ∧ L6 ≤ 3 ∧ M6 ≤ 3 ∧ L5 ≤ 3 ∧ M5 ≤ 3 ∧ L6 ≤ 3 ∧ M6 ≤ 3
    · have HF := Lib.hid hf
      have HG := Lib.hid hg
      have e1 := h1.rv (N := 3) (by omega) (by omega) (by omega)
      have e2 := h2.rv (N := 3) (by omega) (by omega) (by omega)
      have e3 := h3.rv (N := 3) (by omega) (by omega) (by omega)
      have e4 := h4.rv (N := 3) (by omega) (by omega) (by omega)
      have e5 := h5.rv (N := 3) (by omega) (by omega) (by omega)
      have e6 := h6.rv (N := 3) (by omega) (by omega) (by omega)
      generalize mkRat x1 y1 = q1 at *
      generalize mkRat x2 y2 = q2 at *
      generalize mkRat x3 y3 = q3 at *
      generalize mkRat x4 y4 = q4 at *
      generalize mkRat x5 y5 = q5 at *
      generalize mkRat x6 y6 = q6 at *
      clear hf hg h1 h2 h3 h4 h5 h6
      go_enter Try.func5, Try.ntmps5
      go_wp2_with fail
      obtain ⟨w0, hw0⟩ : ∃ z : World, z = (((w.alloc (.cells #[.bool s1, .slice A1 L1 c1, .slice B1 M1 d1, .bool s2, .slice A2 L2 c2, .slice B2 M2 d2] 29)).alloc (.cells #[.bool s3, .slice A3 L3 c3, .slice B3 M3 d3, .bool s4, .slice A4 L4 c4, .slice B4 M4 d4] 29)).alloc (.cells #[.bool s5, .slice A5 L5 c5, .slice B5 M5 d5, .bool s6, .slice A6 L6 c6, .slice B6 M6 d6] 29)) := ⟨_, rfl⟩
      rw [← hw0]
      have b0 := box_at w #[.bool s1, .slice A1 L1 c1, .slice B1 M1 d1, .bool s2, .slice A2 L2 c2, .slice B2 M2 d2] 29
      have b1 := box_at (w.alloc (.cells #[.bool s1, .slice A1 L1 c1, .slice B1 M1 d1, .bool s2, .slice A2 L2 c2, .slice B2 M2 d2] 29)) #[.bool s3, .slice A3 L3 c3, .slice B3 M3 d3, .bool s4, .slice A4 L4 c4, .slice B4 M4 d4] 29
      have b2 := box_at ((w.alloc (.cells #[.bool s1, .slice A1 L1 c1, .slice B1 M1 d1, .bool s2, .slice A2 L2 c2, .slice B2 M2 d2] 29)).alloc (.cells #[.bool s3, .slice A3 L3 c3, .slice B3 M3 d3, .bool s4, .slice A4 L4 c4, .slice B4 M4 d4] 29)) #[.bool s5, .slice A5 L5 c5, .slice B5 M5 d5, .bool s6, .slice A6 L6 c6, .slice B6 M6 d6] 29
      have hsz : w0.heap.size = w.heap.size + 1 + 1 + 1 := by rw [hw0]; simp
      rw [← hw0] at b2
      have y2 : Ext ((w.alloc (.cells #[.bool s1, .slice A1 L1 c1, .slice B1 M1 d1, .bool s2, .slice A2 L2 c2, .slice B2 M2 d2] 29)).alloc (.cells #[.bool s3, .slice A3 L3 c3, .slice B3 M3 d3, .bool s4, .slice A4 L4 c4, .slice B4 M4 d4] 29)) w0 := by rw [hw0]; exact Ext.alloc _ _
      have y1 : Ext (w.alloc (.cells #[.bool s1, .slice A1 L1 c1, .slice B1 M1 d1, .bool s2, .slice A2 L2 c2, .slice B2 M2 d2] 29)) w0 := (Ext.alloc _ _).trans y2
      have y0 : Ext w w0 := (Ext.alloc _ _).trans y1
      have x0 : Ext w w0 := y0
      have e0_0 := y1.cell (b0.1 0 (.bool s1) rfl)
      have e0_1 := y1.cell (b0.1 1 (.slice A1 L1 c1) rfl)
      have e0_2 := y1.cell (b0.1 2 (.slice B1 M1 d1) rfl)
      have e0_3 := y1.cell (b0.1 3 (.bool s2) rfl)
      have e0_4 := y1.cell (b0.1 4 (.slice A2 L2 c2) rfl)
      have e0_5 := y1.cell (b0.1 5 (.slice B2 M2 d2) rfl)
      have e1_0 := y2.cell (b1.1 0 (.bool s3) rfl)
      have e1_1 := y2.cell (b1.1 1 (.slice A3 L3 c3) rfl)
      have e1_2 := y2.cell (b1.1 2 (.slice B3 M3 d3) rfl)
      have e1_3 := y2.cell (b1.1 3 (.bool s4) rfl)
      have e1_4 := y2.cell (b1.1 4 (.slice A4 L4 c4) rfl)
      have e1_5 := y2.cell (b1.1 5 (.slice B4 M4 d4) rfl)
      have e2_0 := b2.1 0 (.bool s5) rfl
      have e2_1 := b2.1 1 (.slice A5 L5 c5) rfl
      have e2_2 := b2.1 2 (.slice B5 M5 d5) rfl
      have e2_3 := b2.1 3 (.bool s6) rfl
      have e2_4 := b2.1 4 (.slice A6 L6 c6) rfl
      have e2_5 := b2.1 5 (.slice B6 M6 d6) rfl
      simp only [World.size_alloc] at e1_0 e1_1 e1_2 e1_3 e1_4 e1_5 e2_0 e2_1 e2_2 e2_3 e2_4 e2_5
      clear hw0 b0 b1 b2 y0 y1 y2
      go_wp2_with fail
      refine (awake6 _).mono ?_
      rintro e w1 ⟨rfl, x1⟩
      replace e0_0 := x1.cell e0_0
      replace e0_1 := x1.cell e0_1
      replace e0_2 := x1.cell e0_2
      replace e0_3 := x1.cell e0_3
      replace e0_4 := x1.cell e0_4
      replace e0_5 := x1.cell e0_5
      replace e1_0 := x1.cell e1_0
      replace e1_1 := x1.cell e1_1
      replace e1_2 := x1.cell e1_2
      replace e1_3 := x1.cell e1_3
      replace e1_4 := x1.cell e1_4
      replace e1_5 := x1.cell e1_5
      replace e2_0 := x1.cell e2_0
      replace e2_1 := x1.cell e2_1
      replace e2_2 := x1.cell e2_2
      replace e2_3 := x1.cell e2_3
      replace e2_4 := x1.cell e2_4
      replace e2_5 := x1.cell e2_5
      go_wp2_with fail
      refine (few6_yes (by omega) (by omega) (by omega) (by omega) (by omega) (by omega) (by omega) (by omega) HF.out).mono ?_
      rintro e w2 ⟨rfl, x2⟩
      replace e0_0 := x2.cell e0_0
      replace e0_1 := x2.cell e0_1
      replace e0_2 := x2.cell e0_2
      replace e0_3 := x2.cell e0_3
      replace e0_4 := x2.cell e0_4
      replace e0_5 := x2.cell e0_5
      replace e1_0 := x2.cell e1_0
      replace e1_1 := x2.cell e1_1
      replace e1_2 := x2.cell e1_2
      replace e1_3 := x2.cell e1_3
      replace e1_4 := x2.cell e1_4
      replace e1_5 := x2.cell e1_5
      replace e2_0 := x2.cell e2_0
      replace e2_1 := x2.cell e2_1
      replace e2_2 := x2.cell e2_2
      replace e2_3 := x2.cell e2_3
      replace e2_4 := x2.cell e2_4
      replace e2_5 := x2.cell e2_5
      go_wp2_with fail
      refine (few6_yes (by omega) (by omega) (by omega) (by omega) (by omega) (by omega) (by omega) (by omega) HG.out).mono ?_
      rintro e w3 ⟨rfl, x3⟩
      replace e0_0 := x3.cell e0_0
      replace e0_1 := x3.cell e0_1
      replace e0_2 := x3.cell e0_2
      replace e0_3 := x3.cell e0_3
      replace e0_4 := x3.cell e0_4
      replace e0_5 := x3.cell e0_5
      replace e1_0 := x3.cell e1_0
      replace e1_1 := x3.cell e1_1
      replace e1_2 := x3.cell e1_2
      replace e1_3 := x3.cell e1_3
      replace e1_4 := x3.cell e1_4
      replace e1_5 := x3.cell e1_5
      replace e2_0 := x3.cell e2_0
      replace e2_1 := x3.cell e2_1
      replace e2_2 := x3.cell e2_2
      replace e2_3 := x3.cell e2_3
      replace e2_4 := x3.cell e2_4
      replace e2_5 := x3.cell e2_5
      clear hsz HF HG
      have HG0 : subI q1 q2 (minQ (minQ q1 q2) (minQ q5 q6)) (maxQ (maxQ q1 q2) (maxQ q5 q6)) := hull_l q1 q2 q5 q6
      go_wp2_with fail
      refine (ihull_r (e1.ext (by repeat' (first | with_reducible exact Ext.refl _ | with_reducible assumption | with_reducible apply Ext.alloc_r | with_reducible apply Ext.drew_r | with_reducible apply Ext.drewN_r | with_reducible refine Ext.trans ?_ ‹Ext _ _›))) (e2.ext (by repeat' (first | with_reducible exact Ext.refl _ | with_reducible assumption | with_reducible apply Ext.alloc_r | with_reducible apply Ext.drew_r | with_reducible apply Ext.drewN_r | with_reducible refine Ext.trans ?_ ‹Ext _ _›))) (e5.ext (by repeat' (first | with_reducible exact Ext.refl _ | with_reducible assumption | with_reducible apply Ext.alloc_r | with_reducible apply Ext.drew_r | with_reducible apply Ext.drewN_r | with_reducible refine Ext.trans ?_ ‹Ext _ _›))) (e6.ext (by repeat' (first | with_reducible exact Ext.refl _ | with_reducible assumption | with_reducible apply Ext.alloc_r | with_reducible apply Ext.drew_r | with_reducible apply Ext.drewN_r | with_reducible refine Ext.trans ?_ ‹Ext _ _›))) (by omega)).mono ?_
      rintro e w4 ⟨sbga, Abga, cbga, Lbga, Bbga, dbga, Mbga, sbgb, Abgb, cbgb, Lbgb, Bbgb, dbgb, Mbgb, rfl, bga, bgb, x4⟩
      replace e0_0 := x4.cell e0_0
      replace e0_1 := x4.cell e0_1
      replace e0_2 := x4.cell e0_2
      replace e0_3 := x4.cell e0_3
      replace e0_4 := x4.cell e0_4
      replace e0_5 := x4.cell e0_5
      replace e1_0 := x4.cell e1_0
      replace e1_1 := x4.cell e1_1
      replace e1_2 := x4.cell e1_2
      replace e1_3 := x4.cell e1_3
      replace e1_4 := x4.cell e1_4
      replace e1_5 := x4.cell e1_5
      replace e2_0 := x4.cell e2_0
      replace e2_1 := x4.cell e2_1
      replace e2_2 := x4.cell e2_2
      replace e2_3 := x4.cell e2_3
      replace e2_4 := x4.cell e2_4
      replace e2_5 := x4.cell e2_5
      generalize minQ (minQ q1 q2) (minQ q5 q6) = G1 at *
      generalize maxQ (maxQ q1 q2) (maxQ q5 q6) = G2 at *
      have HBG := Lib.hid (And.intro bga bgb)
      clear bga bgb
      have te0_0 := fun o => (Ext.alloc w4 o).cell e0_0
      have ue0_0 := fun o p => (Ext.alloc (w4.alloc o) p).cell ((Ext.alloc w4 o).cell e0_0)
      have te0_1 := fun o => (Ext.alloc w4 o).cell e0_1
      have ue0_1 := fun o p => (Ext.alloc (w4.alloc o) p).cell ((Ext.alloc w4 o).cell e0_1)
      have te0_2 := fun o => (Ext.alloc w4 o).cell e0_2
      have ue0_2 := fun o p => (Ext.alloc (w4.alloc o) p).cell ((Ext.alloc w4 o).cell e0_2)
      have te0_3 := fun o => (Ext.alloc w4 o).cell e0_3
      have ue0_3 := fun o p => (Ext.alloc (w4.alloc o) p).cell ((Ext.alloc w4 o).cell e0_3)
      have te0_4 := fun o => (Ext.alloc w4 o).cell e0_4
      have ue0_4 := fun o p => (Ext.alloc (w4.alloc o) p).cell ((Ext.alloc w4 o).cell e0_4)
      have te0_5 := fun o => (Ext.alloc w4 o).cell e0_5
      have ue0_5 := fun o p => (Ext.alloc (w4.alloc o) p).cell ((Ext.alloc w4 o).cell e0_5)
      have te1_0 := fun o => (Ext.alloc w4 o).cell e1_0
      have ue1_0 := fun o p => (Ext.alloc (w4.alloc o) p).cell ((Ext.alloc w4 o).cell e1_0)
      have te1_1 := fun o => (Ext.alloc w4 o).cell e1_1
      have ue1_1 := fun o p => (Ext.alloc (w4.alloc o) p).cell ((Ext.alloc w4 o).cell e1_1)
      have te1_2 := fun o => (Ext.alloc w4 o).cell e1_2
      have ue1_2 := fun o p => (Ext.alloc (w4.alloc o) p).cell ((Ext.alloc w4 o).cell e1_2)
      have te1_3 := fun o => (Ext.alloc w4 o).cell e1_3
      have ue1_3 := fun o p => (Ext.alloc (w4.alloc o) p).cell ((Ext.alloc w4 o).cell e1_3)
      have te1_4 := fun o => (Ext.alloc w4 o).cell e1_4
      have ue1_4 := fun o p => (Ext.alloc (w4.alloc o) p).cell ((Ext.alloc w4 o).cell e1_4)
      have te1_5 := fun o => (Ext.alloc w4 o).cell e1_5
      have ue1_5 := fun o p => (Ext.alloc (w4.alloc o) p).cell ((Ext.alloc w4 o).cell e1_5)
      have te2_0 := fun o => (Ext.alloc w4 o).cell e2_0
      have ue2_0 := fun o p => (Ext.alloc (w4.alloc o) p).cell ((Ext.alloc w4 o).cell e2_0)
      have te2_1 := fun o => (Ext.alloc w4 o).cell e2_1
      have ue2_1 := fun o p => (Ext.alloc (w4.alloc o) p).cell ((Ext.alloc w4 o).cell e2_1)
      have te2_2 := fun o => (Ext.alloc w4 o).cell e2_2
      have ue2_2 := fun o p => (Ext.alloc (w4.alloc o) p).cell ((Ext.alloc w4 o).cell e2_2)
      have te2_3 := fun o => (Ext.alloc w4 o).cell e2_3
      have ue2_3 := fun o p => (Ext.alloc (w4.alloc o) p).cell ((Ext.alloc w4 o).cell e2_3)
      have te2_4 := fun o => (Ext.alloc w4 o).cell e2_4
      have ue2_4 := fun o p => (Ext.alloc (w4.alloc o) p).cell ((Ext.alloc w4 o).cell e2_4)
      have te2_5 := fun o => (Ext.alloc w4 o).cell e2_5
      have ue2_5 := fun o p => (Ext.alloc (w4.alloc o) p).cell ((Ext.alloc w4 o).cell e2_5)
      go_wp2_with fail
      clear te0_0 ue0_0 te0_1 ue0_1 te0_2 ue0_2 te0_3 ue0_3 te0_4 ue0_4 te0_5 ue0_5 te1_0 ue1_0 te1_1 ue1_1 te1_2 ue1_2 te1_3 ue1_3 te1_4 ue1_4 te1_5 ue1_5 te2_0 ue2_0 te2_1 ue2_1 te2_2 ue2_2 te2_3 ue2_3 te2_4 ue2_4 te2_5 ue2_5
      obtain ⟨w5, hw0⟩ : ∃ z : World, z = ((w4.alloc (.cells #[.bool sbga, .slice Abga Lbga cbga, .slice Bbga Mbga dbga, .bool sbgb, .slice Abgb Lbgb cbgb, .slice Bbgb Mbgb dbgb] 29)).alloc (.cells #[.bool s3, .slice A3 L3 c3, .slice B3 M3 d3, .bool s4, .slice A4 L4 c4, .slice B4 M4 d4, .bool s5, .slice A5 L5 c5, .slice B5 M5 d5] 27)) := ⟨_, rfl⟩
      rw [← hw0]
      have b0 := box_at w4 #[.bool sbga, .slice Abga Lbga cbga, .slice Bbga Mbga dbga, .bool sbgb, .slice Abgb Lbgb cbgb, .slice Bbgb Mbgb dbgb] 29
      have b1 := box_at (w4.alloc (.cells #[.bool sbga, .slice Abga Lbga cbga, .slice Bbga Mbga dbga, .bool sbgb, .slice Abgb Lbgb cbgb, .slice Bbgb Mbgb dbgb] 29)) #[.bool s3, .slice A3 L3 c3, .slice B3 M3 d3, .bool s4, .slice A4 L4 c4, .slice B4 M4 d4, .bool s5, .slice A5 L5 c5, .slice B5 M5 d5] 27
      have hsz : w5.heap.size = w4.heap.size + 1 + 1 := by rw [hw0]; simp
      rw [← hw0] at b1
      have y1 : Ext (w4.alloc (.cells #[.bool sbga, .slice Abga Lbga cbga, .slice Bbga Mbga dbga, .bool sbgb, .slice Abgb Lbgb cbgb, .slice Bbgb Mbgb dbgb] 29)) w5 := by rw [hw0]; exact Ext.alloc _ _
      have y0 : Ext w4 w5 := (Ext.alloc _ _).trans y1
      have x5 : Ext w4 w5 := y0
      have nbe0_0 := y1.cell (b0.1 0 (.bool sbga) rfl)
      have nbe0_1 := y1.cell (b0.1 1 (.slice Abga Lbga cbga) rfl)
      have nbe0_2 := y1.cell (b0.1 2 (.slice Bbga Mbga dbga) rfl)
      have nbe0_3 := y1.cell (b0.1 3 (.bool sbgb) rfl)
      have nbe0_4 := y1.cell (b0.1 4 (.slice Abgb Lbgb cbgb) rfl)
      have nbe0_5 := y1.cell (b0.1 5 (.slice Bbgb Mbgb dbgb) rfl)
      have nbe1_0 := b1.1 0 (.bool s3) rfl
      have nbe1_1 := b1.1 1 (.slice A3 L3 c3) rfl
      have nbe1_2 := b1.1 2 (.slice B3 M3 d3) rfl
      have nbe1_3 := b1.1 3 (.bool s4) rfl
      have nbe1_4 := b1.1 4 (.slice A4 L4 c4) rfl
      have nbe1_5 := b1.1 5 (.slice B4 M4 d4) rfl
      have nbe1_6 := b1.1 6 (.bool s5) rfl
      have nbe1_7 := b1.1 7 (.slice A5 L5 c5) rfl
      have nbe1_8 := b1.1 8 (.slice B5 M5 d5) rfl
      simp only [World.size_alloc] at nbe1_0 nbe1_1 nbe1_2 nbe1_3 nbe1_4 nbe1_5 nbe1_6 nbe1_7 nbe1_8
      clear hw0 b0 b1 y0 y1
      clear hsz
      replace e0_0 := x5.cell e0_0
      replace e0_1 := x5.cell e0_1
      replace e0_2 := x5.cell e0_2
      replace e0_3 := x5.cell e0_3
      replace e0_4 := x5.cell e0_4
      replace e0_5 := x5.cell e0_5
      replace e1_0 := x5.cell e1_0
      replace e1_1 := x5.cell e1_1
      replace e1_2 := x5.cell e1_2
      replace e1_3 := x5.cell e1_3
      replace e1_4 := x5.cell e1_4
      replace e1_5 := x5.cell e1_5
      replace e2_0 := x5.cell e2_0
      replace e2_1 := x5.cell e2_1
      replace e2_2 := x5.cell e2_2
      replace e2_3 := x5.cell e2_3
      replace e2_4 := x5.cell e2_4
      replace e2_5 := x5.cell e2_5
      have bg_0 := nbe0_0
      clear nbe0_0
      have bg_1 := nbe0_1
      clear nbe0_1
      have bg_2 := nbe0_2
      clear nbe0_2
      have bg_3 := nbe0_3
      clear nbe0_3
      have bg_4 := nbe0_4
      clear nbe0_4
      have bg_5 := nbe0_5
      clear nbe0_5
      have co_0 := nbe1_0
      clear nbe1_0
      have co_1 := nbe1_1
      clear nbe1_1
      have co_2 := nbe1_2
      clear nbe1_2
      have co_3 := nbe1_3
      clear nbe1_3
      have co_4 := nbe1_4
      clear nbe1_4
      have co_5 := nbe1_5
      clear nbe1_5
      have co_6 := nbe1_6
      clear nbe1_6
      have co_7 := nbe1_7
      clear nbe1_7
      have co_8 := nbe1_8
      clear nbe1_8
      have bga := HBG.out.1
      have bgb := HBG.out.2
      have E0 : Hid (subI q1 q2 G1 G2) := HG0
      have E1 : Hid (subI (minQ q1 q2 + minQ q3 q4) (maxQ q1 q2 + maxQ q3 q4) (minQ G1 G2 + minQ q3 q4) (maxQ G1 G2 + maxQ q3 q4)) := add_mono HG0 (subI_refl _ _)
      have E2 : Hid (subI (mlo q1 q2 q3 q4) (mhi q1 q2 q3 q4) (mlo G1 G2 q3 q4) (mhi G1 G2 q3 q4)) := mul_mono HG0 (subI_refl _ _)
      have E3 : Hid (subI (ev q1 q2 [q3, q4, q5]).1 (ev q1 q2 [q3, q4, q5]).2 (ev G1 G2 [q3, q4, q5]).1 (ev G1 G2 [q3, q4, q5]).2) := ev_mono HG0 _
      have E4 : Hid (subI (plo q1 q2 3) (phi q1 q2 3) (plo G1 G2 3) (phi G1 G2 3)) := pow3_sub HG0
      clear HG0
      have hcs : CS w5 (some ⟨w4.heap.size + 1, 0, none⟩) 3 [q3, q4, q5] := cs3 co_0 co_1 co_2 co_3 co_4 co_5 co_6 co_7 co_8 (e3.ext (by repeat' (first | with_reducible exact Ext.refl _ | with_reducible assumption | with_reducible apply Ext.alloc_r | with_reducible apply Ext.drew_r | with_reducible apply Ext.drewN_r | with_reducible refine Ext.trans ?_ ‹Ext _ _›))) (e4.ext (by repeat' (first | with_reducible exact Ext.refl _ | with_reducible assumption | with_reducible apply Ext.alloc_r | with_reducible apply Ext.drew_r | with_reducible apply Ext.drewN_r | with_reducible refine Ext.trans ?_ ‹Ext _ _›))) (e5.ext (by repeat' (first | with_reducible exact Ext.refl _ | with_reducible assumption | with_reducible apply Ext.alloc_r | with_reducible apply Ext.drew_r | with_reducible apply Ext.drewN_r | with_reducible refine Ext.trans ?_ ‹Ext _ _›)))
      refine (ipow_r (k := 3) (e1.ext (by repeat' (first | with_reducible exact Ext.refl _ | with_reducible assumption | with_reducible apply Ext.alloc_r | with_reducible apply Ext.drew_r | with_reducible apply Ext.drewN_r | with_reducible refine Ext.trans ?_ ‹Ext _ _›))) (e2.ext (by repeat' (first | with_reducible exact Ext.refl _ | with_reducible assumption | with_reducible apply Ext.alloc_r | with_reducible apply Ext.drew_r | with_reducible apply Ext.drewN_r | with_reducible refine Ext.trans ?_ ‹Ext _ _›))) (by omega) (by omega) (by omega)).mono ?_
      rintro e w6 ⟨spa, Apa, cpa, Lpa, Bpa, dpa, Mpa, spb, Apb, cpb, Lpb, Bpb, dpb, Mpb, rfl, pa, pb, x6⟩
      replace e0_0 := x6.cell e0_0
      replace e0_1 := x6.cell e0_1
      replace e0_2 := x6.cell e0_2
      replace e0_3 := x6.cell e0_3
      replace e0_4 := x6.cell e0_4
      replace e0_5 := x6.cell e0_5
      replace e1_0 := x6.cell e1_0
      replace e1_1 := x6.cell e1_1
      replace e1_2 := x6.cell e1_2
      replace e1_3 := x6.cell e1_3
      replace e1_4 := x6.cell e1_4
      replace e1_5 := x6.cell e1_5
      replace e2_0 := x6.cell e2_0
      replace e2_1 := x6.cell e2_1
      replace e2_2 := x6.cell e2_2
      replace e2_3 := x6.cell e2_3
      replace e2_4 := x6.cell e2_4
      replace e2_5 := x6.cell e2_5
      replace bg_0 := x6.cell bg_0
      replace bg_1 := x6.cell bg_1
      replace bg_2 := x6.cell bg_2
      replace bg_3 := x6.cell bg_3
      replace bg_4 := x6.cell bg_4
      replace bg_5 := x6.cell bg_5
      replace co_0 := x6.cell co_0
      replace co_1 := x6.cell co_1
      replace co_2 := x6.cell co_2
      replace co_3 := x6.cell co_3
      replace co_4 := x6.cell co_4
      replace co_5 := x6.cell co_5
      replace co_6 := x6.cell co_6
      replace co_7 := x6.cell co_7
      replace co_8 := x6.cell co_8
      have te0_0 := fun o => (Ext.alloc w6 o).cell e0_0
      have te0_1 := fun o => (Ext.alloc w6 o).cell e0_1
      have te0_2 := fun o => (Ext.alloc w6 o).cell e0_2
      have te0_3 := fun o => (Ext.alloc w6 o).cell e0_3
      have te0_4 := fun o => (Ext.alloc w6 o).cell e0_4
      have te0_5 := fun o => (Ext.alloc w6 o).cell e0_5
      have te1_0 := fun o => (Ext.alloc w6 o).cell e1_0
      have te1_1 := fun o => (Ext.alloc w6 o).cell e1_1
      have te1_2 := fun o => (Ext.alloc w6 o).cell e1_2
      have te1_3 := fun o => (Ext.alloc w6 o).cell e1_3
      have te1_4 := fun o => (Ext.alloc w6 o).cell e1_4
      have te1_5 := fun o => (Ext.alloc w6 o).cell e1_5
      have te2_0 := fun o => (Ext.alloc w6 o).cell e2_0
      have te2_1 := fun o => (Ext.alloc w6 o).cell e2_1
      have te2_2 := fun o => (Ext.alloc w6 o).cell e2_2
      have te2_3 := fun o => (Ext.alloc w6 o).cell e2_3
      have te2_4 := fun o => (Ext.alloc w6 o).cell e2_4
      have te2_5 := fun o => (Ext.alloc w6 o).cell e2_5
      have tbg_0 := fun o => (Ext.alloc w6 o).cell bg_0
      have tbg_1 := fun o => (Ext.alloc w6 o).cell bg_1
      have tbg_2 := fun o => (Ext.alloc w6 o).cell bg_2
      have tbg_3 := fun o => (Ext.alloc w6 o).cell bg_3
      have tbg_4 := fun o => (Ext.alloc w6 o).cell bg_4
      have tbg_5 := fun o => (Ext.alloc w6 o).cell bg_5
      have tco_0 := fun o => (Ext.alloc w6 o).cell co_0
      have tco_1 := fun o => (Ext.alloc w6 o).cell co_1
      have tco_2 := fun o => (Ext.alloc w6 o).cell co_2
      have tco_3 := fun o => (Ext.alloc w6 o).cell co_3
      have tco_4 := fun o => (Ext.alloc w6 o).cell co_4
      have tco_5 := fun o => (Ext.alloc w6 o).cell co_5
      have tco_6 := fun o => (Ext.alloc w6 o).cell co_6
      have tco_7 := fun o => (Ext.alloc w6 o).cell co_7
      have tco_8 := fun o => (Ext.alloc w6 o).cell co_8
      go_wp2_with fail
      clear te0_0 te0_1 te0_2 te0_3 te0_4 te0_5 te1_0 te1_1 te1_2 te1_3 te1_4 te1_5 te2_0 te2_1 te2_2 te2_3 te2_4 te2_5 tbg_0 tbg_1 tbg_2 tbg_3 tbg_4 tbg_5 tco_0 tco_1 tco_2 tco_3 tco_4 tco_5 tco_6 tco_7 tco_8
      obtain ⟨w7, hw⟩ : ∃ z : World, z = (w6.alloc (.cells #[.bool spa, .slice Apa Lpa cpa, .slice Bpa Mpa dpa, .bool spb, .slice Apb Lpb cpb, .slice Bpb Mpb dpb] 29)) := ⟨_, rfl⟩
      rw [← hw]
      have x7 : Ext w6 w7 := by rw [hw]; exact Ext.alloc _ _
      have bb := box_at w6 #[.bool spa, .slice Apa Lpa cpa, .slice Bpa Mpa dpa, .bool spb, .slice Apb Lpb cpb, .slice Bpb Mpb dpb] 29
      rw [← hw] at bb
      replace e0_0 := x7.cell e0_0
      replace e0_1 := x7.cell e0_1
      replace e0_2 := x7.cell e0_2
      replace e0_3 := x7.cell e0_3
      replace e0_4 := x7.cell e0_4
      replace e0_5 := x7.cell e0_5
      replace e1_0 := x7.cell e1_0
      replace e1_1 := x7.cell e1_1
      replace e1_2 := x7.cell e1_2
      replace e1_3 := x7.cell e1_3
      replace e1_4 := x7.cell e1_4
      replace e1_5 := x7.cell e1_5
      replace e2_0 := x7.cell e2_0
      replace e2_1 := x7.cell e2_1
      replace e2_2 := x7.cell e2_2
      replace e2_3 := x7.cell e2_3
      replace e2_4 := x7.cell e2_4
      replace e2_5 := x7.cell e2_5
      replace bg_0 := x7.cell bg_0
      replace bg_1 := x7.cell bg_1
      replace bg_2 := x7.cell bg_2
      replace bg_3 := x7.cell bg_3
      replace bg_4 := x7.cell bg_4
      replace bg_5 := x7.cell bg_5
      replace co_0 := x7.cell co_0
      replace co_1 := x7.cell co_1
      replace co_2 := x7.cell co_2
      replace co_3 := x7.cell co_3
      replace co_4 := x7.cell co_4
      replace co_5 := x7.cell co_5
      replace co_6 := x7.cell co_6
      replace co_7 := x7.cell co_7
      replace co_8 := x7.cell co_8
      have p_0 := bb.1 0 (.bool spa) rfl
      have p_1 := bb.1 1 (.slice Apa Lpa cpa) rfl
      have p_2 := bb.1 2 (.slice Bpa Mpa dpa) rfl
      have p_3 := bb.1 3 (.bool spb) rfl
      have p_4 := bb.1 4 (.slice Apb Lpb cpb) rfl
      have p_5 := bb.1 5 (.slice Bpb Mpb dpb) rfl
      clear hw bb
      refine (ipow_r (k := 3) (bga.rv.ext (by repeat' (first | with_reducible exact Ext.refl _ | with_reducible assumption | with_reducible apply Ext.alloc_r | with_reducible apply Ext.drew_r | with_reducible apply Ext.drewN_r | with_reducible refine Ext.trans ?_ ‹Ext _ _›))) (bgb.rv.ext (by repeat' (first | with_reducible exact Ext.refl _ | with_reducible assumption | with_reducible apply Ext.alloc_r | with_reducible apply Ext.drew_r | with_reducible apply Ext.drewN_r | with_reducible refine Ext.trans ?_ ‹Ext _ _›))) (by omega) (by omega) (by omega)).mono ?_
      rintro e w8 ⟨sra, Ara, cra, Lra, Bra, dra, Mra, srb, Arb, crb, Lrb, Brb, drb, Mrb, rfl, ra, rb, x8⟩
      replace e0_0 := x8.cell e0_0
      replace e0_1 := x8.cell e0_1
      replace e0_2 := x8.cell e0_2
      replace e0_3 := x8.cell e0_3
      replace e0_4 := x8.cell e0_4
      replace e0_5 := x8.cell e0_5
      replace e1_0 := x8.cell e1_0
      replace e1_1 := x8.cell e1_1
      replace e1_2 := x8.cell e1_2
      replace e1_3 := x8.cell e1_3
      replace e1_4 := x8.cell e1_4
      replace e1_5 := x8.cell e1_5
      replace e2_0 := x8.cell e2_0
      replace e2_1 := x8.cell e2_1
      replace e2_2 := x8.cell e2_2
      replace e2_3 := x8.cell e2_3
      replace e2_4 := x8.cell e2_4
      replace e2_5 := x8.cell e2_5
      replace bg_0 := x8.cell bg_0
      replace bg_1 := x8.cell bg_1
      replace bg_2 := x8.cell bg_2
      replace bg_3 := x8.cell bg_3
      replace bg_4 := x8.cell bg_4
      replace bg_5 := x8.cell bg_5
      replace co_0 := x8.cell co_0
      replace co_1 := x8.cell co_1
      replace co_2 := x8.cell co_2
      replace co_3 := x8.cell co_3
      replace co_4 := x8.cell co_4
      replace co_5 := x8.cell co_5
      replace co_6 := x8.cell co_6
      replace co_7 := x8.cell co_7
      replace co_8 := x8.cell co_8
      replace p_0 := x8.cell p_0
      replace p_1 := x8.cell p_1
      replace p_2 := x8.cell p_2
      replace p_3 := x8.cell p_3
      replace p_4 := x8.cell p_4
      replace p_5 := x8.cell p_5
      have te0_0 := fun o => (Ext.alloc w8 o).cell e0_0
      have te0_1 := fun o => (Ext.alloc w8 o).cell e0_1
      have te0_2 := fun o => (Ext.alloc w8 o).cell e0_2
      have te0_3 := fun o => (Ext.alloc w8 o).cell e0_3
      have te0_4 := fun o => (Ext.alloc w8 o).cell e0_4
      have te0_5 := fun o => (Ext.alloc w8 o).cell e0_5
      have te1_0 := fun o => (Ext.alloc w8 o).cell e1_0
      have te1_1 := fun o => (Ext.alloc w8 o).cell e1_1
      have te1_2 := fun o => (Ext.alloc w8 o).cell e1_2
      have te1_3 := fun o => (Ext.alloc w8 o).cell e1_3
      have te1_4 := fun o => (Ext.alloc w8 o).cell e1_4
      have te1_5 := fun o => (Ext.alloc w8 o).cell e1_5
      have te2_0 := fun o => (Ext.alloc w8 o).cell e2_0
      have te2_1 := fun o => (Ext.alloc w8 o).cell e2_1
      have te2_2 := fun o => (Ext.alloc w8 o).cell e2_2
      have te2_3 := fun o => (Ext.alloc w8 o).cell e2_3
      have te2_4 := fun o => (Ext.alloc w8 o).cell e2_4
      have te2_5 := fun o => (Ext.alloc w8 o).cell e2_5
      have tbg_0 := fun o => (Ext.alloc w8 o).cell bg_0
      have tbg_1 := fun o => (Ext.alloc w8 o).cell bg_1
      have tbg_2 := fun o => (Ext.alloc w8 o).cell bg_2
      have tbg_3 := fun o => (Ext.alloc w8 o).cell bg_3
      have tbg_4 := fun o => (Ext.alloc w8 o).cell bg_4
      have tbg_5 := fun o => (Ext.alloc w8 o).cell bg_5
      have tco_0 := fun o => (Ext.alloc w8 o).cell co_0
      have tco_1 := fun o => (Ext.alloc w8 o).cell co_1
      have tco_2 := fun o => (Ext.alloc w8 o).cell co_2
      have tco_3 := fun o => (Ext.alloc w8 o).cell co_3
      have tco_4 := fun o => (Ext.alloc w8 o).cell co_4
      have tco_5 := fun o => (Ext.alloc w8 o).cell co_5
      have tco_6 := fun o => (Ext.alloc w8 o).cell co_6
      have tco_7 := fun o => (Ext.alloc w8 o).cell co_7
      have tco_8 := fun o => (Ext.alloc w8 o).cell co_8
      have tp_0 := fun o => (Ext.alloc w8 o).cell p_0
      have tp_1 := fun o => (Ext.alloc w8 o).cell p_1
      have tp_2 := fun o => (Ext.alloc w8 o).cell p_2
      have tp_3 := fun o => (Ext.alloc w8 o).cell p_3
      have tp_4 := fun o => (Ext.alloc w8 o).cell p_4
      have tp_5 := fun o => (Ext.alloc w8 o).cell p_5
      go_wp2_with fail
      clear te0_0 te0_1 te0_2 te0_3 te0_4 te0_5 te1_0 te1_1 te1_2 te1_3 te1_4 te1_5 te2_0 te2_1 te2_2 te2_3 te2_4 te2_5 tbg_0 tbg_1 tbg_2 tbg_3 tbg_4 tbg_5 tco_0 tco_1 tco_2 tco_3 tco_4 tco_5 tco_6 tco_7 tco_8 tp_0 tp_1 tp_2 tp_3 tp_4 tp_5
      obtain ⟨w9, hw⟩ : ∃ z : World, z = (w8.alloc (.cells #[.bool sra, .slice Ara Lra cra, .slice Bra Mra dra, .bool srb, .slice Arb Lrb crb, .slice Brb Mrb drb] 29)) := ⟨_, rfl⟩
      rw [← hw]
      have x9 : Ext w8 w9 := by rw [hw]; exact Ext.alloc _ _
      have bb := box_at w8 #[.bool sra, .slice Ara Lra cra, .slice Bra Mra dra, .bool srb, .slice Arb Lrb crb, .slice Brb Mrb drb] 29
      rw [← hw] at bb
      replace e0_0 := x9.cell e0_0
      replace e0_1 := x9.cell e0_1
      replace e0_2 := x9.cell e0_2
      replace e0_3 := x9.cell e0_3
      replace e0_4 := x9.cell e0_4
      replace e0_5 := x9.cell e0_5
      replace e1_0 := x9.cell e1_0
      replace e1_1 := x9.cell e1_1
      replace e1_2 := x9.cell e1_2
      replace e1_3 := x9.cell e1_3
      replace e1_4 := x9.cell e1_4
      replace e1_5 := x9.cell e1_5
      replace e2_0 := x9.cell e2_0
      replace e2_1 := x9.cell e2_1
      replace e2_2 := x9.cell e2_2
      replace e2_3 := x9.cell e2_3
      replace e2_4 := x9.cell e2_4
      replace e2_5 := x9.cell e2_5
      replace bg_0 := x9.cell bg_0
      replace bg_1 := x9.cell bg_1
      replace bg_2 := x9.cell bg_2
      replace bg_3 := x9.cell bg_3
      replace bg_4 := x9.cell bg_4
      replace bg_5 := x9.cell bg_5
      replace co_0 := x9.cell co_0
      replace co_1 := x9.cell co_1
      replace co_2 := x9.cell co_2
      replace co_3 := x9.cell co_3
      replace co_4 := x9.cell co_4
      replace co_5 := x9.cell co_5
      replace co_6 := x9.cell co_6
      replace co_7 := x9.cell co_7
      replace co_8 := x9.cell co_8
      replace p_0 := x9.cell p_0
      replace p_1 := x9.cell p_1
      replace p_2 := x9.cell p_2
      replace p_3 := x9.cell p_3
      replace p_4 := x9.cell p_4
      replace p_5 := x9.cell p_5
      have r_0 := bb.1 0 (.bool sra) rfl
      have r_1 := bb.1 1 (.slice Ara Lra cra) rfl
      have r_2 := bb.1 2 (.slice Bra Mra dra) rfl
      have r_3 := bb.1 3 (.bool srb) rfl
      have r_4 := bb.1 4 (.slice Arb Lrb crb) rfl
      have r_5 := bb.1 5 (.slice Brb Mrb drb) rfl
      clear hw bb
      go_wp2_with fail
      have HK : Hid (∀ w', Ext w9 w' → Ext w9 w' ∧ w'.cell? ⟨w.heap.size, 0, none⟩ = some (.bool s1) ∧ w'.cell? ⟨w.heap.size, 1, none⟩ = some (.slice A1 L1 c1) ∧ w'.cell? ⟨w.heap.size, 2, none⟩ = some (.slice B1 M1 d1) ∧ w'.cell? ⟨w.heap.size, 3, none⟩ = some (.bool s2) ∧ w'.cell? ⟨w.heap.size, 4, none⟩ = some (.slice A2 L2 c2) ∧ w'.cell? ⟨w.heap.size, 5, none⟩ = some (.slice B2 M2 d2) ∧ w'.cell? ⟨w.heap.size + 1, 0, none⟩ = some (.bool s3) ∧ w'.cell? ⟨w.heap.size + 1, 1, none⟩ = some (.slice A3 L3 c3) ∧ w'.cell? ⟨w.heap.size + 1, 2, none⟩ = some (.slice B3 M3 d3) ∧ w'.cell? ⟨w.heap.size + 1, 3, none⟩ = some (.bool s4) ∧ w'.cell? ⟨w.heap.size + 1, 4, none⟩ = some (.slice A4 L4 c4) ∧ w'.cell? ⟨w.heap.size + 1, 5, none⟩ = some (.slice B4 M4 d4) ∧ w'.cell? ⟨w.heap.size + 1 + 1, 0, none⟩ = some (.bool s5) ∧ w'.cell? ⟨w.heap.size + 1 + 1, 1, none⟩ = some (.slice A5 L5 c5) ∧ w'.cell? ⟨w.heap.size + 1 + 1, 2, none⟩ = some (.slice B5 M5 d5) ∧ w'.cell? ⟨w.heap.size + 1 + 1, 3, none⟩ = some (.bool s6) ∧ w'.cell? ⟨w.heap.size + 1 + 1, 4, none⟩ = some (.slice A6 L6 c6) ∧ w'.cell? ⟨w.heap.size + 1 + 1, 5, none⟩ = some (.slice B6 M6 d6) ∧ w'.cell? ⟨w4.heap.size, 0, none⟩ = some (.bool sbga) ∧ w'.cell? ⟨w4.heap.size, 1, none⟩ = some (.slice Abga Lbga cbga) ∧ w'.cell? ⟨w4.heap.size, 2, none⟩ = some (.slice Bbga Mbga dbga) ∧ w'.cell? ⟨w4.heap.size, 3, none⟩ = some (.bool sbgb) ∧ w'.cell? ⟨w4.heap.size, 4, none⟩ = some (.slice Abgb Lbgb cbgb) ∧ w'.cell? ⟨w4.heap.size, 5, none⟩ = some (.slice Bbgb Mbgb dbgb) ∧ w'.cell? ⟨w4.heap.size + 1, 0, none⟩ = some (.bool s3) ∧ w'.cell? ⟨w4.heap.size + 1, 1, none⟩ = some (.slice A3 L3 c3) ∧ w'.cell? ⟨w4.heap.size + 1, 2, none⟩ = some (.slice B3 M3 d3) ∧ w'.cell? ⟨w4.heap.size + 1, 3, none⟩ = some (.bool s4) ∧ w'.cell? ⟨w4.heap.size + 1, 4, none⟩ = some (.slice A4 L4 c4) ∧ w'.cell? ⟨w4.heap.size + 1, 5, none⟩ = some (.slice B4 M4 d4) ∧ w'.cell? ⟨w4.heap.size + 1, 6, none⟩ = some (.bool s5) ∧ w'.cell? ⟨w4.heap.size + 1, 7, none⟩ = some (.slice A5 L5 c5) ∧ w'.cell? ⟨w4.heap.size + 1, 8, none⟩ = some (.slice B5 M5 d5) ∧ w'.cell? ⟨w6.heap.size, 0, none⟩ = some (.bool spa) ∧ w'.cell? ⟨w6.heap.size, 1, none⟩ = some (.slice Apa Lpa cpa) ∧ w'.cell? ⟨w6.heap.size, 2, none⟩ = some (.slice Bpa Mpa dpa) ∧ w'.cell? ⟨w6.heap.size, 3, none⟩ = some (.bool spb) ∧ w'.cell? ⟨w6.heap.size, 4, none⟩ = some (.slice Apb Lpb cpb) ∧ w'.cell? ⟨w6.heap.size, 5, none⟩ = some (.slice Bpb Mpb dpb) ∧ w'.cell? ⟨w8.heap.size, 0, none⟩ = some (.bool sra) ∧ w'.cell? ⟨w8.heap.size, 1, none⟩ = some (.slice Ara Lra cra) ∧ w'.cell? ⟨w8.heap.size, 2, none⟩ = some (.slice Bra Mra dra) ∧ w'.cell? ⟨w8.heap.size, 3, none⟩ = some (.bool srb) ∧ w'.cell? ⟨w8.heap.size, 4, none⟩ = some (.slice Arb Lrb crb) ∧ w'.cell? ⟨w8.heap.size, 5, none⟩ = some (.slice Brb Mrb drb)) := fun w' hk => ⟨hk, hk.cell e0_0, hk.cell e0_1, hk.cell e0_2, hk.cell e0_3, hk.cell e0_4, hk.cell e0_5, hk.cell e1_0, hk.cell e1_1, hk.cell e1_2, hk.cell e1_3, hk.cell e1_4, hk.cell e1_5, hk.cell e2_0, hk.cell e2_1, hk.cell e2_2, hk.cell e2_3, hk.cell e2_4, hk.cell e2_5, hk.cell bg_0, hk.cell bg_1, hk.cell bg_2, hk.cell bg_3, hk.cell bg_4, hk.cell bg_5, hk.cell co_0, hk.cell co_1, hk.cell co_2, hk.cell co_3, hk.cell co_4, hk.cell co_5, hk.cell co_6, hk.cell co_7, hk.cell co_8, hk.cell p_0, hk.cell p_1, hk.cell p_2, hk.cell p_3, hk.cell p_4, hk.cell p_5, hk.cell r_0, hk.cell r_1, hk.cell r_2, hk.cell r_3, hk.cell r_4, hk.cell r_5⟩
      try dsimp only [List.append]
      first
      | go_region_held3 (fun w' => Ext w9 w' ∧ w'.cell? ⟨w.heap.size, 0, none⟩ = some (.bool s1) ∧ w'.cell? ⟨w.heap.size, 1, none⟩ = some (.slice A1 L1 c1) ∧ w'.cell? ⟨w.heap.size, 2, none⟩ = some (.slice B1 M1 d1) ∧ w'.cell? ⟨w.heap.size, 3, none⟩ = some (.bool s2) ∧ w'.cell? ⟨w.heap.size, 4, none⟩ = some (.slice A2 L2 c2) ∧ w'.cell? ⟨w.heap.size, 5, none⟩ = some (.slice B2 M2 d2) ∧ w'.cell? ⟨w.heap.size + 1, 0, none⟩ = some (.bool s3) ∧ w'.cell? ⟨w.heap.size + 1, 1, none⟩ = some (.slice A3 L3 c3) ∧ w'.cell? ⟨w.heap.size + 1, 2, none⟩ = some (.slice B3 M3 d3) ∧ w'.cell? ⟨w.heap.size + 1, 3, none⟩ = some (.bool s4) ∧ w'.cell? ⟨w.heap.size + 1, 4, none⟩ = some (.slice A4 L4 c4) ∧ w'.cell? ⟨w.heap.size + 1, 5, none⟩ = some (.slice B4 M4 d4) ∧ w'.cell? ⟨w.heap.size + 1 + 1, 0, none⟩ = some (.bool s5) ∧ w'.cell? ⟨w.heap.size + 1 + 1, 1, none⟩ = some (.slice A5 L5 c5) ∧ w'.cell? ⟨w.heap.size + 1 + 1, 2, none⟩ = some (.slice B5 M5 d5) ∧ w'.cell? ⟨w.heap.size + 1 + 1, 3, none⟩ = some (.bool s6) ∧ w'.cell? ⟨w.heap.size + 1 + 1, 4, none⟩ = some (.slice A6 L6 c6) ∧ w'.cell? ⟨w.heap.size + 1 + 1, 5, none⟩ = some (.slice B6 M6 d6) ∧ w'.cell? ⟨w4.heap.size, 0, none⟩ = some (.bool sbga) ∧ w'.cell? ⟨w4.heap.size, 1, none⟩ = some (.slice Abga Lbga cbga) ∧ w'.cell? ⟨w4.heap.size, 2, none⟩ = some (.slice Bbga Mbga dbga) ∧ w'.cell? ⟨w4.heap.size, 3, none⟩ = some (.bool sbgb) ∧ w'.cell? ⟨w4.heap.size, 4, none⟩ = some (.slice Abgb Lbgb cbgb) ∧ w'.cell? ⟨w4.heap.size, 5, none⟩ = some (.slice Bbgb Mbgb dbgb) ∧ w'.cell? ⟨w4.heap.size + 1, 0, none⟩ = some (.bool s3) ∧ w'.cell? ⟨w4.heap.size + 1, 1, none⟩ = some (.slice A3 L3 c3) ∧ w'.cell? ⟨w4.heap.size + 1, 2, none⟩ = some (.slice B3 M3 d3) ∧ w'.cell? ⟨w4.heap.size + 1, 3, none⟩ = some (.bool s4) ∧ w'.cell? ⟨w4.heap.size + 1, 4, none⟩ = some (.slice A4 L4 c4) ∧ w'.cell? ⟨w4.heap.size + 1, 5, none⟩ = some (.slice B4 M4 d4) ∧ w'.cell? ⟨w4.heap.size + 1, 6, none⟩ = some (.bool s5) ∧ w'.cell? ⟨w4.heap.size + 1, 7, none⟩ = some (.slice A5 L5 c5) ∧ w'.cell? ⟨w4.heap.size + 1, 8, none⟩ = some (.slice B5 M5 d5) ∧ w'.cell? ⟨w6.heap.size, 0, none⟩ = some (.bool spa) ∧ w'.cell? ⟨w6.heap.size, 1, none⟩ = some (.slice Apa Lpa cpa) ∧ w'.cell? ⟨w6.heap.size, 2, none⟩ = some (.slice Bpa Mpa dpa) ∧ w'.cell? ⟨w6.heap.size, 3, none⟩ = some (.bool spb) ∧ w'.cell? ⟨w6.heap.size, 4, none⟩ = some (.slice Apb Lpb cpb) ∧ w'.cell? ⟨w6.heap.size, 5, none⟩ = some (.slice Bpb Mpb dpb) ∧ w'.cell? ⟨w8.heap.size, 0, none⟩ = some (.bool sra) ∧ w'.cell? ⟨w8.heap.size, 1, none⟩ = some (.slice Ara Lra cra) ∧ w'.cell? ⟨w8.heap.size, 2, none⟩ = some (.slice Bra Mra dra) ∧ w'.cell? ⟨w8.heap.size, 3, none⟩ = some (.bool srb) ∧ w'.cell? ⟨w8.heap.size, 4, none⟩ = some (.slice Arb Lrb crb) ∧ w'.cell? ⟨w8.heap.size, 5, none⟩ = some (.slice Brb Mrb drb))
          ((with_reducible refine HK.out _ ?_; (repeat' (first | with_reducible exact Ext.refl _ | with_reducible assumption | with_reducible apply Ext.alloc_r | with_reducible apply Ext.drew_r | with_reducible apply Ext.drewN_r | with_reducible refine Ext.trans ?_ ‹Ext _ _›))))
          (first
            | (go_at_call_of 21 (#[Value.agg #[Value.bool spa, Value.slice Apa Lpa cpa, Value.slice Bpa Mpa dpa, Value.bool spb, Value.slice Apb Lpb cpb, Value.slice Bpb Mpb dpb], Value.agg #[Value.bool sra, Value.slice Ara Lra cra, Value.slice Bra Mra dra, Value.bool srb, Value.slice Arb Lrb crb, Value.slice Brb Mrb drb]]); have hgd := vba; clear hgd; refine (within_is ((pa.rv.ext (by repeat' (first | with_reducible exact Ext.refl _ | with_reducible assumption | with_reducible apply Ext.alloc_r | with_reducible apply Ext.drew_r | with_reducible apply Ext.drewN_r | with_reducible refine Ext.trans ?_ ‹Ext _ _›))).wide (N' := 41) (by omega)) ((pb.rv.ext (by repeat' (first | with_reducible exact Ext.refl _ | with_reducible assumption | with_reducible apply Ext.alloc_r | with_reducible apply Ext.drew_r | with_reducible apply Ext.drewN_r | with_reducible refine Ext.trans ?_ ‹Ext _ _›))).wide (N' := 41) (by omega)) ((ra.rv.ext (by repeat' (first | with_reducible exact Ext.refl _ | with_reducible assumption | with_reducible apply Ext.alloc_r | with_reducible apply Ext.drew_r | with_reducible apply Ext.drewN_r | with_reducible refine Ext.trans ?_ ‹Ext _ _›))).wide (N' := 41) (by omega)) ((rb.rv.ext (by repeat' (first | with_reducible exact Ext.refl _ | with_reducible assumption | with_reducible apply Ext.alloc_r | with_reducible apply Ext.drew_r | with_reducible apply Ext.drewN_r | with_reducible refine Ext.trans ?_ ‹Ext _ _›))).wide (N' := 41) (by omega)) (by omega) E4.out).mono ?_; rintro e w20 ⟨rfl, x20⟩)
            | (go_at_call_of 21 (#[Value.agg #[Value.bool svaa, Value.slice Avaa Lvaa cvaa, Value.slice Bvaa Mvaa dvaa, Value.bool svab, Value.slice Avab Lvab cvab, Value.slice Bvab Mvab dvab], Value.agg #[Value.bool svba, Value.slice Avba Lvba cvba, Value.slice Bvba Mvba dvba, Value.bool svbb, Value.slice Avbb Lvbb cvbb, Value.slice Bvbb Mvbb dvbb]]); have hgd := vba; clear hgd; refine (within_is ((vaa.rv.ext (by repeat' (first | with_reducible exact Ext.refl _ | with_reducible assumption | with_reducible apply Ext.alloc_r | with_reducible apply Ext.drew_r | with_reducible apply Ext.drewN_r | with_reducible refine Ext.trans ?_ ‹Ext _ _›))).wide (N' := 41) (by omega)) ((vab.rv.ext (by repeat' (first | with_reducible exact Ext.refl _ | with_reducible assumption | with_reducible apply Ext.alloc_r | with_reducible apply Ext.drew_r | with_reducible apply Ext.drewN_r | with_reducible refine Ext.trans ?_ ‹Ext _ _›))).wide (N' := 41) (by omega)) ((vba.rv.ext (by repeat' (first | with_reducible exact Ext.refl _ | with_reducible assumption | with_reducible apply Ext.alloc_r | with_reducible apply Ext.drew_r | with_reducible apply Ext.drewN_r | with_reducible refine Ext.trans ?_ ‹Ext _ _›))).wide (N' := 41) (by omega)) ((vbb.rv.ext (by repeat' (first | with_reducible exact Ext.refl _ | with_reducible assumption | with_reducible apply Ext.alloc_r | with_reducible apply Ext.drew_r | with_reducible apply Ext.drewN_r | with_reducible refine Ext.trans ?_ ‹Ext _ _›))).wide (N' := 41) (by omega)) (by omega) E3.out).mono ?_; rintro e w19 ⟨rfl, x19⟩)
            | (go_at_call 24; have hgd := vaa; clear hgd; refine (ieval3 (hcs.ext (by repeat' (first | with_reducible exact Ext.refl _ | with_reducible assumption | with_reducible apply Ext.alloc_r | with_reducible apply Ext.drew_r | with_reducible apply Ext.drewN_r | with_reducible refine Ext.trans ?_ ‹Ext _ _›))) (bga.rv.ext (by repeat' (first | with_reducible exact Ext.refl _ | with_reducible assumption | with_reducible apply Ext.alloc_r | with_reducible apply Ext.drew_r | with_reducible apply Ext.drewN_r | with_reducible refine Ext.trans ?_ ‹Ext _ _›))) (bgb.rv.ext (by repeat' (first | with_reducible exact Ext.refl _ | with_reducible assumption | with_reducible apply Ext.alloc_r | with_reducible apply Ext.drew_r | with_reducible apply Ext.drewN_r | with_reducible refine Ext.trans ?_ ‹Ext _ _›)))).mono ?_; rintro e w18 ⟨svba, Avba, cvba, Lvba, Bvba, dvba, Mvba, svbb, Avbb, cvbb, Lvbb, Bvbb, dvbb, Mvbb, rfl, vba, vbb, x18⟩)
            | (go_at_call 24; have hgd := mba; clear hgd; refine (ieval3 (hcs.ext (by repeat' (first | with_reducible exact Ext.refl _ | with_reducible assumption | with_reducible apply Ext.alloc_r | with_reducible apply Ext.drew_r | with_reducible apply Ext.drewN_r | with_reducible refine Ext.trans ?_ ‹Ext _ _›))) (e1.ext (by repeat' (first | with_reducible exact Ext.refl _ | with_reducible assumption | with_reducible apply Ext.alloc_r | with_reducible apply Ext.drew_r | with_reducible apply Ext.drewN_r | with_reducible refine Ext.trans ?_ ‹Ext _ _›))) (e2.ext (by repeat' (first | with_reducible exact Ext.refl _ | with_reducible assumption | with_reducible apply Ext.alloc_r | with_reducible apply Ext.drew_r | with_reducible apply Ext.drewN_r | with_reducible refine Ext.trans ?_ ‹Ext _ _›)))).mono ?_; rintro e w17 ⟨svaa, Avaa, cvaa, Lvaa, Bvaa, dvaa, Mvaa, svab, Avab, cvab, Lvab, Bvab, dvab, Mvab, rfl, vaa, vab, x17⟩)
            | (go_at_call_of 21 (#[Value.agg #[Value.bool smaa, Value.slice Amaa Lmaa cmaa, Value.slice Bmaa Mmaa dmaa, Value.bool smab, Value.slice Amab Lmab cmab, Value.slice Bmab Mmab dmab], Value.agg #[Value.bool smba, Value.slice Amba Lmba cmba, Value.slice Bmba Mmba dmba, Value.bool smbb, Value.slice Ambb Lmbb cmbb, Value.slice Bmbb Mmbb dmbb]]); have hgd := mba; clear hgd; refine (within_is ((maa.rv.ext (by repeat' (first | with_reducible exact Ext.refl _ | with_reducible assumption | with_reducible apply Ext.alloc_r | with_reducible apply Ext.drew_r | with_reducible apply Ext.drewN_r | with_reducible refine Ext.trans ?_ ‹Ext _ _›))).wide (N' := 41) (by omega)) ((mab.rv.ext (by repeat' (first | with_reducible exact Ext.refl _ | with_reducible assumption | with_reducible apply Ext.alloc_r | with_reducible apply Ext.drew_r | with_reducible apply Ext.drewN_r | with_reducible refine Ext.trans ?_ ‹Ext _ _›))).wide (N' := 41) (by omega)) ((mba.rv.ext (by repeat' (first | with_reducible exact Ext.refl _ | with_reducible assumption | with_reducible apply Ext.alloc_r | with_reducible apply Ext.drew_r | with_reducible apply Ext.drewN_r | with_reducible refine Ext.trans ?_ ‹Ext _ _›))).wide (N' := 41) (by omega)) ((mbb.rv.ext (by repeat' (first | with_reducible exact Ext.refl _ | with_reducible assumption | with_reducible apply Ext.alloc_r | with_reducible apply Ext.drew_r | with_reducible apply Ext.drewN_r | with_reducible refine Ext.trans ?_ ‹Ext _ _›))).wide (N' := 41) (by omega)) (by omega) E2.out).mono ?_; rintro e w16 ⟨rfl, x16⟩)
            | (go_at_call_of 15 (#[Value.agg #[Value.bool sbga, Value.slice Abga Lbga cbga, Value.slice Bbga Mbga dbga, Value.bool sbgb, Value.slice Abgb Lbgb cbgb, Value.slice Bbgb Mbgb dbgb], Value.agg #[Value.bool s3, Value.slice A3 L3 c3, Value.slice B3 M3 d3, Value.bool s4, Value.slice A4 L4 c4, Value.slice B4 M4 d4]]); have hgd := maa; clear hgd; refine (imul_r (bga.rv.ext (by repeat' (first | with_reducible exact Ext.refl _ | with_reducible assumption | with_reducible apply Ext.alloc_r | with_reducible apply Ext.drew_r | with_reducible apply Ext.drewN_r | with_reducible refine Ext.trans ?_ ‹Ext _ _›))) (bgb.rv.ext (by repeat' (first | with_reducible exact Ext.refl _ | with_reducible assumption | with_reducible apply Ext.alloc_r | with_reducible apply Ext.drew_r | with_reducible apply Ext.drewN_r | with_reducible refine Ext.trans ?_ ‹Ext _ _›))) (e3.ext (by repeat' (first | with_reducible exact Ext.refl _ | with_reducible assumption | with_reducible apply Ext.alloc_r | with_reducible apply Ext.drew_r | with_reducible apply Ext.drewN_r | with_reducible refine Ext.trans ?_ ‹Ext _ _›))) (e4.ext (by repeat' (first | with_reducible exact Ext.refl _ | with_reducible assumption | with_reducible apply Ext.alloc_r | with_reducible apply Ext.drew_r | with_reducible apply Ext.drewN_r | with_reducible refine Ext.trans ?_ ‹Ext _ _›))) (by omega)).mono ?_; rintro e w15 ⟨smba, Amba, cmba, Lmba, Bmba, dmba, Mmba, smbb, Ambb, cmbb, Lmbb, Bmbb, dmbb, Mmbb, rfl, mba, mbb, x15⟩)
            | (go_at_call_of 15 (#[Value.agg #[Value.bool s1, Value.slice A1 L1 c1, Value.slice B1 M1 d1, Value.bool s2, Value.slice A2 L2 c2, Value.slice B2 M2 d2], Value.agg #[Value.bool s3, Value.slice A3 L3 c3, Value.slice B3 M3 d3, Value.bool s4, Value.slice A4 L4 c4, Value.slice B4 M4 d4]]); have hgd := sba; clear hgd; refine (imul_r (e1.ext (by repeat' (first | with_reducible exact Ext.refl _ | with_reducible assumption | with_reducible apply Ext.alloc_r | with_reducible apply Ext.drew_r | with_reducible apply Ext.drewN_r | with_reducible refine Ext.trans ?_ ‹Ext _ _›))) (e2.ext (by repeat' (first | with_reducible exact Ext.refl _ | with_reducible assumption | with_reducible apply Ext.alloc_r | with_reducible apply Ext.drew_r | with_reducible apply Ext.drewN_r | with_reducible refine Ext.trans ?_ ‹Ext _ _›))) (e3.ext (by repeat' (first | with_reducible exact Ext.refl _ | with_reducible assumption | with_reducible apply Ext.alloc_r | with_reducible apply Ext.drew_r | with_reducible apply Ext.drewN_r | with_reducible refine Ext.trans ?_ ‹Ext _ _›))) (e4.ext (by repeat' (first | with_reducible exact Ext.refl _ | with_reducible assumption | with_reducible apply Ext.alloc_r | with_reducible apply Ext.drew_r | with_reducible apply Ext.drewN_r | with_reducible refine Ext.trans ?_ ‹Ext _ _›))) (by omega)).mono ?_; rintro e w14 ⟨smaa, Amaa, cmaa, Lmaa, Bmaa, dmaa, Mmaa, smab, Amab, cmab, Lmab, Bmab, dmab, Mmab, rfl, maa, mab, x14⟩)
            | (go_at_call_of 21 (#[Value.agg #[Value.bool ssaa, Value.slice Asaa Lsaa csaa, Value.slice Bsaa Msaa dsaa, Value.bool ssab, Value.slice Asab Lsab csab, Value.slice Bsab Msab dsab], Value.agg #[Value.bool ssba, Value.slice Asba Lsba csba, Value.slice Bsba Msba dsba, Value.bool ssbb, Value.slice Asbb Lsbb csbb, Value.slice Bsbb Msbb dsbb]]); have hgd := sba; clear hgd; refine (within_is ((saa.rv.ext (by repeat' (first | with_reducible exact Ext.refl _ | with_reducible assumption | with_reducible apply Ext.alloc_r | with_reducible apply Ext.drew_r | with_reducible apply Ext.drewN_r | with_reducible refine Ext.trans ?_ ‹Ext _ _›))).wide (N' := 41) (by omega)) ((sab.rv.ext (by repeat' (first | with_reducible exact Ext.refl _ | with_reducible assumption | with_reducible apply Ext.alloc_r | with_reducible apply Ext.drew_r | with_reducible apply Ext.drewN_r | with_reducible refine Ext.trans ?_ ‹Ext _ _›))).wide (N' := 41) (by omega)) ((sba.rv.ext (by repeat' (first | with_reducible exact Ext.refl _ | with_reducible assumption | with_reducible apply Ext.alloc_r | with_reducible apply Ext.drew_r | with_reducible apply Ext.drewN_r | with_reducible refine Ext.trans ?_ ‹Ext _ _›))).wide (N' := 41) (by omega)) ((sbb.rv.ext (by repeat' (first | with_reducible exact Ext.refl _ | with_reducible assumption | with_reducible apply Ext.alloc_r | with_reducible apply Ext.drew_r | with_reducible apply Ext.drewN_r | with_reducible refine Ext.trans ?_ ‹Ext _ _›))).wide (N' := 41) (by omega)) (by omega) E1.out).mono ?_; rintro e w13 ⟨rfl, x13⟩)
            | (go_at_call_of 11 (#[Value.agg #[Value.bool sbga, Value.slice Abga Lbga cbga, Value.slice Bbga Mbga dbga, Value.bool sbgb, Value.slice Abgb Lbgb cbgb, Value.slice Bbgb Mbgb dbgb], Value.agg #[Value.bool s3, Value.slice A3 L3 c3, Value.slice B3 M3 d3, Value.bool s4, Value.slice A4 L4 c4, Value.slice B4 M4 d4]]); have hgd := saa; clear hgd; refine (iadd_r (bga.rv.ext (by repeat' (first | with_reducible exact Ext.refl _ | with_reducible assumption | with_reducible apply Ext.alloc_r | with_reducible apply Ext.drew_r | with_reducible apply Ext.drewN_r | with_reducible refine Ext.trans ?_ ‹Ext _ _›))) (bgb.rv.ext (by repeat' (first | with_reducible exact Ext.refl _ | with_reducible assumption | with_reducible apply Ext.alloc_r | with_reducible apply Ext.drew_r | with_reducible apply Ext.drewN_r | with_reducible refine Ext.trans ?_ ‹Ext _ _›))) (e3.ext (by repeat' (first | with_reducible exact Ext.refl _ | with_reducible assumption | with_reducible apply Ext.alloc_r | with_reducible apply Ext.drew_r | with_reducible apply Ext.drewN_r | with_reducible refine Ext.trans ?_ ‹Ext _ _›))) (e4.ext (by repeat' (first | with_reducible exact Ext.refl _ | with_reducible assumption | with_reducible apply Ext.alloc_r | with_reducible apply Ext.drew_r | with_reducible apply Ext.drewN_r | with_reducible refine Ext.trans ?_ ‹Ext _ _›))) (by omega) (by omega)).mono ?_; rintro e w12 ⟨ssba, Asba, csba, Lsba, Bsba, dsba, Msba, ssbb, Asbb, csbb, Lsbb, Bsbb, dsbb, Msbb, rfl, sba, sbb, x12⟩)
            | (go_at_call_of 11 (#[Value.agg #[Value.bool s1, Value.slice A1 L1 c1, Value.slice B1 M1 d1, Value.bool s2, Value.slice A2 L2 c2, Value.slice B2 M2 d2], Value.agg #[Value.bool s3, Value.slice A3 L3 c3, Value.slice B3 M3 d3, Value.bool s4, Value.slice A4 L4 c4, Value.slice B4 M4 d4]]); refine (iadd_r (e1.ext (by repeat' (first | with_reducible exact Ext.refl _ | with_reducible assumption | with_reducible apply Ext.alloc_r | with_reducible apply Ext.drew_r | with_reducible apply Ext.drewN_r | with_reducible refine Ext.trans ?_ ‹Ext _ _›))) (e2.ext (by repeat' (first | with_reducible exact Ext.refl _ | with_reducible assumption | with_reducible apply Ext.alloc_r | with_reducible apply Ext.drew_r | with_reducible apply Ext.drewN_r | with_reducible refine Ext.trans ?_ ‹Ext _ _›))) (e3.ext (by repeat' (first | with_reducible exact Ext.refl _ | with_reducible assumption | with_reducible apply Ext.alloc_r | with_reducible apply Ext.drew_r | with_reducible apply Ext.drewN_r | with_reducible refine Ext.trans ?_ ‹Ext _ _›))) (e4.ext (by repeat' (first | with_reducible exact Ext.refl _ | with_reducible assumption | with_reducible apply Ext.alloc_r | with_reducible apply Ext.drew_r | with_reducible apply Ext.drewN_r | with_reducible refine Ext.trans ?_ ‹Ext _ _›))) (by omega) (by omega)).mono ?_; rintro e w11 ⟨ssaa, Asaa, csaa, Lsaa, Bsaa, dsaa, Msaa, ssab, Asab, csab, Lsab, Bsab, dsab, Msab, rfl, saa, sab, x11⟩)
            | (go_at_call_of 21 (#[Value.agg #[Value.bool s1, Value.slice A1 L1 c1, Value.slice B1 M1 d1, Value.bool s2, Value.slice A2 L2 c2, Value.slice B2 M2 d2], Value.agg #[Value.bool sbga, Value.slice Abga Lbga cbga, Value.slice Bbga Mbga dbga, Value.bool sbgb, Value.slice Abgb Lbgb cbgb, Value.slice Bbgb Mbgb dbgb]]); refine (within_is ((e1.ext (by repeat' (first | with_reducible exact Ext.refl _ | with_reducible assumption | with_reducible apply Ext.alloc_r | with_reducible apply Ext.drew_r | with_reducible apply Ext.drewN_r | with_reducible refine Ext.trans ?_ ‹Ext _ _›))).wide (N' := 41) (by omega)) ((e2.ext (by repeat' (first | with_reducible exact Ext.refl _ | with_reducible assumption | with_reducible apply Ext.alloc_r | with_reducible apply Ext.drew_r | with_reducible apply Ext.drewN_r | with_reducible refine Ext.trans ?_ ‹Ext _ _›))).wide (N' := 41) (by omega)) ((bga.rv.ext (by repeat' (first | with_reducible exact Ext.refl _ | with_reducible assumption | with_reducible apply Ext.alloc_r | with_reducible apply Ext.drew_r | with_reducible apply Ext.drewN_r | with_reducible refine Ext.trans ?_ ‹Ext _ _›))).wide (N' := 41) (by omega)) ((bgb.rv.ext (by repeat' (first | with_reducible exact Ext.refl _ | with_reducible assumption | with_reducible apply Ext.alloc_r | with_reducible apply Ext.drew_r | with_reducible apply Ext.drewN_r | with_reducible refine Ext.trans ?_ ‹Ext _ _›))).wide (N' := 41) (by omega)) (by omega) E0.out).mono ?_; rintro e w10 ⟨rfl, x10⟩))
      | fail
      clear HK
      have xh : Ext w9 w20 := (by repeat' (first | with_reducible exact Ext.refl _ | with_reducible assumption | with_reducible apply Ext.alloc_r | with_reducible apply Ext.drew_r | with_reducible apply Ext.drewN_r | with_reducible refine Ext.trans ?_ ‹Ext _ _›))
      replace e0_0 := xh.cell e0_0
      replace e0_1 := xh.cell e0_1
      replace e0_2 := xh.cell e0_2
      replace e0_3 := xh.cell e0_3
      replace e0_4 := xh.cell e0_4
      replace e0_5 := xh.cell e0_5
      replace e1_0 := xh.cell e1_0
      replace e1_1 := xh.cell e1_1
      replace e1_2 := xh.cell e1_2
      replace e1_3 := xh.cell e1_3
      replace e1_4 := xh.cell e1_4
      replace e1_5 := xh.cell e1_5
      replace e2_0 := xh.cell e2_0
      replace e2_1 := xh.cell e2_1
      replace e2_2 := xh.cell e2_2
      replace e2_3 := xh.cell e2_3
      replace e2_4 := xh.cell e2_4
      replace e2_5 := xh.cell e2_5
      replace bg_0 := xh.cell bg_0
      replace bg_1 := xh.cell bg_1
      replace bg_2 := xh.cell bg_2
      replace bg_3 := xh.cell bg_3
      replace bg_4 := xh.cell bg_4
      replace bg_5 := xh.cell bg_5
      replace co_0 := xh.cell co_0
      replace co_1 := xh.cell co_1
      replace co_2 := xh.cell co_2
      replace co_3 := xh.cell co_3
      replace co_4 := xh.cell co_4
      replace co_5 := xh.cell co_5
      replace co_6 := xh.cell co_6
      replace co_7 := xh.cell co_7
      replace co_8 := xh.cell co_8
      replace p_0 := xh.cell p_0
      replace p_1 := xh.cell p_1
      replace p_2 := xh.cell p_2
      replace p_3 := xh.cell p_3
      replace p_4 := xh.cell p_4
      replace p_5 := xh.cell p_5
      replace r_0 := xh.cell r_0
      replace r_1 := xh.cell r_1
      replace r_2 := xh.cell r_2
      replace r_3 := xh.cell r_3
      replace r_4 := xh.cell r_4
      replace r_5 := xh.cell r_5
      clear xh
      go_wp2_with fail
      go_ret
      exact ⟨rfl, (by repeat' (first | with_reducible exact Ext.refl _ | with_reducible assumption | with_reducible apply Ext.alloc_r | with_reducible apply Ext.drew_r | with_reducible apply Ext.drewN_r | with_reducible refine Ext.trans ?_ ‹Ext _ _›))⟩
    · have HF := Lib.hid hf
      have HG := Lib.hid hg
      clear hf hg
      go_enter Try.func5, Try.ntmps5
      go_wp2_with fail
      obtain ⟨w0, hw0⟩ : ∃ z : World, z = (((w.alloc (.cells #[.bool s1, .slice A1 L1 c1, .slice B1 M1 d1, .bool s2, .slice A2 L2 c2, .slice B2 M2 d2] 29)).alloc (.cells #[.bool s3, .slice A3 L3 c3, .slice B3 M3 d3, .bool s4, .slice A4 L4 c4, .slice B4 M4 d4] 29)).alloc (.cells #[.bool s5, .slice A5 L5 c5, .slice B5 M5 d5, .bool s6, .slice A6 L6 c6, .slice B6 M6 d6] 29)) := ⟨_, rfl⟩
      rw [← hw0]
      have b0 := box_at w #[.bool s1, .slice A1 L1 c1, .slice B1 M1 d1, .bool s2, .slice A2 L2 c2, .slice B2 M2 d2] 29
      have b1 := box_at (w.alloc (.cells #[.bool s1, .slice A1 L1 c1, .slice B1 M1 d1, .bool s2, .slice A2 L2 c2, .slice B2 M2 d2] 29)) #[.bool s3, .slice A3 L3 c3, .slice B3 M3 d3, .bool s4, .slice A4 L4 c4, .slice B4 M4 d4] 29
      have b2 := box_at ((w.alloc (.cells #[.bool s1, .slice A1 L1 c1, .slice B1 M1 d1, .bool s2, .slice A2 L2 c2, .slice B2 M2 d2] 29)).alloc (.cells #[.bool s3, .slice A3 L3 c3, .slice B3 M3 d3, .bool s4, .slice A4 L4 c4, .slice B4 M4 d4] 29)) #[.bool s5, .slice A5 L5 c5, .slice B5 M5 d5, .bool s6, .slice A6 L6 c6, .slice B6 M6 d6] 29
      have hsz : w0.heap.size = w.heap.size + 1 + 1 + 1 := by rw [hw0]; simp
      rw [← hw0] at b2
      have y2 : Ext ((w.alloc (.cells #[.bool s1, .slice A1 L1 c1, .slice B1 M1 d1, .bool s2, .slice A2 L2 c2, .slice B2 M2 d2] 29)).alloc (.cells #[.bool s3, .slice A3 L3 c3, .slice B3 M3 d3, .bool s4, .slice A4 L4 c4, .slice B4 M4 d4] 29)) w0 := by rw [hw0]; exact Ext.alloc _ _
      have y1 : Ext (w.alloc (.cells #[.bool s1, .slice A1 L1 c1, .slice B1 M1 d1, .bool s2, .slice A2 L2 c2, .slice B2 M2 d2] 29)) w0 := (Ext.alloc _ _).trans y2
      have y0 : Ext w w0 := (Ext.alloc _ _).trans y1
      have x0 : Ext w w0 := y0
      have e0_0 := y1.cell (b0.1 0 (.bool s1) rfl)
      have e0_1 := y1.cell (b0.1 1 (.slice A1 L1 c1) rfl)
      have e0_2 := y1.cell (b0.1 2 (.slice B1 M1 d1) rfl)
      have e0_3 := y1.cell (b0.1 3 (.bool s2) rfl)
      have e0_4 := y1.cell (b0.1 4 (.slice A2 L2 c2) rfl)
      have e0_5 := y1.cell (b0.1 5 (.slice B2 M2 d2) rfl)
      have e1_0 := y2.cell (b1.1 0 (.bool s3) rfl)
      have e1_1 := y2.cell (b1.1 1 (.slice A3 L3 c3) rfl)
      have e1_2 := y2.cell (b1.1 2 (.slice B3 M3 d3) rfl)
      have e1_3 := y2.cell (b1.1 3 (.bool s4) rfl)
      have e1_4 := y2.cell (b1.1 4 (.slice A4 L4 c4) rfl)
      have e1_5 := y2.cell (b1.1 5 (.slice B4 M4 d4) rfl)
      have e2_0 := b2.1 0 (.bool s5) rfl
      have e2_1 := b2.1 1 (.slice A5 L5 c5) rfl
      have e2_2 := b2.1 2 (.slice B5 M5 d5) rfl
      have e2_3 := b2.1 3 (.bool s6) rfl
      have e2_4 := b2.1 4 (.slice A6 L6 c6) rfl
      have e2_5 := b2.1 5 (.slice B6 M6 d6) rfl
      simp only [World.size_alloc] at e1_0 e1_1 e1_2 e1_3 e1_4 e1_5 e2_0 e2_1 e2_2 e2_3 e2_4 e2_5
      clear hw0 b0 b1 b2 y0 y1 y2
      go_wp2_with fail
      refine (awake6 _).mono ?_
      rintro e w1 ⟨rfl, x1⟩
      replace e0_0 := x1.cell e0_0
      replace e0_1 := x1.cell e0_1
      replace e0_2 := x1.cell e0_2
      replace e0_3 := x1.cell e0_3
      replace e0_4 := x1.cell e0_4
      replace e0_5 := x1.cell e0_5
      replace e1_0 := x1.cell e1_0
      replace e1_1 := x1.cell e1_1
      replace e1_2 := x1.cell e1_2
      replace e1_3 := x1.cell e1_3
      replace e1_4 := x1.cell e1_4
      replace e1_5 := x1.cell e1_5
      replace e2_0 := x1.cell e2_0
      replace e2_1 := x1.cell e2_1
      replace e2_2 := x1.cell e2_2
      replace e2_3 := x1.cell e2_3
      replace e2_4 := x1.cell e2_4
      replace e2_5 := x1.cell e2_5
      go_wp2_with fail
      refine (few6_yes (by omega) (by omega) (by omega) (by omega) (by omega) (by omega) (by omega) (by omega) HF.out).mono ?_
      rintro e w2 ⟨rfl, x2⟩
      replace e0_0 := x2.cell e0_0
      replace e0_1 := x2.cell e0_1
      replace e0_2 := x2.cell e0_2
      replace e0_3 := x2.cell e0_3
      replace e0_4 := x2.cell e0_4
      replace e0_5 := x2.cell e0_5
      replace e1_0 := x2.cell e1_0
      replace e1_1 := x2.cell e1_1
      replace e1_2 := x2.cell e1_2
      replace e1_3 := x2.cell e1_3
      replace e1_4 := x2.cell e1_4
      replace e1_5 := x2.cell e1_5
      replace e2_0 := x2.cell e2_0
      replace e2_1 := x2.cell e2_1
      replace e2_2 := x2.cell e2_2
      replace e2_3 := x2.cell e2_3
      replace e2_4 := x2.cell e2_4
      replace e2_5 := x2.cell e2_5
      go_wp2_with fail
      refine (few6_no (by omega) (by omega) (by omega) (by omega) (by omega) (by omega) (by omega) (by omega) HG.out).mono ?_
      rintro e w3 ⟨rfl, x3⟩
      replace e0_0 := x3.cell e0_0
      replace e0_1 := x3.cell e0_1
      replace e0_2 := x3.cell e0_2
      replace e0_3 := x3.cell e0_3
      replace e0_4 := x3.cell e0_4
      replace e0_5 := x3.cell e0_5
      replace e1_0 := x3.cell e1_0
      replace e1_1 := x3.cell e1_1
      replace e1_2 := x3.cell e1_2
      replace e1_3 := x3.cell e1_3
      replace e1_4 := x3.cell e1_4
      replace e1_5 := x3.cell e1_5
      replace e2_0 := x3.cell e2_0
      replace e2_1 := x3.cell e2_1
      replace e2_2 := x3.cell e2_2
      replace e2_3 := x3.cell e2_3
      replace e2_4 := x3.cell e2_4
      replace e2_5 := x3.cell e2_5
      clear hsz
      go_wp2_with fail
      refine (awake6 _).mono ?_
      rintro e w4 ⟨rfl, x4⟩
      replace e0_0 := x4.cell e0_0
      replace e0_1 := x4.cell e0_1
      replace e0_2 := x4.cell e0_2
      replace e0_3 := x4.cell e0_3
      replace e0_4 := x4.cell e0_4
      replace e0_5 := x4.cell e0_5
      replace e1_0 := x4.cell e1_0
      replace e1_1 := x4.cell e1_1
      replace e1_2 := x4.cell e1_2
      replace e1_3 := x4.cell e1_3
      replace e1_4 := x4.cell e1_4
      replace e1_5 := x4.cell e1_5
      replace e2_0 := x4.cell e2_0
      replace e2_1 := x4.cell e2_1
      replace e2_2 := x4.cell e2_2
      replace e2_3 := x4.cell e2_3
      replace e2_4 := x4.cell e2_4
      replace e2_5 := x4.cell e2_5
      go_wp2_with fail
      go_ret
      exact ⟨rfl, (by repeat' (first | with_reducible exact Ext.refl _ | with_reducible assumption | with_reducible apply Ext.alloc_r | with_reducible apply Ext.drew_r | with_reducible apply Ext.drewN_r | with_reducible refine Ext.trans ?_ ‹Ext _ _›))⟩
  · have HF := Lib.hid hf
    clear hf
    go_enter Try.func5, Try.ntmps5
    go_wp2_with fail
    obtain ⟨w0, hw0⟩ : ∃ z : World, z = (((w.alloc (.cells #[.bool s1, .slice A1 L1 c1, .slice B1 M1 d1, .bool s2, .slice A2 L2 c2, .slice B2 M2 d2] 29)).alloc (.cells #[.bool s3, .slice A3 L3 c3, .slice B3 M3 d3, .bool s4, .slice A4 L4 c4, .slice B4 M4 d4] 29)).alloc (.cells #[.bool s5, .slice A5 L5 c5, .slice B5 M5 d5, .bool s6, .slice A6 L6 c6, .slice B6 M6 d6] 29)) := ⟨_, rfl⟩
    rw [← hw0]
    have b0 := box_at w #[.bool s1, .slice A1 L1 c1, .slice B1 M1 d1, .bool s2, .slice A2 L2 c2, .slice B2 M2 d2] 29
    have b1 := box_at (w.alloc (.cells #[.bool s1, .slice A1 L1 c1, .slice B1 M1 d1, .bool s2, .slice A2 L2 c2, .slice B2 M2 d2] 29)) #[.bool s3, .slice A3 L3 c3, .slice B3 M3 d3, .bool s4, .slice A4 L4 c4, .slice B4 M4 d4] 29
    have b2 := box_at ((w.alloc (.cells #[.bool s1, .slice A1 L1 c1, .slice B1 M1 d1, .bool s2, .slice A2 L2 c2, .slice B2 M2 d2] 29)).alloc (.cells #[.bool s3, .slice A3 L3 c3, .slice B3 M3 d3, .bool s4, .slice A4 L4 c4, .slice B4 M4 d4] 29)) #[.bool s5, .slice A5 L5 c5, .slice B5 M5 d5, .bool s6, .slice A6 L6 c6, .slice B6 M6 d6] 29
    have hsz : w0.heap.size = w.heap.size + 1 + 1 + 1 := by rw [hw0]; simp
    rw [← hw0] at b2
    have y2 : Ext ((w.alloc (.cells #[.bool s1, .slice A1 L1 c1, .slice B1 M1 d1, .bool s2, .slice A2 L2 c2, .slice B2 M2 d2] 29)).alloc (.cells #[.bool s3, .slice A3 L3 c3, .slice B3 M3 d3, .bool s4, .slice A4 L4 c4, .slice B4 M4 d4] 29)) w0 := by rw [hw0]; exact Ext.alloc _ _
    have y1 : Ext (w.alloc (.cells #[.bool s1, .slice A1 L1 c1, .slice B1 M1 d1, .bool s2, .slice A2 L2 c2, .slice B2 M2 d2] 29)) w0 := (Ext.alloc _ _).trans y2
    have y0 : Ext w w0 := (Ext.alloc _ _).trans y1
    have x0 : Ext w w0 := y0
    have e0_0 := y1.cell (b0.1 0 (.bool s1) rfl)
    have e0_1 := y1.cell (b0.1 1 (.slice A1 L1 c1) rfl)
    have e0_2 := y1.cell (b0.1 2 (.slice B1 M1 d1) rfl)
    have e0_3 := y1.cell (b0.1 3 (.bool s2) rfl)
    have e0_4 := y1.cell (b0.1 4 (.slice A2 L2 c2) rfl)
    have e0_5 := y1.cell (b0.1 5 (.slice B2 M2 d2) rfl)
    have e1_0 := y2.cell (b1.1 0 (.bool s3) rfl)
    have e1_1 := y2.cell (b1.1 1 (.slice A3 L3 c3) rfl)
    have e1_2 := y2.cell (b1.1 2 (.slice B3 M3 d3) rfl)
    have e1_3 := y2.cell (b1.1 3 (.bool s4) rfl)
    have e1_4 := y2.cell (b1.1 4 (.slice A4 L4 c4) rfl)
    have e1_5 := y2.cell (b1.1 5 (.slice B4 M4 d4) rfl)
    have e2_0 := b2.1 0 (.bool s5) rfl
    have e2_1 := b2.1 1 (.slice A5 L5 c5) rfl
    have e2_2 := b2.1 2 (.slice B5 M5 d5) rfl
    have e2_3 := b2.1 3 (.bool s6) rfl
    have e2_4 := b2.1 4 (.slice A6 L6 c6) rfl
    have e2_5 := b2.1 5 (.slice B6 M6 d6) rfl
    simp only [World.size_alloc] at e1_0 e1_1 e1_2 e1_3 e1_4 e1_5 e2_0 e2_1 e2_2 e2_3 e2_4 e2_5
    clear hw0 b0 b1 b2 y0 y1 y2
    go_wp2_with fail
    refine (awake6 _).mono ?_
    rintro e w1 ⟨rfl, x1⟩
    replace e0_0 := x1.cell e0_0
    replace e0_1 := x1.cell e0_1
    replace e0_2 := x1.cell e0_2
    replace e0_3 := x1.cell e0_3
    replace e0_4 := x1.cell e0_4
    replace e0_5 := x1.cell e0_5
    replace e1_0 := x1.cell e1_0
    replace e1_1 := x1.cell e1_1
    replace e1_2 := x1.cell e1_2
    replace e1_3 := x1.cell e1_3
    replace e1_4 := x1.cell e1_4
    replace e1_5 := x1.cell e1_5
    replace e2_0 := x1.cell e2_0
    replace e2_1 := x1.cell e2_1
    replace e2_2 := x1.cell e2_2
    replace e2_3 := x1.cell e2_3
    replace e2_4 := x1.cell e2_4
    replace e2_5 := x1.cell e2_5
    go_wp2_with fail
    refine (few6_no (by omega) (by omega) (by omega) (by omega) (by omega) (by omega) (by omega) (by omega) HF.out).mono ?_
    rintro e w2 ⟨rfl, x2⟩
    replace e0_0 := x2.cell e0_0
    replace e0_1 := x2.cell e0_1
    replace e0_2 := x2.cell e0_2
    replace e0_3 := x2.cell e0_3
    replace e0_4 := x2.cell e0_4
    replace e0_5 := x2.cell e0_5
    replace e1_0 := x2.cell e1_0
    replace e1_1 := x2.cell e1_1
    replace e1_2 := x2.cell e1_2
    replace e1_3 := x2.cell e1_3
    replace e1_4 := x2.cell e1_4
    replace e1_5 := x2.cell e1_5
    replace e2_0 := x2.cell e2_0
    replace e2_1 := x2.cell e2_1
    replace e2_2 := x2.cell e2_2
    replace e2_3 := x2.cell e2_3
    replace e2_4 := x2.cell e2_4
    replace e2_5 := x2.cell e2_5
    clear hsz
    go_wp2_with fail
    refine (awake6 _).mono ?_
    rintro e w3 ⟨rfl, x3⟩
    replace e0_0 := x3.cell e0_0
    replace e0_1 := x3.cell e0_1
    replace e0_2 := x3.cell e0_2
    replace e0_3 := x3.cell e0_3
    replace e0_4 := x3.cell e0_4
    replace e0_5 := x3.cell e0_5
    replace e1_0 := x3.cell e1_0
    replace e1_1 := x3.cell e1_1
    replace e1_2 := x3.cell e1_2
    replace e1_3 := x3.cell e1_3
    replace e1_4 := x3.cell e1_4
    replace e1_5 := x3.cell e1_5
    replace e2_0 := x3.cell e2_0
    replace e2_1 := x3.cell e2_1
    replace e2_2 := x3.cell e2_2
    replace e2_3 := x3.cell e2_3
    replace e2_4 := x3.cell e2_4
    replace e2_5 := x3.cell e2_5
    go_wp2_with fail
    go_ret
    exact ⟨rfl, (by repeat' (first | with_reducible exact Ext.refl _ | with_reducible assumption | with_reducible apply Ext.alloc_r | with_reducible apply Ext.drew_r | with_reducible apply Ext.drewN_r | with_reducible refine Ext.trans ?_ ‹Ext _ _›))⟩
end Go.Proofs.Ytehhkeenjlpikaa
