/- The walk of IntervalPowers. -/
import Derived.Test.YtehhkeenjlpikaaGreatPoLaw6
import Derived.Test.YtehhkeenjlpikaaGreatPoIvD
import Derived.Test.YtehhkeenjlpikaaGreatPoIvF
import Derived.Test.YtehhkeenjlpikaaGreatPoOpenV
import Derived.Test.YtehhkeenjlpikaaGreatPoPutI
import Derived.Test.YtehhkeenjlpikaaGreatPoJvH
namespace Go.Proofs.YtehhkeenjlpikaaGreat
open Go.RowKit
theorem ipow_far12 {w : World} {s1 s2 : Bool} {A1 B1 A2 B2 : Option Addr} {c1 d1 L1 M1 c2 d2 L2 M2 : Nat} (h1 : RV w s1 A1 c1 L1 B1 d1 M1 1 ((1 : Int) : Rat)) (h2 : RV w s2 A2 c2 L2 B2 d2 M2 1 ((2 : Int) : Rat)) :
    Calls Tryz.prog 43 #[Value.agg #[Value.bool s1, Value.slice A1 L1 c1, Value.slice B1 M1 d1, Value.bool s2, Value.slice A2 L2 c2, Value.slice B2 M2 d2], .int .i64 16777216] w (RetI0 w 8) := by
  obtain ⟨k, hk⟩ : ∃ k : Nat, k = 16777216 := ⟨_, rfl⟩
  have e : (16777216 : Int) = (k : Int) := by rw [hk]; rfl
  rw [e]
  have hd1 : dl 1 ≤ 40 := by rw [dl_one]; omega
  have hb1 : bl 1 ≤ 1 := bl_of_lt (by decide)
  have hb2 : 2 ≤ bl 2 := by
    rcases Nat.lt_or_ge (bl 2) 2 with h | h
    · have h5 := lt_pow_len (B := 2) (by omega) 2
      have h6 : 2 ^ (digs 2 2).length ≤ 2 ^ 1 := Nat.pow_le_pow_right (by omega) (by unfold bl at h; omega)
      omega
    · exact h
  refine ipow_far h1 h2 (by omega) (by omega) (fun j _ => ?_) ?_ ?_
  · refine ⟨?_, ?_⟩
    · show dl ((1 : Int) ^ j).natAbs ≤ 40
      rw [Int.one_pow]; exact hd1
    · show dl (1 ^ j) ≤ 40
      rw [Nat.one_pow]; exact hd1
  · show max (bl 1) (bl 1) * k ≤ 16777216
    rw [Nat.max_self]
    have h5 : bl 1 * k ≤ 1 * k := Nat.mul_le_mul_right _ hb1
    omega
  · show 16777216 < max (bl 2) (bl 1) * k
    have h5 : 2 * k ≤ max (bl 2) (bl 1) * k := Nat.mul_le_mul_right _ (Nat.le_trans hb2 (Nat.le_max_left _ _))
    omega
set_option maxHeartbeats 40000000 in
set_option maxRecDepth 100000 in
theorem intervalPowers_few {w : World} {n : Int} {s1 : Bool} {A1 B1 : Option Addr} {c1 L1 d1 M1 : Nat} {x1 : Int} {y1 : Nat} {s2 : Bool} {A2 B2 : Option Addr} {c2 L2 d2 M2 : Nat} {x2 : Int} {y2 : Nat} (h1 : RW w s1 A1 c1 L1 B1 d1 M1 x1 y1) (h2 : RW w s2 A2 c2 L2 B2 d2 M2 x2 y2) (hf : ¬ (L1 ≤ 2 ∧ M1 ≤ 2 ∧ L2 ≤ 2 ∧ M2 ≤ 2 ∧ L1 ≤ 2 ∧ M1 ≤ 2 ∧ L2 ≤ 2 ∧ M2 ≤ 2)) :
    Calls Tryz.prog 7 #[Value.agg #[Value.bool s1, Value.slice A1 L1 c1, Value.slice B1 M1 d1, Value.bool s2, Value.slice A2 L2 c2, Value.slice B2 M2 d2], .int .i64 n] w fun e w' => e = .returned (.bool true) ∧ Ext w w' := by
  have pa1 := h1.num.nv.cap
  have pb1 := h1.den.cap
  have qa1 := h1.num.nv.le
  have qb1 := h1.den.le
  have pa2 := h2.num.nv.cap
  have pb2 := h2.den.cap
  have qa2 := h2.num.nv.le
  have qb2 := h2.den.le
  have HN := Lib.hid hf
  clear hf
  go_enter Tryz.func7, Tryz.ntmps7
  go_wp2_with fail
  obtain ⟨w0, hw0⟩ : ∃ z : World, z = (w.alloc (.cells #[.bool s1, .slice A1 L1 c1, .slice B1 M1 d1, .bool s2, .slice A2 L2 c2, .slice B2 M2 d2] 29)) := ⟨_, rfl⟩
  rw [← hw0]
  have b0 := box_at w #[.bool s1, .slice A1 L1 c1, .slice B1 M1 d1, .bool s2, .slice A2 L2 c2, .slice B2 M2 d2] 29
  have hsz : w0.heap.size = w.heap.size + 1 := by rw [hw0]; simp
  rw [← hw0] at b0
  have y0 : Ext w w0 := by rw [hw0]; exact Ext.alloc _ _
  have x0 : Ext w w0 := y0
  have e0_0 := b0.1 0 (.bool s1) rfl
  have e0_1 := b0.1 1 (.slice A1 L1 c1) rfl
  have e0_2 := b0.1 2 (.slice B1 M1 d1) rfl
  have e0_3 := b0.1 3 (.bool s2) rfl
  have e0_4 := b0.1 4 (.slice A2 L2 c2) rfl
  have e0_5 := b0.1 5 (.slice B2 M2 d2) rfl
  clear hw0 b0 y0
  go_wp2_with fail
  refine (awake6 _).mono ?_
  rintro e w1 ⟨rfl, x1⟩
  replace e0_0 := x1.cell e0_0
  replace e0_1 := x1.cell e0_1
  replace e0_2 := x1.cell e0_2
  replace e0_3 := x1.cell e0_3
  replace e0_4 := x1.cell e0_4
  replace e0_5 := x1.cell e0_5
  go_wp2_with fail
  refine (few6_no (by omega) (by omega) (by omega) (by omega) (by omega) (by omega) (by omega) (by omega) HN.out).mono ?_
  rintro e w2 ⟨rfl, x2⟩
  replace e0_0 := x2.cell e0_0
  replace e0_1 := x2.cell e0_1
  replace e0_2 := x2.cell e0_2
  replace e0_3 := x2.cell e0_3
  replace e0_4 := x2.cell e0_4
  replace e0_5 := x2.cell e0_5
  clear hsz
  go_wp2_with fail
  refine (awake6 _).mono ?_
  rintro e w3 ⟨rfl, x3⟩
  replace e0_0 := x3.cell e0_0
  replace e0_1 := x3.cell e0_1
  replace e0_2 := x3.cell e0_2
  replace e0_3 := x3.cell e0_3
  replace e0_4 := x3.cell e0_4
  replace e0_5 := x3.cell e0_5
  go_wp2_with fail
  go_ret
  exact ⟨rfl, (by with_reducible repeat' first | exact Ext.refl _ | assumption | apply Ext.alloc_r | apply Ext.drew_r | apply Ext.drewN_r | refine Ext.trans ?_ ‹Ext _ _›)⟩
set_option maxHeartbeats 40000000 in
set_option maxRecDepth 100000 in
theorem intervalPowers_big {w : World} {n : Int} {s1 : Bool} {A1 B1 : Option Addr} {c1 L1 d1 M1 : Nat} {x1 : Int} {y1 : Nat} {s2 : Bool} {A2 B2 : Option Addr} {c2 L2 d2 M2 : Nat} {x2 : Int} {y2 : Nat} (h1 : RW w s1 A1 c1 L1 B1 d1 M1 x1 y1) (h2 : RW w s2 A2 c2 L2 B2 d2 M2 x2 y2) (hf : L1 ≤ 2 ∧ M1 ≤ 2 ∧ L2 ≤ 2 ∧ M2 ≤ 2 ∧ L1 ≤ 2 ∧ M1 ≤ 2 ∧ L2 ≤ 2 ∧ M2 ≤ 2) (hn : 12 < n) :
    Calls Tryz.prog 7 #[Value.agg #[Value.bool s1, Value.slice A1 L1 c1, Value.slice B1 M1 d1, Value.bool s2, Value.slice A2 L2 c2, Value.slice B2 M2 d2], .int .i64 n] w fun e w' => e = .returned (.bool true) ∧ Ext w w' := by
  have pa1 := h1.num.nv.cap
  have pb1 := h1.den.cap
  have qa1 := h1.num.nv.le
  have qb1 := h1.den.le
  have pa2 := h2.num.nv.cap
  have pb2 := h2.den.cap
  have qa2 := h2.num.nv.le
  have qb2 := h2.den.le
  have HF := Lib.hid hf
  have hnd : decide (n > 12) = true := decide_eq_true hn
  have hnd2 : decide (12 < n) = true := decide_eq_true hn
  clear hf
  go_enter Tryz.func7, Tryz.ntmps7
  go_wp2_with fail
  obtain ⟨w0, hw0⟩ : ∃ z : World, z = (w.alloc (.cells #[.bool s1, .slice A1 L1 c1, .slice B1 M1 d1, .bool s2, .slice A2 L2 c2, .slice B2 M2 d2] 29)) := ⟨_, rfl⟩
  rw [← hw0]
  have b0 := box_at w #[.bool s1, .slice A1 L1 c1, .slice B1 M1 d1, .bool s2, .slice A2 L2 c2, .slice B2 M2 d2] 29
  have hsz : w0.heap.size = w.heap.size + 1 := by rw [hw0]; simp
  rw [← hw0] at b0
  have y0 : Ext w w0 := by rw [hw0]; exact Ext.alloc _ _
  have x0 : Ext w w0 := y0
  have e0_0 := b0.1 0 (.bool s1) rfl
  have e0_1 := b0.1 1 (.slice A1 L1 c1) rfl
  have e0_2 := b0.1 2 (.slice B1 M1 d1) rfl
  have e0_3 := b0.1 3 (.bool s2) rfl
  have e0_4 := b0.1 4 (.slice A2 L2 c2) rfl
  have e0_5 := b0.1 5 (.slice B2 M2 d2) rfl
  clear hw0 b0 y0
  go_wp2_with fail
  refine (awake6 _).mono ?_
  rintro e w1 ⟨rfl, x1⟩
  replace e0_0 := x1.cell e0_0
  replace e0_1 := x1.cell e0_1
  replace e0_2 := x1.cell e0_2
  replace e0_3 := x1.cell e0_3
  replace e0_4 := x1.cell e0_4
  replace e0_5 := x1.cell e0_5
  go_wp2_with fail
  refine (few6_yes (by omega) (by omega) (by omega) (by omega) (by omega) (by omega) (by omega) (by omega) HF.out).mono ?_
  rintro e w2 ⟨rfl, x2⟩
  replace e0_0 := x2.cell e0_0
  replace e0_1 := x2.cell e0_1
  replace e0_2 := x2.cell e0_2
  replace e0_3 := x2.cell e0_3
  replace e0_4 := x2.cell e0_4
  replace e0_5 := x2.cell e0_5
  clear hsz HF
  go_wp2_with fail
  refine (awake6 _).mono ?_
  rintro e w3 ⟨rfl, x3⟩
  replace e0_0 := x3.cell e0_0
  replace e0_1 := x3.cell e0_1
  replace e0_2 := x3.cell e0_2
  replace e0_3 := x3.cell e0_3
  replace e0_4 := x3.cell e0_4
  replace e0_5 := x3.cell e0_5
  go_wp2_with fail
  go_ret
  exact ⟨rfl, (by with_reducible repeat' first | exact Ext.refl _ | assumption | apply Ext.alloc_r | apply Ext.drew_r | apply Ext.drewN_r | refine Ext.trans ?_ ‹Ext _ _›)⟩
set_option maxHeartbeats 40000000 in
set_option maxRecDepth 100000 in
theorem intervalPowers_neg {w : World} {n : Int} {s1 : Bool} {A1 B1 : Option Addr} {c1 L1 d1 M1 : Nat} {x1 : Int} {y1 : Nat} {s2 : Bool} {A2 B2 : Option Addr} {c2 L2 d2 M2 : Nat} {x2 : Int} {y2 : Nat} (h1 : RW w s1 A1 c1 L1 B1 d1 M1 x1 y1) (h2 : RW w s2 A2 c2 L2 B2 d2 M2 x2 y2) (hf : L1 ≤ 2 ∧ M1 ≤ 2 ∧ L2 ≤ 2 ∧ M2 ≤ 2 ∧ L1 ≤ 2 ∧ M1 ≤ 2 ∧ L2 ≤ 2 ∧ M2 ≤ 2) (hn : n < 0) :
    Calls Tryz.prog 7 #[Value.agg #[Value.bool s1, Value.slice A1 L1 c1, Value.slice B1 M1 d1, Value.bool s2, Value.slice A2 L2 c2, Value.slice B2 M2 d2], .int .i64 n] w fun e w' => e = .returned (.bool true) ∧ Ext w w' := by
  have pa1 := h1.num.nv.cap
  have pb1 := h1.den.cap
  have qa1 := h1.num.nv.le
  have qb1 := h1.den.le
  have pa2 := h2.num.nv.cap
  have pb2 := h2.den.cap
  have qa2 := h2.num.nv.le
  have qb2 := h2.den.le
  have HF := Lib.hid hf
  have hnd : decide (n > 12) = false := decide_eq_false (by omega)
  have hnd2 : decide (12 < n) = false := decide_eq_false (by omega)
  have hn2 : ¬ 12 < n := by omega
  clear hf
  go_enter Tryz.func7, Tryz.ntmps7
  go_wp2_with fail
  obtain ⟨w0, hw0⟩ : ∃ z : World, z = (w.alloc (.cells #[.bool s1, .slice A1 L1 c1, .slice B1 M1 d1, .bool s2, .slice A2 L2 c2, .slice B2 M2 d2] 29)) := ⟨_, rfl⟩
  rw [← hw0]
  have b0 := box_at w #[.bool s1, .slice A1 L1 c1, .slice B1 M1 d1, .bool s2, .slice A2 L2 c2, .slice B2 M2 d2] 29
  have hsz : w0.heap.size = w.heap.size + 1 := by rw [hw0]; simp
  rw [← hw0] at b0
  have y0 : Ext w w0 := by rw [hw0]; exact Ext.alloc _ _
  have x0 : Ext w w0 := y0
  have e0_0 := b0.1 0 (.bool s1) rfl
  have e0_1 := b0.1 1 (.slice A1 L1 c1) rfl
  have e0_2 := b0.1 2 (.slice B1 M1 d1) rfl
  have e0_3 := b0.1 3 (.bool s2) rfl
  have e0_4 := b0.1 4 (.slice A2 L2 c2) rfl
  have e0_5 := b0.1 5 (.slice B2 M2 d2) rfl
  clear hw0 b0 y0
  go_wp2_with fail
  refine (awake6 _).mono ?_
  rintro e w1 ⟨rfl, x1⟩
  replace e0_0 := x1.cell e0_0
  replace e0_1 := x1.cell e0_1
  replace e0_2 := x1.cell e0_2
  replace e0_3 := x1.cell e0_3
  replace e0_4 := x1.cell e0_4
  replace e0_5 := x1.cell e0_5
  go_wp2_with fail
  refine (few6_yes (by omega) (by omega) (by omega) (by omega) (by omega) (by omega) (by omega) (by omega) HF.out).mono ?_
  rintro e w2 ⟨rfl, x2⟩
  replace e0_0 := x2.cell e0_0
  replace e0_1 := x2.cell e0_1
  replace e0_2 := x2.cell e0_2
  replace e0_3 := x2.cell e0_3
  replace e0_4 := x2.cell e0_4
  replace e0_5 := x2.cell e0_5
  clear hsz HF
  go_wp2_with fail
  refine (ipow_neg hn).mono ?_
  rintro e w3 ⟨rfl, x3⟩
  replace e0_0 := x3.cell e0_0
  replace e0_1 := x3.cell e0_1
  replace e0_2 := x3.cell e0_2
  replace e0_3 := x3.cell e0_3
  replace e0_4 := x3.cell e0_4
  replace e0_5 := x3.cell e0_5
  have te0_0 := fun o => (Ext.alloc w3 o).cell e0_0
  have te0_1 := fun o => (Ext.alloc w3 o).cell e0_1
  have te0_2 := fun o => (Ext.alloc w3 o).cell e0_2
  have te0_3 := fun o => (Ext.alloc w3 o).cell e0_3
  have te0_4 := fun o => (Ext.alloc w3 o).cell e0_4
  have te0_5 := fun o => (Ext.alloc w3 o).cell e0_5
  go_wp2_with fail
  clear te0_0 te0_1 te0_2 te0_3 te0_4 te0_5
  obtain ⟨w4, hw⟩ : ∃ z : World, z = (w3.alloc (.cells #[.bool false, .slice none 0 0, .slice none 0 0, .bool false, .slice none 0 0, .slice none 0 0] 29)) := ⟨_, rfl⟩
  rw [← hw]
  have x4 : Ext w3 w4 := by rw [hw]; exact Ext.alloc _ _
  have bb := box_at w3 #[.bool false, .slice none 0 0, .slice none 0 0, .bool false, .slice none 0 0, .slice none 0 0] 29
  rw [← hw] at bb
  replace e0_0 := x4.cell e0_0
  replace e0_1 := x4.cell e0_1
  replace e0_2 := x4.cell e0_2
  replace e0_3 := x4.cell e0_3
  replace e0_4 := x4.cell e0_4
  replace e0_5 := x4.cell e0_5
  have p_0 := bb.1 0 (.bool false) rfl
  have p_1 := bb.1 1 (.slice none 0 0) rfl
  have p_2 := bb.1 2 (.slice none 0 0) rfl
  have p_3 := bb.1 3 (.bool false) rfl
  have p_4 := bb.1 4 (.slice none 0 0) rfl
  have p_5 := bb.1 5 (.slice none 0 0) rfl
  clear hw bb
  go_wp2_with fail
  refine (rof_r (n := 1) (by omega)).mono ?_
  rintro e w5 ⟨sta, Ata, cta, Lta, Bta, dta, Mta, rfl, ta, x5⟩
  replace e0_0 := x5.cell e0_0
  replace e0_1 := x5.cell e0_1
  replace e0_2 := x5.cell e0_2
  replace e0_3 := x5.cell e0_3
  replace e0_4 := x5.cell e0_4
  replace e0_5 := x5.cell e0_5
  replace p_0 := x5.cell p_0
  replace p_1 := x5.cell p_1
  replace p_2 := x5.cell p_2
  replace p_3 := x5.cell p_3
  replace p_4 := x5.cell p_4
  replace p_5 := x5.cell p_5
  have HTA := Lib.hid ta.rv
  clear ta
  go_wp2_with fail
  refine (rof_r (n := 2) (by omega)).mono ?_
  rintro e w6 ⟨stb, Atb, ctb, Ltb, Btb, dtb, Mtb, rfl, tb, x6⟩
  replace e0_0 := x6.cell e0_0
  replace e0_1 := x6.cell e0_1
  replace e0_2 := x6.cell e0_2
  replace e0_3 := x6.cell e0_3
  replace e0_4 := x6.cell e0_4
  replace e0_5 := x6.cell e0_5
  replace p_0 := x6.cell p_0
  replace p_1 := x6.cell p_1
  replace p_2 := x6.cell p_2
  replace p_3 := x6.cell p_3
  replace p_4 := x6.cell p_4
  replace p_5 := x6.cell p_5
  have HTB := Lib.hid tb.rv
  clear tb
  have te0_0 := fun o => (Ext.alloc w6 o).cell e0_0
  have te0_1 := fun o => (Ext.alloc w6 o).cell e0_1
  have te0_2 := fun o => (Ext.alloc w6 o).cell e0_2
  have te0_3 := fun o => (Ext.alloc w6 o).cell e0_3
  have te0_4 := fun o => (Ext.alloc w6 o).cell e0_4
  have te0_5 := fun o => (Ext.alloc w6 o).cell e0_5
  have tp_0 := fun o => (Ext.alloc w6 o).cell p_0
  have tp_1 := fun o => (Ext.alloc w6 o).cell p_1
  have tp_2 := fun o => (Ext.alloc w6 o).cell p_2
  have tp_3 := fun o => (Ext.alloc w6 o).cell p_3
  have tp_4 := fun o => (Ext.alloc w6 o).cell p_4
  have tp_5 := fun o => (Ext.alloc w6 o).cell p_5
  go_wp2_with fail
  clear te0_0 te0_1 te0_2 te0_3 te0_4 te0_5 tp_0 tp_1 tp_2 tp_3 tp_4 tp_5
  obtain ⟨w7, hw⟩ : ∃ z : World, z = (w6.alloc (.cells #[.bool sta, .slice Ata Lta cta, .slice Bta Mta dta, .bool stb, .slice Atb Ltb ctb, .slice Btb Mtb dtb] 29)) := ⟨_, rfl⟩
  rw [← hw]
  have x7 : Ext w6 w7 := by rw [hw]; exact Ext.alloc _ _
  have bb := box_at w6 #[.bool sta, .slice Ata Lta cta, .slice Bta Mta dta, .bool stb, .slice Atb Ltb ctb, .slice Btb Mtb dtb] 29
  rw [← hw] at bb
  replace e0_0 := x7.cell e0_0
  replace e0_1 := x7.cell e0_1
  replace e0_2 := x7.cell e0_2
  replace e0_3 := x7.cell e0_3
  replace e0_4 := x7.cell e0_4
  replace e0_5 := x7.cell e0_5
  replace p_0 := x7.cell p_0
  replace p_1 := x7.cell p_1
  replace p_2 := x7.cell p_2
  replace p_3 := x7.cell p_3
  replace p_4 := x7.cell p_4
  replace p_5 := x7.cell p_5
  have two_0 := bb.1 0 (.bool sta) rfl
  have two_1 := bb.1 1 (.slice Ata Lta cta) rfl
  have two_2 := bb.1 2 (.slice Bta Mta dta) rfl
  have two_3 := bb.1 3 (.bool stb) rfl
  have two_4 := bb.1 4 (.slice Atb Ltb ctb) rfl
  have two_5 := bb.1 5 (.slice Btb Mtb dtb) rfl
  clear hw bb
  have HFAR : Hid (∀ w', Ext w7 w' → Calls Tryz.prog 43 #[Value.agg #[Value.bool sta, Value.slice Ata Lta cta, Value.slice Bta Mta dta, Value.bool stb, Value.slice Atb Ltb ctb, Value.slice Btb Mtb dtb], .int .i64 16777216] w' (RetI0 w' 8)) := fun w' hx => ipow_far12 (HTA.out.ext ((show Ext _ w7 from (by with_reducible repeat' first | exact Ext.refl _ | assumption | apply Ext.alloc_r | apply Ext.drew_r | apply Ext.drewN_r | refine Ext.trans ?_ ‹Ext _ _›)).trans hx)) (HTB.out.ext ((show Ext _ w7 from (by with_reducible repeat' first | exact Ext.refl _ | assumption | apply Ext.alloc_r | apply Ext.drew_r | apply Ext.drewN_r | refine Ext.trans ?_ ‹Ext _ _›)).trans hx))
  clear HTA HTB
  go_wp2_with fail
  refine (HFAR.out _ (by with_reducible repeat' first | exact Ext.refl _ | assumption | apply Ext.alloc_r | apply Ext.drew_r | apply Ext.drewN_r | refine Ext.trans ?_ ‹Ext _ _›)).mono ?_
  rintro e w8 ⟨rfl, x8⟩
  replace e0_0 := x8.cell e0_0
  replace e0_1 := x8.cell e0_1
  replace e0_2 := x8.cell e0_2
  replace e0_3 := x8.cell e0_3
  replace e0_4 := x8.cell e0_4
  replace e0_5 := x8.cell e0_5
  replace p_0 := x8.cell p_0
  replace p_1 := x8.cell p_1
  replace p_2 := x8.cell p_2
  replace p_3 := x8.cell p_3
  replace p_4 := x8.cell p_4
  replace p_5 := x8.cell p_5
  replace two_0 := x8.cell two_0
  replace two_1 := x8.cell two_1
  replace two_2 := x8.cell two_2
  replace two_3 := x8.cell two_3
  replace two_4 := x8.cell two_4
  replace two_5 := x8.cell two_5
  clear HFAR
  have te0_0 := fun o => (Ext.alloc w8 o).cell e0_0
  have te0_1 := fun o => (Ext.alloc w8 o).cell e0_1
  have te0_2 := fun o => (Ext.alloc w8 o).cell e0_2
  have te0_3 := fun o => (Ext.alloc w8 o).cell e0_3
  have te0_4 := fun o => (Ext.alloc w8 o).cell e0_4
  have te0_5 := fun o => (Ext.alloc w8 o).cell e0_5
  have tp_0 := fun o => (Ext.alloc w8 o).cell p_0
  have tp_1 := fun o => (Ext.alloc w8 o).cell p_1
  have tp_2 := fun o => (Ext.alloc w8 o).cell p_2
  have tp_3 := fun o => (Ext.alloc w8 o).cell p_3
  have tp_4 := fun o => (Ext.alloc w8 o).cell p_4
  have tp_5 := fun o => (Ext.alloc w8 o).cell p_5
  have ttwo_0 := fun o => (Ext.alloc w8 o).cell two_0
  have ttwo_1 := fun o => (Ext.alloc w8 o).cell two_1
  have ttwo_2 := fun o => (Ext.alloc w8 o).cell two_2
  have ttwo_3 := fun o => (Ext.alloc w8 o).cell two_3
  have ttwo_4 := fun o => (Ext.alloc w8 o).cell two_4
  have ttwo_5 := fun o => (Ext.alloc w8 o).cell two_5
  go_wp2_with fail
  clear te0_0 te0_1 te0_2 te0_3 te0_4 te0_5 tp_0 tp_1 tp_2 tp_3 tp_4 tp_5 ttwo_0 ttwo_1 ttwo_2 ttwo_3 ttwo_4 ttwo_5
  obtain ⟨w9, hw⟩ : ∃ z : World, z = (w8.alloc (.cells #[.bool false, .slice none 0 0, .slice none 0 0, .bool false, .slice none 0 0, .slice none 0 0] 29)) := ⟨_, rfl⟩
  rw [← hw]
  have x9 : Ext w8 w9 := by rw [hw]; exact Ext.alloc _ _
  have bb := box_at w8 #[.bool false, .slice none 0 0, .slice none 0 0, .bool false, .slice none 0 0, .slice none 0 0] 29
  rw [← hw] at bb
  replace e0_0 := x9.cell e0_0
  replace e0_1 := x9.cell e0_1
  replace e0_2 := x9.cell e0_2
  replace e0_3 := x9.cell e0_3
  replace e0_4 := x9.cell e0_4
  replace e0_5 := x9.cell e0_5
  replace p_0 := x9.cell p_0
  replace p_1 := x9.cell p_1
  replace p_2 := x9.cell p_2
  replace p_3 := x9.cell p_3
  replace p_4 := x9.cell p_4
  replace p_5 := x9.cell p_5
  replace two_0 := x9.cell two_0
  replace two_1 := x9.cell two_1
  replace two_2 := x9.cell two_2
  replace two_3 := x9.cell two_3
  replace two_4 := x9.cell two_4
  replace two_5 := x9.cell two_5
  have far_0 := bb.1 0 (.bool false) rfl
  have far_1 := bb.1 1 (.slice none 0 0) rfl
  have far_2 := bb.1 2 (.slice none 0 0) rfl
  have far_3 := bb.1 3 (.bool false) rfl
  have far_4 := bb.1 4 (.slice none 0 0) rfl
  have far_5 := bb.1 5 (.slice none 0 0) rfl
  clear hw bb
  go_wp2_with fail
  refine (none6).mono ?_
  rintro e w10 ⟨rfl, x10⟩
  replace e0_0 := x10.cell e0_0
  replace e0_1 := x10.cell e0_1
  replace e0_2 := x10.cell e0_2
  replace e0_3 := x10.cell e0_3
  replace e0_4 := x10.cell e0_4
  replace e0_5 := x10.cell e0_5
  replace p_0 := x10.cell p_0
  replace p_1 := x10.cell p_1
  replace p_2 := x10.cell p_2
  replace p_3 := x10.cell p_3
  replace p_4 := x10.cell p_4
  replace p_5 := x10.cell p_5
  replace two_0 := x10.cell two_0
  replace two_1 := x10.cell two_1
  replace two_2 := x10.cell two_2
  replace two_3 := x10.cell two_3
  replace two_4 := x10.cell two_4
  replace two_5 := x10.cell two_5
  replace far_0 := x10.cell far_0
  replace far_1 := x10.cell far_1
  replace far_2 := x10.cell far_2
  replace far_3 := x10.cell far_3
  replace far_4 := x10.cell far_4
  replace far_5 := x10.cell far_5
  go_wp2_with fail
  go_ret
  exact ⟨rfl, (by with_reducible repeat' first | exact Ext.refl _ | assumption | apply Ext.alloc_r | apply Ext.drew_r | apply Ext.drewN_r | refine Ext.trans ?_ ‹Ext _ _›)⟩
set_option maxHeartbeats 40000000 in
set_option maxRecDepth 100000 in
theorem intervalPowers_pos {w : World} {s1 : Bool} {A1 B1 : Option Addr} {c1 L1 d1 M1 : Nat} {x1 : Int} {y1 : Nat} {s2 : Bool} {A2 B2 : Option Addr} {c2 L2 d2 M2 : Nat} {x2 : Int} {y2 : Nat} (h1 : RW w s1 A1 c1 L1 B1 d1 M1 x1 y1) (h2 : RW w s2 A2 c2 L2 B2 d2 M2 x2 y2) {k : Nat} (hf : L1 ≤ 2 ∧ M1 ≤ 2 ∧ L2 ≤ 2 ∧ M2 ≤ 2 ∧ L1 ≤ 2 ∧ M1 ≤ 2 ∧ L2 ≤ 2 ∧ M2 ≤ 2) (hk : k ≤ 12) :
    Calls Tryz.prog 7 #[Value.agg #[Value.bool s1, Value.slice A1 L1 c1, Value.slice B1 M1 d1, Value.bool s2, Value.slice A2 L2 c2, Value.slice B2 M2 d2], .int .i64 k] w fun e w' => e = .returned (.bool true) ∧ Ext w w' := by
  have pa1 := h1.num.nv.cap
  have pb1 := h1.den.cap
  have qa1 := h1.num.nv.le
  have qb1 := h1.den.le
  have pa2 := h2.num.nv.cap
  have pb2 := h2.den.cap
  have qa2 := h2.num.nv.le
  have qb2 := h2.den.le
  have hnd : decide ((k : Int) > 12) = false := decide_eq_false (by omega)
  have hnd2 : decide (12 < k) = false := decide_eq_false (by omega)
  have hnd3 : decide ((k : Int) < 0) = false := decide_eq_false (by omega)
  have HF := Lib.hid hf
  have e1 := h1.rv (N := 2) (by omega) (by omega) (by omega)
  have e2 := h2.rv (N := 2) (by omega) (by omega) (by omega)
  have HO1 : Hid (∀ w', Ext w w' → Calls Tryz.prog 10 #[Value.agg #[Value.bool s1, Value.slice A1 L1 c1, Value.slice B1 M1 d1, Value.bool s2, Value.slice A2 L2 c2, Value.slice B2 M2 d2]] w' (RetJ w' 64 (minQ (mkRat x1 y1) (mkRat x2 y2)) (maxQ (mkRat x1 y1) (mkRat x2 y2)))) := fun w' hx => lof6 (h1.ext hx) (h2.ext hx) (by omega) (by omega) (by omega) (by omega) (by omega) (by omega)
  generalize mkRat x1 y1 = q1 at *
  generalize mkRat x2 y2 = q2 at *
  clear hf h1 h2
  have HPN := Lib.hid (plo_norm q1 q2 k)
  have HMM : Hid (minQ q1 q2 ≤ maxQ q1 q2) := min_le_max _ _
  go_enter Tryz.func7, Tryz.ntmps7
  go_wp2_with fail
  obtain ⟨w0, hw0⟩ : ∃ z : World, z = (w.alloc (.cells #[.bool s1, .slice A1 L1 c1, .slice B1 M1 d1, .bool s2, .slice A2 L2 c2, .slice B2 M2 d2] 29)) := ⟨_, rfl⟩
  rw [← hw0]
  have b0 := box_at w #[.bool s1, .slice A1 L1 c1, .slice B1 M1 d1, .bool s2, .slice A2 L2 c2, .slice B2 M2 d2] 29
  have hsz : w0.heap.size = w.heap.size + 1 := by rw [hw0]; simp
  rw [← hw0] at b0
  have y0 : Ext w w0 := by rw [hw0]; exact Ext.alloc _ _
  have x0 : Ext w w0 := y0
  have e0_0 := b0.1 0 (.bool s1) rfl
  have e0_1 := b0.1 1 (.slice A1 L1 c1) rfl
  have e0_2 := b0.1 2 (.slice B1 M1 d1) rfl
  have e0_3 := b0.1 3 (.bool s2) rfl
  have e0_4 := b0.1 4 (.slice A2 L2 c2) rfl
  have e0_5 := b0.1 5 (.slice B2 M2 d2) rfl
  clear hw0 b0 y0
  go_wp2_with fail
  refine (awake6 _).mono ?_
  rintro e w1 ⟨rfl, x1⟩
  replace e0_0 := x1.cell e0_0
  replace e0_1 := x1.cell e0_1
  replace e0_2 := x1.cell e0_2
  replace e0_3 := x1.cell e0_3
  replace e0_4 := x1.cell e0_4
  replace e0_5 := x1.cell e0_5
  go_wp2_with fail
  refine (few6_yes (by omega) (by omega) (by omega) (by omega) (by omega) (by omega) (by omega) (by omega) HF.out).mono ?_
  rintro e w2 ⟨rfl, x2⟩
  replace e0_0 := x2.cell e0_0
  replace e0_1 := x2.cell e0_1
  replace e0_2 := x2.cell e0_2
  replace e0_3 := x2.cell e0_3
  replace e0_4 := x2.cell e0_4
  replace e0_5 := x2.cell e0_5
  clear hsz HF
  go_wp2_with fail
  refine (ipow_r (k := k) (e1.ext (by with_reducible repeat' first | exact Ext.refl _ | assumption | apply Ext.alloc_r | apply Ext.drew_r | apply Ext.drewN_r | refine Ext.trans ?_ ‹Ext _ _›)) (e2.ext (by with_reducible repeat' first | exact Ext.refl _ | assumption | apply Ext.alloc_r | apply Ext.drew_r | apply Ext.drewN_r | refine Ext.trans ?_ ‹Ext _ _›)) (by omega) (by omega) (by omega)).mono ?_
  rintro e w3 ⟨spa, Apa, cpa, Lpa, Bpa, dpa, Mpa, spb, Apb, cpb, Lpb, Bpb, dpb, Mpb, rfl, pa, pb, x3⟩
  replace e0_0 := x3.cell e0_0
  replace e0_1 := x3.cell e0_1
  replace e0_2 := x3.cell e0_2
  replace e0_3 := x3.cell e0_3
  replace e0_4 := x3.cell e0_4
  replace e0_5 := x3.cell e0_5
  have HPP := Lib.hid (And.intro pa pb)
  clear pa pb
  have te0_0 := fun o => (Ext.alloc w3 o).cell e0_0
  have te0_1 := fun o => (Ext.alloc w3 o).cell e0_1
  have te0_2 := fun o => (Ext.alloc w3 o).cell e0_2
  have te0_3 := fun o => (Ext.alloc w3 o).cell e0_3
  have te0_4 := fun o => (Ext.alloc w3 o).cell e0_4
  have te0_5 := fun o => (Ext.alloc w3 o).cell e0_5
  go_wp2_with fail
  clear te0_0 te0_1 te0_2 te0_3 te0_4 te0_5
  obtain ⟨w4, hw⟩ : ∃ z : World, z = (w3.alloc (.cells #[.bool spa, .slice Apa Lpa cpa, .slice Bpa Mpa dpa, .bool spb, .slice Apb Lpb cpb, .slice Bpb Mpb dpb] 29)) := ⟨_, rfl⟩
  rw [← hw]
  have x4 : Ext w3 w4 := by rw [hw]; exact Ext.alloc _ _
  have bb := box_at w3 #[.bool spa, .slice Apa Lpa cpa, .slice Bpa Mpa dpa, .bool spb, .slice Apb Lpb cpb, .slice Bpb Mpb dpb] 29
  rw [← hw] at bb
  replace e0_0 := x4.cell e0_0
  replace e0_1 := x4.cell e0_1
  replace e0_2 := x4.cell e0_2
  replace e0_3 := x4.cell e0_3
  replace e0_4 := x4.cell e0_4
  replace e0_5 := x4.cell e0_5
  have p_0 := bb.1 0 (.bool spa) rfl
  have p_1 := bb.1 1 (.slice Apa Lpa cpa) rfl
  have p_2 := bb.1 2 (.slice Bpa Mpa dpa) rfl
  have p_3 := bb.1 3 (.bool spb) rfl
  have p_4 := bb.1 4 (.slice Apb Lpb cpb) rfl
  have p_5 := bb.1 5 (.slice Bpb Mpb dpb) rfl
  clear hw bb
  have pa := HPP.out.1
  have pb := HPP.out.2
  go_wp2_with fail
  refine (rof_r (n := 1) (by omega)).mono ?_
  rintro e w5 ⟨sta, Ata, cta, Lta, Bta, dta, Mta, rfl, ta, x5⟩
  replace e0_0 := x5.cell e0_0
  replace e0_1 := x5.cell e0_1
  replace e0_2 := x5.cell e0_2
  replace e0_3 := x5.cell e0_3
  replace e0_4 := x5.cell e0_4
  replace e0_5 := x5.cell e0_5
  replace p_0 := x5.cell p_0
  replace p_1 := x5.cell p_1
  replace p_2 := x5.cell p_2
  replace p_3 := x5.cell p_3
  replace p_4 := x5.cell p_4
  replace p_5 := x5.cell p_5
  have HTA := Lib.hid ta.rv
  clear ta
  go_wp2_with fail
  refine (rof_r (n := 2) (by omega)).mono ?_
  rintro e w6 ⟨stb, Atb, ctb, Ltb, Btb, dtb, Mtb, rfl, tb, x6⟩
  replace e0_0 := x6.cell e0_0
  replace e0_1 := x6.cell e0_1
  replace e0_2 := x6.cell e0_2
  replace e0_3 := x6.cell e0_3
  replace e0_4 := x6.cell e0_4
  replace e0_5 := x6.cell e0_5
  replace p_0 := x6.cell p_0
  replace p_1 := x6.cell p_1
  replace p_2 := x6.cell p_2
  replace p_3 := x6.cell p_3
  replace p_4 := x6.cell p_4
  replace p_5 := x6.cell p_5
  have HTB := Lib.hid tb.rv
  clear tb
  have te0_0 := fun o => (Ext.alloc w6 o).cell e0_0
  have te0_1 := fun o => (Ext.alloc w6 o).cell e0_1
  have te0_2 := fun o => (Ext.alloc w6 o).cell e0_2
  have te0_3 := fun o => (Ext.alloc w6 o).cell e0_3
  have te0_4 := fun o => (Ext.alloc w6 o).cell e0_4
  have te0_5 := fun o => (Ext.alloc w6 o).cell e0_5
  have tp_0 := fun o => (Ext.alloc w6 o).cell p_0
  have tp_1 := fun o => (Ext.alloc w6 o).cell p_1
  have tp_2 := fun o => (Ext.alloc w6 o).cell p_2
  have tp_3 := fun o => (Ext.alloc w6 o).cell p_3
  have tp_4 := fun o => (Ext.alloc w6 o).cell p_4
  have tp_5 := fun o => (Ext.alloc w6 o).cell p_5
  go_wp2_with fail
  clear te0_0 te0_1 te0_2 te0_3 te0_4 te0_5 tp_0 tp_1 tp_2 tp_3 tp_4 tp_5
  obtain ⟨w7, hw⟩ : ∃ z : World, z = (w6.alloc (.cells #[.bool sta, .slice Ata Lta cta, .slice Bta Mta dta, .bool stb, .slice Atb Ltb ctb, .slice Btb Mtb dtb] 29)) := ⟨_, rfl⟩
  rw [← hw]
  have x7 : Ext w6 w7 := by rw [hw]; exact Ext.alloc _ _
  have bb := box_at w6 #[.bool sta, .slice Ata Lta cta, .slice Bta Mta dta, .bool stb, .slice Atb Ltb ctb, .slice Btb Mtb dtb] 29
  rw [← hw] at bb
  replace e0_0 := x7.cell e0_0
  replace e0_1 := x7.cell e0_1
  replace e0_2 := x7.cell e0_2
  replace e0_3 := x7.cell e0_3
  replace e0_4 := x7.cell e0_4
  replace e0_5 := x7.cell e0_5
  replace p_0 := x7.cell p_0
  replace p_1 := x7.cell p_1
  replace p_2 := x7.cell p_2
  replace p_3 := x7.cell p_3
  replace p_4 := x7.cell p_4
  replace p_5 := x7.cell p_5
  have two_0 := bb.1 0 (.bool sta) rfl
  have two_1 := bb.1 1 (.slice Ata Lta cta) rfl
  have two_2 := bb.1 2 (.slice Bta Mta dta) rfl
  have two_3 := bb.1 3 (.bool stb) rfl
  have two_4 := bb.1 4 (.slice Atb Ltb ctb) rfl
  have two_5 := bb.1 5 (.slice Btb Mtb dtb) rfl
  clear hw bb
  have HFAR : Hid (∀ w', Ext w7 w' → Calls Tryz.prog 43 #[Value.agg #[Value.bool sta, Value.slice Ata Lta cta, Value.slice Bta Mta dta, Value.bool stb, Value.slice Atb Ltb ctb, Value.slice Btb Mtb dtb], .int .i64 16777216] w' (RetI0 w' 8)) := fun w' hx => ipow_far12 (HTA.out.ext ((show Ext _ w7 from (by with_reducible repeat' first | exact Ext.refl _ | assumption | apply Ext.alloc_r | apply Ext.drew_r | apply Ext.drewN_r | refine Ext.trans ?_ ‹Ext _ _›)).trans hx)) (HTB.out.ext ((show Ext _ w7 from (by with_reducible repeat' first | exact Ext.refl _ | assumption | apply Ext.alloc_r | apply Ext.drew_r | apply Ext.drewN_r | refine Ext.trans ?_ ‹Ext _ _›)).trans hx))
  clear HTA HTB
  go_wp2_with fail
  refine (HFAR.out _ (by with_reducible repeat' first | exact Ext.refl _ | assumption | apply Ext.alloc_r | apply Ext.drew_r | apply Ext.drewN_r | refine Ext.trans ?_ ‹Ext _ _›)).mono ?_
  rintro e w8 ⟨rfl, x8⟩
  replace e0_0 := x8.cell e0_0
  replace e0_1 := x8.cell e0_1
  replace e0_2 := x8.cell e0_2
  replace e0_3 := x8.cell e0_3
  replace e0_4 := x8.cell e0_4
  replace e0_5 := x8.cell e0_5
  replace p_0 := x8.cell p_0
  replace p_1 := x8.cell p_1
  replace p_2 := x8.cell p_2
  replace p_3 := x8.cell p_3
  replace p_4 := x8.cell p_4
  replace p_5 := x8.cell p_5
  replace two_0 := x8.cell two_0
  replace two_1 := x8.cell two_1
  replace two_2 := x8.cell two_2
  replace two_3 := x8.cell two_3
  replace two_4 := x8.cell two_4
  replace two_5 := x8.cell two_5
  clear HFAR
  have te0_0 := fun o => (Ext.alloc w8 o).cell e0_0
  have te0_1 := fun o => (Ext.alloc w8 o).cell e0_1
  have te0_2 := fun o => (Ext.alloc w8 o).cell e0_2
  have te0_3 := fun o => (Ext.alloc w8 o).cell e0_3
  have te0_4 := fun o => (Ext.alloc w8 o).cell e0_4
  have te0_5 := fun o => (Ext.alloc w8 o).cell e0_5
  have tp_0 := fun o => (Ext.alloc w8 o).cell p_0
  have tp_1 := fun o => (Ext.alloc w8 o).cell p_1
  have tp_2 := fun o => (Ext.alloc w8 o).cell p_2
  have tp_3 := fun o => (Ext.alloc w8 o).cell p_3
  have tp_4 := fun o => (Ext.alloc w8 o).cell p_4
  have tp_5 := fun o => (Ext.alloc w8 o).cell p_5
  have ttwo_0 := fun o => (Ext.alloc w8 o).cell two_0
  have ttwo_1 := fun o => (Ext.alloc w8 o).cell two_1
  have ttwo_2 := fun o => (Ext.alloc w8 o).cell two_2
  have ttwo_3 := fun o => (Ext.alloc w8 o).cell two_3
  have ttwo_4 := fun o => (Ext.alloc w8 o).cell two_4
  have ttwo_5 := fun o => (Ext.alloc w8 o).cell two_5
  go_wp2_with fail
  clear te0_0 te0_1 te0_2 te0_3 te0_4 te0_5 tp_0 tp_1 tp_2 tp_3 tp_4 tp_5 ttwo_0 ttwo_1 ttwo_2 ttwo_3 ttwo_4 ttwo_5
  obtain ⟨w9, hw⟩ : ∃ z : World, z = (w8.alloc (.cells #[.bool false, .slice none 0 0, .slice none 0 0, .bool false, .slice none 0 0, .slice none 0 0] 29)) := ⟨_, rfl⟩
  rw [← hw]
  have x9 : Ext w8 w9 := by rw [hw]; exact Ext.alloc _ _
  have bb := box_at w8 #[.bool false, .slice none 0 0, .slice none 0 0, .bool false, .slice none 0 0, .slice none 0 0] 29
  rw [← hw] at bb
  replace e0_0 := x9.cell e0_0
  replace e0_1 := x9.cell e0_1
  replace e0_2 := x9.cell e0_2
  replace e0_3 := x9.cell e0_3
  replace e0_4 := x9.cell e0_4
  replace e0_5 := x9.cell e0_5
  replace p_0 := x9.cell p_0
  replace p_1 := x9.cell p_1
  replace p_2 := x9.cell p_2
  replace p_3 := x9.cell p_3
  replace p_4 := x9.cell p_4
  replace p_5 := x9.cell p_5
  replace two_0 := x9.cell two_0
  replace two_1 := x9.cell two_1
  replace two_2 := x9.cell two_2
  replace two_3 := x9.cell two_3
  replace two_4 := x9.cell two_4
  replace two_5 := x9.cell two_5
  have far_0 := bb.1 0 (.bool false) rfl
  have far_1 := bb.1 1 (.slice none 0 0) rfl
  have far_2 := bb.1 2 (.slice none 0 0) rfl
  have far_3 := bb.1 3 (.bool false) rfl
  have far_4 := bb.1 4 (.slice none 0 0) rfl
  have far_5 := bb.1 5 (.slice none 0 0) rfl
  clear hw bb
  go_wp2_with fail
  have HK : Hid (∀ w', Ext w9 w' → Ext w9 w' ∧ w'.cell? ⟨w.heap.size, 0, none⟩ = some (.bool s1) ∧ w'.cell? ⟨w.heap.size, 1, none⟩ = some (.slice A1 L1 c1) ∧ w'.cell? ⟨w.heap.size, 2, none⟩ = some (.slice B1 M1 d1) ∧ w'.cell? ⟨w.heap.size, 3, none⟩ = some (.bool s2) ∧ w'.cell? ⟨w.heap.size, 4, none⟩ = some (.slice A2 L2 c2) ∧ w'.cell? ⟨w.heap.size, 5, none⟩ = some (.slice B2 M2 d2) ∧ w'.cell? ⟨w3.heap.size, 0, none⟩ = some (.bool spa) ∧ w'.cell? ⟨w3.heap.size, 1, none⟩ = some (.slice Apa Lpa cpa) ∧ w'.cell? ⟨w3.heap.size, 2, none⟩ = some (.slice Bpa Mpa dpa) ∧ w'.cell? ⟨w3.heap.size, 3, none⟩ = some (.bool spb) ∧ w'.cell? ⟨w3.heap.size, 4, none⟩ = some (.slice Apb Lpb cpb) ∧ w'.cell? ⟨w3.heap.size, 5, none⟩ = some (.slice Bpb Mpb dpb)) := fun w' hk => ⟨hk, hk.cell e0_0, hk.cell e0_1, hk.cell e0_2, hk.cell e0_3, hk.cell e0_4, hk.cell e0_5, hk.cell p_0, hk.cell p_1, hk.cell p_2, hk.cell p_3, hk.cell p_4, hk.cell p_5⟩
  first
  | go_region_held3 (fun w' => Ext w9 w' ∧ w'.cell? ⟨w.heap.size, 0, none⟩ = some (.bool s1) ∧ w'.cell? ⟨w.heap.size, 1, none⟩ = some (.slice A1 L1 c1) ∧ w'.cell? ⟨w.heap.size, 2, none⟩ = some (.slice B1 M1 d1) ∧ w'.cell? ⟨w.heap.size, 3, none⟩ = some (.bool s2) ∧ w'.cell? ⟨w.heap.size, 4, none⟩ = some (.slice A2 L2 c2) ∧ w'.cell? ⟨w.heap.size, 5, none⟩ = some (.slice B2 M2 d2) ∧ w'.cell? ⟨w3.heap.size, 0, none⟩ = some (.bool spa) ∧ w'.cell? ⟨w3.heap.size, 1, none⟩ = some (.slice Apa Lpa cpa) ∧ w'.cell? ⟨w3.heap.size, 2, none⟩ = some (.slice Bpa Mpa dpa) ∧ w'.cell? ⟨w3.heap.size, 3, none⟩ = some (.bool spb) ∧ w'.cell? ⟨w3.heap.size, 4, none⟩ = some (.slice Apb Lpb cpb) ∧ w'.cell? ⟨w3.heap.size, 5, none⟩ = some (.slice Bpb Mpb dpb))
      ((with_reducible refine HK.out _ ?_; (with_reducible repeat' first | exact Ext.refl _ | assumption | apply Ext.alloc_r | apply Ext.drew_r | apply Ext.drewN_r | refine Ext.trans ?_ ‹Ext _ _›)))
      (first
        | (go_at_call 14; have hgd := ja; clear hgd; refine (lis6 (pa.ext (by with_reducible repeat' first | exact Ext.refl _ | assumption | apply Ext.alloc_r | apply Ext.drew_r | apply Ext.drewN_r | refine Ext.trans ?_ ‹Ext _ _›)) (pb.ext (by with_reducible repeat' first | exact Ext.refl _ | assumption | apply Ext.alloc_r | apply Ext.drew_r | apply Ext.drewN_r | refine Ext.trans ?_ ‹Ext _ _›)) (ja.ext (by with_reducible repeat' first | exact Ext.refl _ | assumption | apply Ext.alloc_r | apply Ext.drew_r | apply Ext.drewN_r | refine Ext.trans ?_ ‹Ext _ _›)) (jb.ext (by with_reducible repeat' first | exact Ext.refl _ | assumption | apply Ext.alloc_r | apply Ext.drew_r | apply Ext.drewN_r | refine Ext.trans ?_ ‹Ext _ _›)) HPN.out.1 HPN.out.2 (by omega)).mono ?_; rintro e w12 ⟨rfl, x12⟩)
        | (go_at_call 45; have hgd := xa; clear hgd; refine (jpow_r (k := k) (xa.ext (by with_reducible repeat' first | exact Ext.refl _ | assumption | apply Ext.alloc_r | apply Ext.drew_r | apply Ext.drewN_r | refine Ext.trans ?_ ‹Ext _ _›)) (xb.ext (by with_reducible repeat' first | exact Ext.refl _ | assumption | apply Ext.alloc_r | apply Ext.drew_r | apply Ext.drewN_r | refine Ext.trans ?_ ‹Ext _ _›)) HMM.out (by omega) (by omega) (by omega)).mono ?_; rintro e w11 ⟨gja, Aja, cja, Lja, hja, Bja, dja, Mja, gjb, Ajb, cjb, Ljb, hjb, Bjb, djb, Mjb, rfl, ja, jb, x11⟩)
        | (go_at_call_of 10 (#[Value.agg #[Value.bool s1, Value.slice A1 L1 c1, Value.slice B1 M1 d1, Value.bool s2, Value.slice A2 L2 c2, Value.slice B2 M2 d2]]); refine (HO1.out _ (by with_reducible repeat' first | exact Ext.refl _ | assumption | apply Ext.alloc_r | apply Ext.drew_r | apply Ext.drewN_r | refine Ext.trans ?_ ‹Ext _ _›)).mono ?_; rintro e w10 ⟨gxa, Axa, cxa, Lxa, hxa, Bxa, dxa, Mxa, gxb, Axb, cxb, Lxb, hxb, Bxb, dxb, Mxb, rfl, xa, xb, x10⟩))
  | fail
  clear HK
  have xh : Ext w9 w12 := (by with_reducible repeat' first | exact Ext.refl _ | assumption | apply Ext.alloc_r | apply Ext.drew_r | apply Ext.drewN_r | refine Ext.trans ?_ ‹Ext _ _›)
  replace e0_0 := xh.cell e0_0
  replace e0_1 := xh.cell e0_1
  replace e0_2 := xh.cell e0_2
  replace e0_3 := xh.cell e0_3
  replace e0_4 := xh.cell e0_4
  replace e0_5 := xh.cell e0_5
  replace p_0 := xh.cell p_0
  replace p_1 := xh.cell p_1
  replace p_2 := xh.cell p_2
  replace p_3 := xh.cell p_3
  replace p_4 := xh.cell p_4
  replace p_5 := xh.cell p_5
  replace two_0 := xh.cell two_0
  replace two_1 := xh.cell two_1
  replace two_2 := xh.cell two_2
  replace two_3 := xh.cell two_3
  replace two_4 := xh.cell two_4
  replace two_5 := xh.cell two_5
  replace far_0 := xh.cell far_0
  replace far_1 := xh.cell far_1
  replace far_2 := xh.cell far_2
  replace far_3 := xh.cell far_3
  replace far_4 := xh.cell far_4
  replace far_5 := xh.cell far_5
  clear xh
  go_wp2_with fail
  go_ret
  exact ⟨rfl, (by with_reducible repeat' first | exact Ext.refl _ | assumption | apply Ext.alloc_r | apply Ext.drew_r | apply Ext.drewN_r | refine Ext.trans ?_ ‹Ext _ _›)⟩
set_option maxHeartbeats 40000000 in
set_option maxRecDepth 100000 in
theorem intervalPowers_walk {w : World} {n : Int} {s1 : Bool} {A1 B1 : Option Addr} {c1 L1 d1 M1 : Nat} {x1 : Int} {y1 : Nat} {s2 : Bool} {A2 B2 : Option Addr} {c2 L2 d2 M2 : Nat} {x2 : Int} {y2 : Nat} (h1 : RW w s1 A1 c1 L1 B1 d1 M1 x1 y1) (h2 : RW w s2 A2 c2 L2 B2 d2 M2 x2 y2) (_hn : -9223372036854775808 ≤ n ∧ n ≤ 9223372036854775807) :
    Calls Tryz.prog 7 #[Value.agg #[Value.bool s1, Value.slice A1 L1 c1, Value.slice B1 M1 d1, Value.bool s2, Value.slice A2 L2 c2, Value.slice B2 M2 d2], .int .i64 n] w fun e w' => e = .returned (.bool true) ∧ Ext w w' := by
  by_cases hf : L1 ≤ 2 ∧ M1 ≤ 2 ∧ L2 ≤ 2 ∧ M2 ≤ 2 ∧ L1 ≤ 2 ∧ M1 ≤ 2 ∧ L2 ≤ 2 ∧ M2 ≤ 2
  · by_cases h5 : 12 < n
    · exact intervalPowers_big h1 h2 hf h5
    · by_cases h6 : n < 0
      · exact intervalPowers_neg h1 h2 hf h6
      · obtain ⟨k, rfl⟩ : ∃ k : Nat, n = (k : Int) := ⟨n.toNat, by omega⟩
        exact intervalPowers_pos h1 h2 hf (by omega)
  · exact intervalPowers_few h1 h2 hf
end Go.Proofs.YtehhkeenjlpikaaGreat
