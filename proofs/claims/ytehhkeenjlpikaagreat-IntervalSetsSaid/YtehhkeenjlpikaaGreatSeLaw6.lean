import Derived.Test.YtehhkeenjlpikaaGreatSeIvD
import Derived.Deep.RegionHeldLaw
import Derived.Deep.LoopGhost
import Derived.Deep.QuietTactic
import Derived.BigQuiet
namespace Go.Proofs.YtehhkeenjlpikaaGreat
open Go.RowKit
set_option maxHeartbeats 4000000 in
set_option maxRecDepth 100000 in
theorem small6 {w : World} {n : Nat} {s1 : Bool} {A1 B1 : Option Addr} {c1 d1 L1 M1 : Nat} (p1 : L1 ≤ 9223372036854775807) (k1 : M1 ≤ 9223372036854775807) :
    Calls Tryz.prog 17 #[.int .i64 n, Value.agg #[Value.bool s1, Value.slice A1 L1 c1, Value.slice B1 M1 d1]] w fun e w' => e = .returned (.bool (decide (L1 ≤ n) && decide (M1 ≤ n))) ∧ Ext w w' := by
  obtain ⟨b, hb⟩ : ∃ b, b = (decide (L1 ≤ n) && decide (M1 ≤ n)) := ⟨_, rfl⟩
  have HF : Hid (∀ w', Calls Tryz.prog 53 #[.int .i64 n, .slice (some ⟨w'.heap.size, 0, none⟩) 2 2] (w'.alloc (.cells #[.slice A1 L1 c1, .slice B1 M1 d1] 22)) fun e w'' => e = .returned (.bool b) ∧ Ext w' w'') := fun w' => by rw [hb]; exact few2 p1 k1
  have HP := Lib.hid hb.symm
  clear hb p1 k1
  go_enter Tryz.func17, Tryz.ntmps17
  go_wp2_with fail
  obtain ⟨w0, hw0⟩ : ∃ z : World, z = (w.alloc (.cells #[.bool s1, .slice A1 L1 c1, .slice B1 M1 d1] 27)) := ⟨_, rfl⟩
  rw [← hw0]
  have bxa : BK w0 (w.heap.size) 27 #[.bool s1, .slice A1 L1 c1, .slice B1 M1 d1] := by rw [hw0]; have h5 := (BK.new w #[.bool s1, .slice A1 L1 c1, .slice B1 M1 d1] 27); simpa only [World.size_alloc] using h5
  have hszw0 : w0.heap.size = w.heap.size + 1 := by rw [hw0]; simp only [World.size_alloc]
  have xw0 : Ext w w0 := by rw [hw0]; exact (Ext.alloc _ _)
  clear hw0
  have hf := HF.out w0
  rw [hszw0] at hf
  clear HF
  refine hf.mono ?_
  rintro e w1 ⟨rfl, x1⟩
  clear hf
  replace bxa := bxa.ext x1
  have ka_0 := bxa.c 0 (.bool s1) rfl
  have ka_1 := bxa.c 1 (.slice A1 L1 c1) rfl
  have ka_2 := bxa.c 2 (.slice B1 M1 d1) rfl
  go_wp2_with fail
  clear ka_0 ka_1 ka_2
  go_ret
  exact ⟨by rw [HP.out]; rfl, xw0.trans x1⟩
theorem small_is {w : World} {n : Nat} {s1 : Bool} {A1 B1 : Option Addr} {c1 d1 L1 M1 : Nat} (p1 : L1 ≤ 9223372036854775807) (k1 : M1 ≤ 9223372036854775807) {b : Bool} (e : (decide (L1 ≤ n) && decide (M1 ≤ n)) = b) :
    Calls Tryz.prog 17 #[.int .i64 n, Value.agg #[Value.bool s1, Value.slice A1 L1 c1, Value.slice B1 M1 d1]] w fun e w' => e = .returned (.bool b) ∧ Ext w w' := by rw [← e]; exact small6 p1 k1
set_option maxHeartbeats 4000000 in
set_option maxRecDepth 100000 in
theorem few6_0 {w : World} {n : Nat} {s1 s2 s3 s4 : Bool} {A1 B1 A2 B2 A3 B3 A4 B4 : Option Addr} {c1 d1 L1 M1 c2 d2 L2 M2 c3 d3 L3 M3 c4 d4 L4 M4 : Nat} (p1 : L1 ≤ 9223372036854775807) (k1 : M1 ≤ 9223372036854775807) (p2 : L2 ≤ 9223372036854775807) (k2 : M2 ≤ 9223372036854775807) (p3 : L3 ≤ 9223372036854775807) (k3 : M3 ≤ 9223372036854775807) (p4 : L4 ≤ 9223372036854775807) (k4 : M4 ≤ 9223372036854775807) (h1 : (decide (L1 ≤ n) && decide (M1 ≤ n)) = true) (h2 : (decide (L2 ≤ n) && decide (M2 ≤ n)) = true) (h3 : (decide (L3 ≤ n) && decide (M3 ≤ n)) = true) (h4 : (decide (L4 ≤ n) && decide (M4 ≤ n)) = true) :
    Calls Tryz.prog 9 #[.int .i64 n, Value.agg #[Value.bool s1, Value.slice A1 L1 c1, Value.slice B1 M1 d1, Value.bool s2, Value.slice A2 L2 c2, Value.slice B2 M2 d2], Value.agg #[Value.bool s3, Value.slice A3 L3 c3, Value.slice B3 M3 d3, Value.bool s4, Value.slice A4 L4 c4, Value.slice B4 M4 d4]] w fun e w' => e = .returned (.bool true) ∧ Ext w w' := by
  have H1 := Lib.hid h1
  clear h1
  have H2 := Lib.hid h2
  clear h2
  have H3 := Lib.hid h3
  clear h3
  have H4 := Lib.hid h4
  clear h4
  go_enter Tryz.func9, Tryz.ntmps9
  go_wp2_with fail
  obtain ⟨w0, hw0⟩ : ∃ z : World, z = ((w.alloc (.cells #[.bool s1, .slice A1 L1 c1, .slice B1 M1 d1, .bool s2, .slice A2 L2 c2, .slice B2 M2 d2] 29)).alloc (.cells #[.bool s3, .slice A3 L3 c3, .slice B3 M3 d3, .bool s4, .slice A4 L4 c4, .slice B4 M4 d4] 29)) := ⟨_, rfl⟩
  rw [← hw0]
  have bxi : BK w0 (w.heap.size) 29 #[.bool s1, .slice A1 L1 c1, .slice B1 M1 d1, .bool s2, .slice A2 L2 c2, .slice B2 M2 d2] := by rw [hw0]; have h5 := (BK.ext (BK.new w #[.bool s1, .slice A1 L1 c1, .slice B1 M1 d1, .bool s2, .slice A2 L2 c2, .slice B2 M2 d2] 29) (Ext.alloc _ (.cells #[.bool s3, .slice A3 L3 c3, .slice B3 M3 d3, .bool s4, .slice A4 L4 c4, .slice B4 M4 d4] 29))); simpa only [World.size_alloc] using h5
  have bxj : BK w0 (w.heap.size + 1) 29 #[.bool s3, .slice A3 L3 c3, .slice B3 M3 d3, .bool s4, .slice A4 L4 c4, .slice B4 M4 d4] := by rw [hw0]; have h5 := (BK.new (w.alloc (.cells #[.bool s1, .slice A1 L1 c1, .slice B1 M1 d1, .bool s2, .slice A2 L2 c2, .slice B2 M2 d2] 29)) #[.bool s3, .slice A3 L3 c3, .slice B3 M3 d3, .bool s4, .slice A4 L4 c4, .slice B4 M4 d4] 29); simpa only [World.size_alloc] using h5
  have hszw0 : w0.heap.size = w.heap.size + 1 + 1 := by rw [hw0]; simp only [World.size_alloc]
  have xw0 : Ext w w0 := by rw [hw0]; exact ((Ext.alloc _ _).trans (Ext.alloc _ _))
  clear hw0
  refine (small_is p1 k1 H1.out).mono ?_
  rintro e w1 ⟨rfl, x1⟩
  have szw1 : w0.heap.size ≤ w1.heap.size := x1.size
  replace bxi := bxi.ext x1
  replace bxj := bxj.ext x1
  have ki_0 := bxi.c 0 (.bool s1) rfl
  have ki_1 := bxi.c 1 (.slice A1 L1 c1) rfl
  have ki_2 := bxi.c 2 (.slice B1 M1 d1) rfl
  have ki_3 := bxi.c 3 (.bool s2) rfl
  have ki_4 := bxi.c 4 (.slice A2 L2 c2) rfl
  have ki_5 := bxi.c 5 (.slice B2 M2 d2) rfl
  have kj_0 := bxj.c 0 (.bool s3) rfl
  have kj_1 := bxj.c 1 (.slice A3 L3 c3) rfl
  have kj_2 := bxj.c 2 (.slice B3 M3 d3) rfl
  have kj_3 := bxj.c 3 (.bool s4) rfl
  have kj_4 := bxj.c 4 (.slice A4 L4 c4) rfl
  have kj_5 := bxj.c 5 (.slice B4 M4 d4) rfl
  go_wp2_with fail
  clear ki_0 ki_1 ki_2 ki_3 ki_4 ki_5 kj_0 kj_1 kj_2 kj_3 kj_4 kj_5
  refine (small_is p2 k2 H2.out).mono ?_
  rintro e w2 ⟨rfl, x2⟩
  have szw2 : w1.heap.size ≤ w2.heap.size := x2.size
  replace bxi := bxi.ext x2
  replace bxj := bxj.ext x2
  have ki_0 := bxi.c 0 (.bool s1) rfl
  have ki_1 := bxi.c 1 (.slice A1 L1 c1) rfl
  have ki_2 := bxi.c 2 (.slice B1 M1 d1) rfl
  have ki_3 := bxi.c 3 (.bool s2) rfl
  have ki_4 := bxi.c 4 (.slice A2 L2 c2) rfl
  have ki_5 := bxi.c 5 (.slice B2 M2 d2) rfl
  have kj_0 := bxj.c 0 (.bool s3) rfl
  have kj_1 := bxj.c 1 (.slice A3 L3 c3) rfl
  have kj_2 := bxj.c 2 (.slice B3 M3 d3) rfl
  have kj_3 := bxj.c 3 (.bool s4) rfl
  have kj_4 := bxj.c 4 (.slice A4 L4 c4) rfl
  have kj_5 := bxj.c 5 (.slice B4 M4 d4) rfl
  go_wp2_with fail
  clear ki_0 ki_1 ki_2 ki_3 ki_4 ki_5 kj_0 kj_1 kj_2 kj_3 kj_4 kj_5
  refine (small_is p3 k3 H3.out).mono ?_
  rintro e w3 ⟨rfl, x3⟩
  have szw3 : w2.heap.size ≤ w3.heap.size := x3.size
  replace bxi := bxi.ext x3
  replace bxj := bxj.ext x3
  have ki_0 := bxi.c 0 (.bool s1) rfl
  have ki_1 := bxi.c 1 (.slice A1 L1 c1) rfl
  have ki_2 := bxi.c 2 (.slice B1 M1 d1) rfl
  have ki_3 := bxi.c 3 (.bool s2) rfl
  have ki_4 := bxi.c 4 (.slice A2 L2 c2) rfl
  have ki_5 := bxi.c 5 (.slice B2 M2 d2) rfl
  have kj_0 := bxj.c 0 (.bool s3) rfl
  have kj_1 := bxj.c 1 (.slice A3 L3 c3) rfl
  have kj_2 := bxj.c 2 (.slice B3 M3 d3) rfl
  have kj_3 := bxj.c 3 (.bool s4) rfl
  have kj_4 := bxj.c 4 (.slice A4 L4 c4) rfl
  have kj_5 := bxj.c 5 (.slice B4 M4 d4) rfl
  go_wp2_with fail
  clear ki_0 ki_1 ki_2 ki_3 ki_4 ki_5 kj_0 kj_1 kj_2 kj_3 kj_4 kj_5
  refine (small_is p4 k4 H4.out).mono ?_
  rintro e w4 ⟨rfl, x4⟩
  have szw4 : w3.heap.size ≤ w4.heap.size := x4.size
  replace bxi := bxi.ext x4
  replace bxj := bxj.ext x4
  have x0w : Ext w w4 := (by with_reducible repeat' first | exact Ext.refl _ | assumption | apply Ext.alloc_r | apply Ext.drew_r | apply Ext.drewN_r | refine Ext.trans ?_ ‹Ext _ _›)
  have ki_0 := bxi.c 0 (.bool s1) rfl
  have ki_1 := bxi.c 1 (.slice A1 L1 c1) rfl
  have ki_2 := bxi.c 2 (.slice B1 M1 d1) rfl
  have ki_3 := bxi.c 3 (.bool s2) rfl
  have ki_4 := bxi.c 4 (.slice A2 L2 c2) rfl
  have ki_5 := bxi.c 5 (.slice B2 M2 d2) rfl
  have kj_0 := bxj.c 0 (.bool s3) rfl
  have kj_1 := bxj.c 1 (.slice A3 L3 c3) rfl
  have kj_2 := bxj.c 2 (.slice B3 M3 d3) rfl
  have kj_3 := bxj.c 3 (.bool s4) rfl
  have kj_4 := bxj.c 4 (.slice A4 L4 c4) rfl
  have kj_5 := bxj.c 5 (.slice B4 M4 d4) rfl
  go_wp2_with fail
  clear ki_0 ki_1 ki_2 ki_3 ki_4 ki_5 kj_0 kj_1 kj_2 kj_3 kj_4 kj_5
  go_ret
  exact ⟨rfl, x0w⟩
set_option maxHeartbeats 4000000 in
set_option maxRecDepth 100000 in
theorem few6_1 {w : World} {n : Nat} {s1 s2 s3 s4 : Bool} {A1 B1 A2 B2 A3 B3 A4 B4 : Option Addr} {c1 d1 L1 M1 c2 d2 L2 M2 c3 d3 L3 M3 c4 d4 L4 M4 : Nat} (p1 : L1 ≤ 9223372036854775807) (k1 : M1 ≤ 9223372036854775807) (h1 : (decide (L1 ≤ n) && decide (M1 ≤ n)) = false) :
    Calls Tryz.prog 9 #[.int .i64 n, Value.agg #[Value.bool s1, Value.slice A1 L1 c1, Value.slice B1 M1 d1, Value.bool s2, Value.slice A2 L2 c2, Value.slice B2 M2 d2], Value.agg #[Value.bool s3, Value.slice A3 L3 c3, Value.slice B3 M3 d3, Value.bool s4, Value.slice A4 L4 c4, Value.slice B4 M4 d4]] w fun e w' => e = .returned (.bool false) ∧ Ext w w' := by
  have H1 := Lib.hid h1
  clear h1
  go_enter Tryz.func9, Tryz.ntmps9
  go_wp2_with fail
  obtain ⟨w0, hw0⟩ : ∃ z : World, z = ((w.alloc (.cells #[.bool s1, .slice A1 L1 c1, .slice B1 M1 d1, .bool s2, .slice A2 L2 c2, .slice B2 M2 d2] 29)).alloc (.cells #[.bool s3, .slice A3 L3 c3, .slice B3 M3 d3, .bool s4, .slice A4 L4 c4, .slice B4 M4 d4] 29)) := ⟨_, rfl⟩
  rw [← hw0]
  have bxi : BK w0 (w.heap.size) 29 #[.bool s1, .slice A1 L1 c1, .slice B1 M1 d1, .bool s2, .slice A2 L2 c2, .slice B2 M2 d2] := by rw [hw0]; have h5 := (BK.ext (BK.new w #[.bool s1, .slice A1 L1 c1, .slice B1 M1 d1, .bool s2, .slice A2 L2 c2, .slice B2 M2 d2] 29) (Ext.alloc _ (.cells #[.bool s3, .slice A3 L3 c3, .slice B3 M3 d3, .bool s4, .slice A4 L4 c4, .slice B4 M4 d4] 29))); simpa only [World.size_alloc] using h5
  have bxj : BK w0 (w.heap.size + 1) 29 #[.bool s3, .slice A3 L3 c3, .slice B3 M3 d3, .bool s4, .slice A4 L4 c4, .slice B4 M4 d4] := by rw [hw0]; have h5 := (BK.new (w.alloc (.cells #[.bool s1, .slice A1 L1 c1, .slice B1 M1 d1, .bool s2, .slice A2 L2 c2, .slice B2 M2 d2] 29)) #[.bool s3, .slice A3 L3 c3, .slice B3 M3 d3, .bool s4, .slice A4 L4 c4, .slice B4 M4 d4] 29); simpa only [World.size_alloc] using h5
  have hszw0 : w0.heap.size = w.heap.size + 1 + 1 := by rw [hw0]; simp only [World.size_alloc]
  have xw0 : Ext w w0 := by rw [hw0]; exact ((Ext.alloc _ _).trans (Ext.alloc _ _))
  clear hw0
  refine (small_is p1 k1 H1.out).mono ?_
  rintro e w1 ⟨rfl, x1⟩
  have szw1 : w0.heap.size ≤ w1.heap.size := x1.size
  replace bxi := bxi.ext x1
  replace bxj := bxj.ext x1
  have x0w : Ext w w1 := (by with_reducible repeat' first | exact Ext.refl _ | assumption | apply Ext.alloc_r | apply Ext.drew_r | apply Ext.drewN_r | refine Ext.trans ?_ ‹Ext _ _›)
  have ki_0 := bxi.c 0 (.bool s1) rfl
  have ki_1 := bxi.c 1 (.slice A1 L1 c1) rfl
  have ki_2 := bxi.c 2 (.slice B1 M1 d1) rfl
  have ki_3 := bxi.c 3 (.bool s2) rfl
  have ki_4 := bxi.c 4 (.slice A2 L2 c2) rfl
  have ki_5 := bxi.c 5 (.slice B2 M2 d2) rfl
  have kj_0 := bxj.c 0 (.bool s3) rfl
  have kj_1 := bxj.c 1 (.slice A3 L3 c3) rfl
  have kj_2 := bxj.c 2 (.slice B3 M3 d3) rfl
  have kj_3 := bxj.c 3 (.bool s4) rfl
  have kj_4 := bxj.c 4 (.slice A4 L4 c4) rfl
  have kj_5 := bxj.c 5 (.slice B4 M4 d4) rfl
  go_wp2_with fail
  clear ki_0 ki_1 ki_2 ki_3 ki_4 ki_5 kj_0 kj_1 kj_2 kj_3 kj_4 kj_5
  go_ret
  exact ⟨rfl, x0w⟩
set_option maxHeartbeats 4000000 in
set_option maxRecDepth 100000 in
theorem few6_2 {w : World} {n : Nat} {s1 s2 s3 s4 : Bool} {A1 B1 A2 B2 A3 B3 A4 B4 : Option Addr} {c1 d1 L1 M1 c2 d2 L2 M2 c3 d3 L3 M3 c4 d4 L4 M4 : Nat} (p1 : L1 ≤ 9223372036854775807) (k1 : M1 ≤ 9223372036854775807) (p2 : L2 ≤ 9223372036854775807) (k2 : M2 ≤ 9223372036854775807) (h1 : (decide (L1 ≤ n) && decide (M1 ≤ n)) = true) (h2 : (decide (L2 ≤ n) && decide (M2 ≤ n)) = false) :
    Calls Tryz.prog 9 #[.int .i64 n, Value.agg #[Value.bool s1, Value.slice A1 L1 c1, Value.slice B1 M1 d1, Value.bool s2, Value.slice A2 L2 c2, Value.slice B2 M2 d2], Value.agg #[Value.bool s3, Value.slice A3 L3 c3, Value.slice B3 M3 d3, Value.bool s4, Value.slice A4 L4 c4, Value.slice B4 M4 d4]] w fun e w' => e = .returned (.bool false) ∧ Ext w w' := by
  have H1 := Lib.hid h1
  clear h1
  have H2 := Lib.hid h2
  clear h2
  go_enter Tryz.func9, Tryz.ntmps9
  go_wp2_with fail
  obtain ⟨w0, hw0⟩ : ∃ z : World, z = ((w.alloc (.cells #[.bool s1, .slice A1 L1 c1, .slice B1 M1 d1, .bool s2, .slice A2 L2 c2, .slice B2 M2 d2] 29)).alloc (.cells #[.bool s3, .slice A3 L3 c3, .slice B3 M3 d3, .bool s4, .slice A4 L4 c4, .slice B4 M4 d4] 29)) := ⟨_, rfl⟩
  rw [← hw0]
  have bxi : BK w0 (w.heap.size) 29 #[.bool s1, .slice A1 L1 c1, .slice B1 M1 d1, .bool s2, .slice A2 L2 c2, .slice B2 M2 d2] := by rw [hw0]; have h5 := (BK.ext (BK.new w #[.bool s1, .slice A1 L1 c1, .slice B1 M1 d1, .bool s2, .slice A2 L2 c2, .slice B2 M2 d2] 29) (Ext.alloc _ (.cells #[.bool s3, .slice A3 L3 c3, .slice B3 M3 d3, .bool s4, .slice A4 L4 c4, .slice B4 M4 d4] 29))); simpa only [World.size_alloc] using h5
  have bxj : BK w0 (w.heap.size + 1) 29 #[.bool s3, .slice A3 L3 c3, .slice B3 M3 d3, .bool s4, .slice A4 L4 c4, .slice B4 M4 d4] := by rw [hw0]; have h5 := (BK.new (w.alloc (.cells #[.bool s1, .slice A1 L1 c1, .slice B1 M1 d1, .bool s2, .slice A2 L2 c2, .slice B2 M2 d2] 29)) #[.bool s3, .slice A3 L3 c3, .slice B3 M3 d3, .bool s4, .slice A4 L4 c4, .slice B4 M4 d4] 29); simpa only [World.size_alloc] using h5
  have hszw0 : w0.heap.size = w.heap.size + 1 + 1 := by rw [hw0]; simp only [World.size_alloc]
  have xw0 : Ext w w0 := by rw [hw0]; exact ((Ext.alloc _ _).trans (Ext.alloc _ _))
  clear hw0
  refine (small_is p1 k1 H1.out).mono ?_
  rintro e w1 ⟨rfl, x1⟩
  have szw1 : w0.heap.size ≤ w1.heap.size := x1.size
  replace bxi := bxi.ext x1
  replace bxj := bxj.ext x1
  have ki_0 := bxi.c 0 (.bool s1) rfl
  have ki_1 := bxi.c 1 (.slice A1 L1 c1) rfl
  have ki_2 := bxi.c 2 (.slice B1 M1 d1) rfl
  have ki_3 := bxi.c 3 (.bool s2) rfl
  have ki_4 := bxi.c 4 (.slice A2 L2 c2) rfl
  have ki_5 := bxi.c 5 (.slice B2 M2 d2) rfl
  have kj_0 := bxj.c 0 (.bool s3) rfl
  have kj_1 := bxj.c 1 (.slice A3 L3 c3) rfl
  have kj_2 := bxj.c 2 (.slice B3 M3 d3) rfl
  have kj_3 := bxj.c 3 (.bool s4) rfl
  have kj_4 := bxj.c 4 (.slice A4 L4 c4) rfl
  have kj_5 := bxj.c 5 (.slice B4 M4 d4) rfl
  go_wp2_with fail
  clear ki_0 ki_1 ki_2 ki_3 ki_4 ki_5 kj_0 kj_1 kj_2 kj_3 kj_4 kj_5
  refine (small_is p2 k2 H2.out).mono ?_
  rintro e w2 ⟨rfl, x2⟩
  have szw2 : w1.heap.size ≤ w2.heap.size := x2.size
  replace bxi := bxi.ext x2
  replace bxj := bxj.ext x2
  have x0w : Ext w w2 := (by with_reducible repeat' first | exact Ext.refl _ | assumption | apply Ext.alloc_r | apply Ext.drew_r | apply Ext.drewN_r | refine Ext.trans ?_ ‹Ext _ _›)
  have ki_0 := bxi.c 0 (.bool s1) rfl
  have ki_1 := bxi.c 1 (.slice A1 L1 c1) rfl
  have ki_2 := bxi.c 2 (.slice B1 M1 d1) rfl
  have ki_3 := bxi.c 3 (.bool s2) rfl
  have ki_4 := bxi.c 4 (.slice A2 L2 c2) rfl
  have ki_5 := bxi.c 5 (.slice B2 M2 d2) rfl
  have kj_0 := bxj.c 0 (.bool s3) rfl
  have kj_1 := bxj.c 1 (.slice A3 L3 c3) rfl
  have kj_2 := bxj.c 2 (.slice B3 M3 d3) rfl
  have kj_3 := bxj.c 3 (.bool s4) rfl
  have kj_4 := bxj.c 4 (.slice A4 L4 c4) rfl
  have kj_5 := bxj.c 5 (.slice B4 M4 d4) rfl
  go_wp2_with fail
  clear ki_0 ki_1 ki_2 ki_3 ki_4 ki_5 kj_0 kj_1 kj_2 kj_3 kj_4 kj_5
  go_ret
  exact ⟨rfl, x0w⟩
set_option maxHeartbeats 4000000 in
set_option maxRecDepth 100000 in
theorem few6_3 {w : World} {n : Nat} {s1 s2 s3 s4 : Bool} {A1 B1 A2 B2 A3 B3 A4 B4 : Option Addr} {c1 d1 L1 M1 c2 d2 L2 M2 c3 d3 L3 M3 c4 d4 L4 M4 : Nat} (p1 : L1 ≤ 9223372036854775807) (k1 : M1 ≤ 9223372036854775807) (p2 : L2 ≤ 9223372036854775807) (k2 : M2 ≤ 9223372036854775807) (p3 : L3 ≤ 9223372036854775807) (k3 : M3 ≤ 9223372036854775807) (h1 : (decide (L1 ≤ n) && decide (M1 ≤ n)) = true) (h2 : (decide (L2 ≤ n) && decide (M2 ≤ n)) = true) (h3 : (decide (L3 ≤ n) && decide (M3 ≤ n)) = false) :
    Calls Tryz.prog 9 #[.int .i64 n, Value.agg #[Value.bool s1, Value.slice A1 L1 c1, Value.slice B1 M1 d1, Value.bool s2, Value.slice A2 L2 c2, Value.slice B2 M2 d2], Value.agg #[Value.bool s3, Value.slice A3 L3 c3, Value.slice B3 M3 d3, Value.bool s4, Value.slice A4 L4 c4, Value.slice B4 M4 d4]] w fun e w' => e = .returned (.bool false) ∧ Ext w w' := by
  have H1 := Lib.hid h1
  clear h1
  have H2 := Lib.hid h2
  clear h2
  have H3 := Lib.hid h3
  clear h3
  go_enter Tryz.func9, Tryz.ntmps9
  go_wp2_with fail
  obtain ⟨w0, hw0⟩ : ∃ z : World, z = ((w.alloc (.cells #[.bool s1, .slice A1 L1 c1, .slice B1 M1 d1, .bool s2, .slice A2 L2 c2, .slice B2 M2 d2] 29)).alloc (.cells #[.bool s3, .slice A3 L3 c3, .slice B3 M3 d3, .bool s4, .slice A4 L4 c4, .slice B4 M4 d4] 29)) := ⟨_, rfl⟩
  rw [← hw0]
  have bxi : BK w0 (w.heap.size) 29 #[.bool s1, .slice A1 L1 c1, .slice B1 M1 d1, .bool s2, .slice A2 L2 c2, .slice B2 M2 d2] := by rw [hw0]; have h5 := (BK.ext (BK.new w #[.bool s1, .slice A1 L1 c1, .slice B1 M1 d1, .bool s2, .slice A2 L2 c2, .slice B2 M2 d2] 29) (Ext.alloc _ (.cells #[.bool s3, .slice A3 L3 c3, .slice B3 M3 d3, .bool s4, .slice A4 L4 c4, .slice B4 M4 d4] 29))); simpa only [World.size_alloc] using h5
  have bxj : BK w0 (w.heap.size + 1) 29 #[.bool s3, .slice A3 L3 c3, .slice B3 M3 d3, .bool s4, .slice A4 L4 c4, .slice B4 M4 d4] := by rw [hw0]; have h5 := (BK.new (w.alloc (.cells #[.bool s1, .slice A1 L1 c1, .slice B1 M1 d1, .bool s2, .slice A2 L2 c2, .slice B2 M2 d2] 29)) #[.bool s3, .slice A3 L3 c3, .slice B3 M3 d3, .bool s4, .slice A4 L4 c4, .slice B4 M4 d4] 29); simpa only [World.size_alloc] using h5
  have hszw0 : w0.heap.size = w.heap.size + 1 + 1 := by rw [hw0]; simp only [World.size_alloc]
  have xw0 : Ext w w0 := by rw [hw0]; exact ((Ext.alloc _ _).trans (Ext.alloc _ _))
  clear hw0
  refine (small_is p1 k1 H1.out).mono ?_
  rintro e w1 ⟨rfl, x1⟩
  have szw1 : w0.heap.size ≤ w1.heap.size := x1.size
  replace bxi := bxi.ext x1
  replace bxj := bxj.ext x1
  have ki_0 := bxi.c 0 (.bool s1) rfl
  have ki_1 := bxi.c 1 (.slice A1 L1 c1) rfl
  have ki_2 := bxi.c 2 (.slice B1 M1 d1) rfl
  have ki_3 := bxi.c 3 (.bool s2) rfl
  have ki_4 := bxi.c 4 (.slice A2 L2 c2) rfl
  have ki_5 := bxi.c 5 (.slice B2 M2 d2) rfl
  have kj_0 := bxj.c 0 (.bool s3) rfl
  have kj_1 := bxj.c 1 (.slice A3 L3 c3) rfl
  have kj_2 := bxj.c 2 (.slice B3 M3 d3) rfl
  have kj_3 := bxj.c 3 (.bool s4) rfl
  have kj_4 := bxj.c 4 (.slice A4 L4 c4) rfl
  have kj_5 := bxj.c 5 (.slice B4 M4 d4) rfl
  go_wp2_with fail
  clear ki_0 ki_1 ki_2 ki_3 ki_4 ki_5 kj_0 kj_1 kj_2 kj_3 kj_4 kj_5
  refine (small_is p2 k2 H2.out).mono ?_
  rintro e w2 ⟨rfl, x2⟩
  have szw2 : w1.heap.size ≤ w2.heap.size := x2.size
  replace bxi := bxi.ext x2
  replace bxj := bxj.ext x2
  have ki_0 := bxi.c 0 (.bool s1) rfl
  have ki_1 := bxi.c 1 (.slice A1 L1 c1) rfl
  have ki_2 := bxi.c 2 (.slice B1 M1 d1) rfl
  have ki_3 := bxi.c 3 (.bool s2) rfl
  have ki_4 := bxi.c 4 (.slice A2 L2 c2) rfl
  have ki_5 := bxi.c 5 (.slice B2 M2 d2) rfl
  have kj_0 := bxj.c 0 (.bool s3) rfl
  have kj_1 := bxj.c 1 (.slice A3 L3 c3) rfl
  have kj_2 := bxj.c 2 (.slice B3 M3 d3) rfl
  have kj_3 := bxj.c 3 (.bool s4) rfl
  have kj_4 := bxj.c 4 (.slice A4 L4 c4) rfl
  have kj_5 := bxj.c 5 (.slice B4 M4 d4) rfl
  go_wp2_with fail
  clear ki_0 ki_1 ki_2 ki_3 ki_4 ki_5 kj_0 kj_1 kj_2 kj_3 kj_4 kj_5
  refine (small_is p3 k3 H3.out).mono ?_
  rintro e w3 ⟨rfl, x3⟩
  have szw3 : w2.heap.size ≤ w3.heap.size := x3.size
  replace bxi := bxi.ext x3
  replace bxj := bxj.ext x3
  have x0w : Ext w w3 := (by with_reducible repeat' first | exact Ext.refl _ | assumption | apply Ext.alloc_r | apply Ext.drew_r | apply Ext.drewN_r | refine Ext.trans ?_ ‹Ext _ _›)
  have ki_0 := bxi.c 0 (.bool s1) rfl
  have ki_1 := bxi.c 1 (.slice A1 L1 c1) rfl
  have ki_2 := bxi.c 2 (.slice B1 M1 d1) rfl
  have ki_3 := bxi.c 3 (.bool s2) rfl
  have ki_4 := bxi.c 4 (.slice A2 L2 c2) rfl
  have ki_5 := bxi.c 5 (.slice B2 M2 d2) rfl
  have kj_0 := bxj.c 0 (.bool s3) rfl
  have kj_1 := bxj.c 1 (.slice A3 L3 c3) rfl
  have kj_2 := bxj.c 2 (.slice B3 M3 d3) rfl
  have kj_3 := bxj.c 3 (.bool s4) rfl
  have kj_4 := bxj.c 4 (.slice A4 L4 c4) rfl
  have kj_5 := bxj.c 5 (.slice B4 M4 d4) rfl
  go_wp2_with fail
  clear ki_0 ki_1 ki_2 ki_3 ki_4 ki_5 kj_0 kj_1 kj_2 kj_3 kj_4 kj_5
  go_ret
  exact ⟨rfl, x0w⟩
set_option maxHeartbeats 4000000 in
set_option maxRecDepth 100000 in
theorem few6_4 {w : World} {n : Nat} {s1 s2 s3 s4 : Bool} {A1 B1 A2 B2 A3 B3 A4 B4 : Option Addr} {c1 d1 L1 M1 c2 d2 L2 M2 c3 d3 L3 M3 c4 d4 L4 M4 : Nat} (p1 : L1 ≤ 9223372036854775807) (k1 : M1 ≤ 9223372036854775807) (p2 : L2 ≤ 9223372036854775807) (k2 : M2 ≤ 9223372036854775807) (p3 : L3 ≤ 9223372036854775807) (k3 : M3 ≤ 9223372036854775807) (p4 : L4 ≤ 9223372036854775807) (k4 : M4 ≤ 9223372036854775807) (h1 : (decide (L1 ≤ n) && decide (M1 ≤ n)) = true) (h2 : (decide (L2 ≤ n) && decide (M2 ≤ n)) = true) (h3 : (decide (L3 ≤ n) && decide (M3 ≤ n)) = true) (h4 : (decide (L4 ≤ n) && decide (M4 ≤ n)) = false) :
    Calls Tryz.prog 9 #[.int .i64 n, Value.agg #[Value.bool s1, Value.slice A1 L1 c1, Value.slice B1 M1 d1, Value.bool s2, Value.slice A2 L2 c2, Value.slice B2 M2 d2], Value.agg #[Value.bool s3, Value.slice A3 L3 c3, Value.slice B3 M3 d3, Value.bool s4, Value.slice A4 L4 c4, Value.slice B4 M4 d4]] w fun e w' => e = .returned (.bool false) ∧ Ext w w' := by
  have H1 := Lib.hid h1
  clear h1
  have H2 := Lib.hid h2
  clear h2
  have H3 := Lib.hid h3
  clear h3
  have H4 := Lib.hid h4
  clear h4
  go_enter Tryz.func9, Tryz.ntmps9
  go_wp2_with fail
  obtain ⟨w0, hw0⟩ : ∃ z : World, z = ((w.alloc (.cells #[.bool s1, .slice A1 L1 c1, .slice B1 M1 d1, .bool s2, .slice A2 L2 c2, .slice B2 M2 d2] 29)).alloc (.cells #[.bool s3, .slice A3 L3 c3, .slice B3 M3 d3, .bool s4, .slice A4 L4 c4, .slice B4 M4 d4] 29)) := ⟨_, rfl⟩
  rw [← hw0]
  have bxi : BK w0 (w.heap.size) 29 #[.bool s1, .slice A1 L1 c1, .slice B1 M1 d1, .bool s2, .slice A2 L2 c2, .slice B2 M2 d2] := by rw [hw0]; have h5 := (BK.ext (BK.new w #[.bool s1, .slice A1 L1 c1, .slice B1 M1 d1, .bool s2, .slice A2 L2 c2, .slice B2 M2 d2] 29) (Ext.alloc _ (.cells #[.bool s3, .slice A3 L3 c3, .slice B3 M3 d3, .bool s4, .slice A4 L4 c4, .slice B4 M4 d4] 29))); simpa only [World.size_alloc] using h5
  have bxj : BK w0 (w.heap.size + 1) 29 #[.bool s3, .slice A3 L3 c3, .slice B3 M3 d3, .bool s4, .slice A4 L4 c4, .slice B4 M4 d4] := by rw [hw0]; have h5 := (BK.new (w.alloc (.cells #[.bool s1, .slice A1 L1 c1, .slice B1 M1 d1, .bool s2, .slice A2 L2 c2, .slice B2 M2 d2] 29)) #[.bool s3, .slice A3 L3 c3, .slice B3 M3 d3, .bool s4, .slice A4 L4 c4, .slice B4 M4 d4] 29); simpa only [World.size_alloc] using h5
  have hszw0 : w0.heap.size = w.heap.size + 1 + 1 := by rw [hw0]; simp only [World.size_alloc]
  have xw0 : Ext w w0 := by rw [hw0]; exact ((Ext.alloc _ _).trans (Ext.alloc _ _))
  clear hw0
  refine (small_is p1 k1 H1.out).mono ?_
  rintro e w1 ⟨rfl, x1⟩
  have szw1 : w0.heap.size ≤ w1.heap.size := x1.size
  replace bxi := bxi.ext x1
  replace bxj := bxj.ext x1
  have ki_0 := bxi.c 0 (.bool s1) rfl
  have ki_1 := bxi.c 1 (.slice A1 L1 c1) rfl
  have ki_2 := bxi.c 2 (.slice B1 M1 d1) rfl
  have ki_3 := bxi.c 3 (.bool s2) rfl
  have ki_4 := bxi.c 4 (.slice A2 L2 c2) rfl
  have ki_5 := bxi.c 5 (.slice B2 M2 d2) rfl
  have kj_0 := bxj.c 0 (.bool s3) rfl
  have kj_1 := bxj.c 1 (.slice A3 L3 c3) rfl
  have kj_2 := bxj.c 2 (.slice B3 M3 d3) rfl
  have kj_3 := bxj.c 3 (.bool s4) rfl
  have kj_4 := bxj.c 4 (.slice A4 L4 c4) rfl
  have kj_5 := bxj.c 5 (.slice B4 M4 d4) rfl
  go_wp2_with fail
  clear ki_0 ki_1 ki_2 ki_3 ki_4 ki_5 kj_0 kj_1 kj_2 kj_3 kj_4 kj_5
  refine (small_is p2 k2 H2.out).mono ?_
  rintro e w2 ⟨rfl, x2⟩
  have szw2 : w1.heap.size ≤ w2.heap.size := x2.size
  replace bxi := bxi.ext x2
  replace bxj := bxj.ext x2
  have ki_0 := bxi.c 0 (.bool s1) rfl
  have ki_1 := bxi.c 1 (.slice A1 L1 c1) rfl
  have ki_2 := bxi.c 2 (.slice B1 M1 d1) rfl
  have ki_3 := bxi.c 3 (.bool s2) rfl
  have ki_4 := bxi.c 4 (.slice A2 L2 c2) rfl
  have ki_5 := bxi.c 5 (.slice B2 M2 d2) rfl
  have kj_0 := bxj.c 0 (.bool s3) rfl
  have kj_1 := bxj.c 1 (.slice A3 L3 c3) rfl
  have kj_2 := bxj.c 2 (.slice B3 M3 d3) rfl
  have kj_3 := bxj.c 3 (.bool s4) rfl
  have kj_4 := bxj.c 4 (.slice A4 L4 c4) rfl
  have kj_5 := bxj.c 5 (.slice B4 M4 d4) rfl
  go_wp2_with fail
  clear ki_0 ki_1 ki_2 ki_3 ki_4 ki_5 kj_0 kj_1 kj_2 kj_3 kj_4 kj_5
  refine (small_is p3 k3 H3.out).mono ?_
  rintro e w3 ⟨rfl, x3⟩
  have szw3 : w2.heap.size ≤ w3.heap.size := x3.size
  replace bxi := bxi.ext x3
  replace bxj := bxj.ext x3
  have ki_0 := bxi.c 0 (.bool s1) rfl
  have ki_1 := bxi.c 1 (.slice A1 L1 c1) rfl
  have ki_2 := bxi.c 2 (.slice B1 M1 d1) rfl
  have ki_3 := bxi.c 3 (.bool s2) rfl
  have ki_4 := bxi.c 4 (.slice A2 L2 c2) rfl
  have ki_5 := bxi.c 5 (.slice B2 M2 d2) rfl
  have kj_0 := bxj.c 0 (.bool s3) rfl
  have kj_1 := bxj.c 1 (.slice A3 L3 c3) rfl
  have kj_2 := bxj.c 2 (.slice B3 M3 d3) rfl
  have kj_3 := bxj.c 3 (.bool s4) rfl
  have kj_4 := bxj.c 4 (.slice A4 L4 c4) rfl
  have kj_5 := bxj.c 5 (.slice B4 M4 d4) rfl
  go_wp2_with fail
  clear ki_0 ki_1 ki_2 ki_3 ki_4 ki_5 kj_0 kj_1 kj_2 kj_3 kj_4 kj_5
  refine (small_is p4 k4 H4.out).mono ?_
  rintro e w4 ⟨rfl, x4⟩
  have szw4 : w3.heap.size ≤ w4.heap.size := x4.size
  replace bxi := bxi.ext x4
  replace bxj := bxj.ext x4
  have x0w : Ext w w4 := (by with_reducible repeat' first | exact Ext.refl _ | assumption | apply Ext.alloc_r | apply Ext.drew_r | apply Ext.drewN_r | refine Ext.trans ?_ ‹Ext _ _›)
  have ki_0 := bxi.c 0 (.bool s1) rfl
  have ki_1 := bxi.c 1 (.slice A1 L1 c1) rfl
  have ki_2 := bxi.c 2 (.slice B1 M1 d1) rfl
  have ki_3 := bxi.c 3 (.bool s2) rfl
  have ki_4 := bxi.c 4 (.slice A2 L2 c2) rfl
  have ki_5 := bxi.c 5 (.slice B2 M2 d2) rfl
  have kj_0 := bxj.c 0 (.bool s3) rfl
  have kj_1 := bxj.c 1 (.slice A3 L3 c3) rfl
  have kj_2 := bxj.c 2 (.slice B3 M3 d3) rfl
  have kj_3 := bxj.c 3 (.bool s4) rfl
  have kj_4 := bxj.c 4 (.slice A4 L4 c4) rfl
  have kj_5 := bxj.c 5 (.slice B4 M4 d4) rfl
  go_wp2_with fail
  clear ki_0 ki_1 ki_2 ki_3 ki_4 ki_5 kj_0 kj_1 kj_2 kj_3 kj_4 kj_5
  go_ret
  exact ⟨rfl, x0w⟩
theorem few6_no {w : World} {n : Nat} {s1 s2 s3 s4 : Bool} {A1 B1 A2 B2 A3 B3 A4 B4 : Option Addr} {c1 d1 L1 M1 c2 d2 L2 M2 c3 d3 L3 M3 c4 d4 L4 M4 : Nat} (p1 : L1 ≤ 9223372036854775807) (k1 : M1 ≤ 9223372036854775807) (p2 : L2 ≤ 9223372036854775807) (k2 : M2 ≤ 9223372036854775807) (p3 : L3 ≤ 9223372036854775807) (k3 : M3 ≤ 9223372036854775807) (p4 : L4 ≤ 9223372036854775807) (k4 : M4 ≤ 9223372036854775807) (h : ¬ (L1 ≤ n ∧ M1 ≤ n ∧ L2 ≤ n ∧ M2 ≤ n ∧ L3 ≤ n ∧ M3 ≤ n ∧ L4 ≤ n ∧ M4 ≤ n)) :
    Calls Tryz.prog 9 #[.int .i64 n, Value.agg #[Value.bool s1, Value.slice A1 L1 c1, Value.slice B1 M1 d1, Value.bool s2, Value.slice A2 L2 c2, Value.slice B2 M2 d2], Value.agg #[Value.bool s3, Value.slice A3 L3 c3, Value.slice B3 M3 d3, Value.bool s4, Value.slice A4 L4 c4, Value.slice B4 M4 d4]] w fun e w' => e = .returned (.bool false) ∧ Ext w w' := by
  have e : ∀ L M : Nat, (decide (L ≤ n) && decide (M ≤ n)) = true ↔ L ≤ n ∧ M ≤ n := fun L M => by simp
  rcases hb1 : (decide (L1 ≤ n) && decide (M1 ≤ n)) with _ | _
  · exact few6_1 p1 k1 hb1
  · rcases hb2 : (decide (L2 ≤ n) && decide (M2 ≤ n)) with _ | _
    · exact few6_2 p1 k1 p2 k2 hb1 hb2
    · rcases hb3 : (decide (L3 ≤ n) && decide (M3 ≤ n)) with _ | _
      · exact few6_3 p1 k1 p2 k2 p3 k3 hb1 hb2 hb3
      · rcases hb4 : (decide (L4 ≤ n) && decide (M4 ≤ n)) with _ | _
        · exact few6_4 p1 k1 p2 k2 p3 k3 p4 k4 hb1 hb2 hb3 hb4
        · rw [e] at hb1 hb2 hb3 hb4
          exact absurd ⟨hb1.1, hb1.2, hb2.1, hb2.2, hb3.1, hb3.2, hb4.1, hb4.2⟩ h
theorem few6_yes {w : World} {n : Nat} {s1 s2 s3 s4 : Bool} {A1 B1 A2 B2 A3 B3 A4 B4 : Option Addr} {c1 d1 L1 M1 c2 d2 L2 M2 c3 d3 L3 M3 c4 d4 L4 M4 : Nat} (p1 : L1 ≤ 9223372036854775807) (k1 : M1 ≤ 9223372036854775807) (p2 : L2 ≤ 9223372036854775807) (k2 : M2 ≤ 9223372036854775807) (p3 : L3 ≤ 9223372036854775807) (k3 : M3 ≤ 9223372036854775807) (p4 : L4 ≤ 9223372036854775807) (k4 : M4 ≤ 9223372036854775807) (h : L1 ≤ n ∧ M1 ≤ n ∧ L2 ≤ n ∧ M2 ≤ n ∧ L3 ≤ n ∧ M3 ≤ n ∧ L4 ≤ n ∧ M4 ≤ n) :
    Calls Tryz.prog 9 #[.int .i64 n, Value.agg #[Value.bool s1, Value.slice A1 L1 c1, Value.slice B1 M1 d1, Value.bool s2, Value.slice A2 L2 c2, Value.slice B2 M2 d2], Value.agg #[Value.bool s3, Value.slice A3 L3 c3, Value.slice B3 M3 d3, Value.bool s4, Value.slice A4 L4 c4, Value.slice B4 M4 d4]] w fun e w' => e = .returned (.bool true) ∧ Ext w w' := by
  have e : ∀ L M : Nat, L ≤ n → M ≤ n → (decide (L ≤ n) && decide (M ≤ n)) = true := fun L M h1 h2 => by simp [h1, h2]
  exact few6_0 p1 k1 p2 k2 p3 k3 p4 k4 (e _ _ h.1 h.2.1) (e _ _ h.2.2.1 h.2.2.2.1) (e _ _ h.2.2.2.2.1 h.2.2.2.2.2.1) (e _ _ h.2.2.2.2.2.2.1 h.2.2.2.2.2.2.2)
theorem lo_awake : mlo ((-1 : Int) : Rat) ((2 : Int) : Rat) ((3 : Int) : Rat) ((4 : Int) : Rat) = ⟨-4, 1, by decide, by decide⟩ := by decide +kernel
theorem hi_awake : mhi ((-1 : Int) : Rat) ((2 : Int) : Rat) ((3 : Int) : Rat) ((4 : Int) : Rat) = ⟨8, 1, by decide, by decide⟩ := by decide +kernel
theorem fmt_m4 : fmtQ ⟨-4, 1, by decide, by decide⟩ = [45, 52] := by
  have h4 : digs 10 4 = [4] := by
    have := digs_of_val (B := 10) (ds := [4]) (by omega) (by unfold Valid; simp) (by simp)
    simpa [val] using this
  unfold fmtQ fmtL
  show ([45] ++ ((digs 10 4).map sym).reverse) ++ [] = _
  rw [h4]
  rfl
theorem fmt_8 : fmtQ ⟨8, 1, by decide, by decide⟩ = [56] := by
  have h8 : digs 10 8 = [8] := by
    have := digs_of_val (B := 10) (ds := [8]) (by omega) (by unfold Valid; simp) (by simp)
    simpa [val] using this
  unfold fmtQ fmtL
  show ([] ++ ((digs 10 8).map sym).reverse) ++ [] = _
  rw [h8]
  rfl
set_option maxHeartbeats 4000000 in
set_option maxRecDepth 100000 in
theorem awake6 (w : World) : Calls Tryz.prog 8 #[] w fun e w' => e = .returned (.bool true) ∧ Ext w w' := by
  have HF1 : Hid (∀ w s A c L B d M, RV w s A c L B d M 2 ⟨-4, 1, by decide, by decide⟩ → Calls Tryz.prog 46 #[.agg #[.bool s, .slice A L c, .slice B M d]] w fun e w' => e = .returned (.string ⟨#[45, 52]⟩) ∧ Ext w w') := by
    intro w s A c L B d M h
    refine (rformat_r h (by omega)).mono ?_
    rintro e w' ⟨t, rfl, ht, hx⟩
    rw [fmt_m4] at ht
    have : t = ⟨#[45, 52]⟩ := bs_inj (by rw [ht]; rfl)
    rw [this]
    exact ⟨rfl, hx⟩
  have HF2 : Hid (∀ w s A c L B d M, RV w s A c L B d M 2 ⟨8, 1, by decide, by decide⟩ → Calls Tryz.prog 46 #[.agg #[.bool s, .slice A L c, .slice B M d]] w fun e w' => e = .returned (.string ⟨#[56]⟩) ∧ Ext w w') := by
    intro w s A c L B d M h
    refine (rformat_r h (by omega)).mono ?_
    rintro e w' ⟨t, rfl, ht, hx⟩
    rw [fmt_8] at ht
    have : t = ⟨#[56]⟩ := bs_inj (by rw [ht]; rfl)
    rw [this]
    exact ⟨rfl, hx⟩
  have HO1 : Hid (∀ w, Calls Tryz.prog 44 #[.int .i64 (-1)] w (RetR w 1 (((-1) : Int) : Rat))) := fun w => rof_r (by omega)
  have HO2 : Hid (∀ w, Calls Tryz.prog 44 #[.int .i64 2] w (RetR w 1 ((2 : Int) : Rat))) := fun w => rof_r (by omega)
  have HO3 : Hid (∀ w, Calls Tryz.prog 44 #[.int .i64 3] w (RetR w 1 ((3 : Int) : Rat))) := fun w => rof_r (by omega)
  have HO4 : Hid (∀ w, Calls Tryz.prog 44 #[.int .i64 4] w (RetR w 1 ((4 : Int) : Rat))) := fun w => rof_r (by omega)
  have HM : Hid (∀ w s1 A1 c1 L1 B1 d1 M1 s2 A2 c2 L2 B2 d2 M2 s3 A3 c3 L3 B3 d3 M3 s4 A4 c4 L4 B4 d4 M4, RV w s1 A1 c1 L1 B1 d1 M1 1 (((-1) : Int) : Rat) → RV w s2 A2 c2 L2 B2 d2 M2 1 ((2 : Int) : Rat) → RV w s3 A3 c3 L3 B3 d3 M3 1 ((3 : Int) : Rat) → RV w s4 A4 c4 L4 B4 d4 M4 1 ((4 : Int) : Rat) → Calls Tryz.prog 28 #[Value.agg #[Value.bool s1, Value.slice A1 L1 c1, Value.slice B1 M1 d1, Value.bool s2, Value.slice A2 L2 c2, Value.slice B2 M2 d2], Value.agg #[Value.bool s3, Value.slice A3 L3 c3, Value.slice B3 M3 d3, Value.bool s4, Value.slice A4 L4 c4, Value.slice B4 M4 d4]] w (RetI w 2 ⟨-4, 1, by decide, by decide⟩ ⟨8, 1, by decide, by decide⟩)) := by
    intro w s1 A1 c1 L1 B1 d1 M1 s2 A2 c2 L2 B2 d2 M2 s3 A3 c3 L3 B3 d3 M3 s4 A4 c4 L4 B4 d4 M4 h1 h2 h3 h4
    rw [← lo_awake, ← hi_awake]
    exact imul_r h1 h2 h3 h4 (by omega)
  go_enter Tryz.func8, Tryz.ntmps8
  go_wp2_with fail
  refine (HO1.out _).mono ?_
  rintro e w1 ⟨su, Au, cu, Lu, Bu, du, Mu, rfl, u, x1⟩
  have szw1 : w.heap.size ≤ w1.heap.size := x1.size
  have HU := Lib.hid u.rv
  clear u
  go_wp2_with fail
  refine (HO2.out _).mono ?_
  rintro e w2 ⟨sv, Av, cv, Lv, Bv, dv, Mv, rfl, v, x2⟩
  have szw2 : w1.heap.size ≤ w2.heap.size := x2.size
  have HV := Lib.hid v.rv
  clear v
  go_wp2_with fail
  refine (HO3.out _).mono ?_
  rintro e w3 ⟨sx, Ax, cx, Lx, Bx, dx, Mx, rfl, x, x3⟩
  have szw3 : w2.heap.size ≤ w3.heap.size := x3.size
  have HX := Lib.hid x.rv
  clear x
  go_wp2_with fail
  refine (HO4.out _).mono ?_
  rintro e w4 ⟨sy, Ay, cy, Ly, By, dy, My, rfl, y, x4⟩
  have szw4 : w3.heap.size ≤ w4.heap.size := x4.size
  have HY := Lib.hid y.rv
  clear y
  go_wp2_with fail
  refine (HM.out _ _ _ _ _ _ _ _ _ _ _ _ _ _ _ _ _ _ _ _ _ _ _ _ _ _ _ _ _ (HU.out.ext (by with_reducible repeat' first | exact Ext.refl _ | assumption | apply Ext.alloc_r | apply Ext.drew_r | apply Ext.drewN_r | refine Ext.trans ?_ ‹Ext _ _›)) (HV.out.ext (by with_reducible repeat' first | exact Ext.refl _ | assumption | apply Ext.alloc_r | apply Ext.drew_r | apply Ext.drewN_r | refine Ext.trans ?_ ‹Ext _ _›)) (HX.out.ext (by with_reducible repeat' first | exact Ext.refl _ | assumption | apply Ext.alloc_r | apply Ext.drew_r | apply Ext.drewN_r | refine Ext.trans ?_ ‹Ext _ _›)) (HY.out.ext (by with_reducible repeat' first | exact Ext.refl _ | assumption | apply Ext.alloc_r | apply Ext.drew_r | apply Ext.drewN_r | refine Ext.trans ?_ ‹Ext _ _›))).mono ?_
  rintro e w5 ⟨sza, Aza, cza, Lza, Bza, dza, Mza, szb, Azb, czb, Lzb, Bzb, dzb, Mzb, rfl, za, zb, x5⟩
  have szw5 : w4.heap.size ≤ w5.heap.size := x5.size
  have HZ := Lib.hid (And.intro za.rv zb.rv)
  clear za zb HU HV HX HY HM HO1 HO2 HO3 HO4
  go_wp2_with fail
  obtain ⟨w6, hw⟩ : ∃ z : World, z = (w5.alloc (.cells #[.bool sza, .slice Aza Lza cza, .slice Bza Mza dza, .bool szb, .slice Azb Lzb czb, .slice Bzb Mzb dzb] 29)) := ⟨_, rfl⟩
  rw [← hw]
  have x6 : Ext w5 w6 := by rw [hw]; exact (Ext.alloc _ _)
  have bxp : BK w6 (w5.heap.size) 29 #[.bool sza, .slice Aza Lza cza, .slice Bza Mza dza, .bool szb, .slice Azb Lzb czb, .slice Bzb Mzb dzb] := by rw [hw]; have h5 := (BK.new w5 #[.bool sza, .slice Aza Lza cza, .slice Bza Mza dza, .bool szb, .slice Azb Lzb czb, .slice Bzb Mzb dzb] 29); simpa only [World.size_alloc] using h5
  have szw6 : w6.heap.size = w5.heap.size + 1 := by rw [hw]; simp only [World.size_alloc]
  clear hw
  refine (HF1.out _ _ _ _ _ _ _ _ (HZ.out.1.ext (by with_reducible repeat' first | exact Ext.refl _ | assumption | apply Ext.alloc_r | apply Ext.drew_r | apply Ext.drewN_r | refine Ext.trans ?_ ‹Ext _ _›))).mono ?_
  rintro e w7 ⟨rfl, x7⟩
  have szw7 : w6.heap.size ≤ w7.heap.size := x7.size
  replace bxp := bxp.ext x7
  have kp_0 := bxp.c 0 (.bool sza) rfl
  have kp_1 := bxp.c 1 (.slice Aza Lza cza) rfl
  have kp_2 := bxp.c 2 (.slice Bza Mza dza) rfl
  have kp_3 := bxp.c 3 (.bool szb) rfl
  have kp_4 := bxp.c 4 (.slice Azb Lzb czb) rfl
  have kp_5 := bxp.c 5 (.slice Bzb Mzb dzb) rfl
  go_wp2_with fail
  clear kp_0 kp_1 kp_2 kp_3 kp_4 kp_5
  refine (HF2.out _ _ _ _ _ _ _ _ (HZ.out.2.ext (by with_reducible repeat' first | exact Ext.refl _ | assumption | apply Ext.alloc_r | apply Ext.drew_r | apply Ext.drewN_r | refine Ext.trans ?_ ‹Ext _ _›))).mono ?_
  rintro e w8 ⟨rfl, x8⟩
  have szw8 : w7.heap.size ≤ w8.heap.size := x8.size
  replace bxp := bxp.ext x8
  clear HZ HF1 HF2
  have x0w : Ext w w8 := (by with_reducible repeat' first | exact Ext.refl _ | assumption | apply Ext.alloc_r | apply Ext.drew_r | apply Ext.drewN_r | refine Ext.trans ?_ ‹Ext _ _›)
  have kp_0 := bxp.c 0 (.bool sza) rfl
  have kp_1 := bxp.c 1 (.slice Aza Lza cza) rfl
  have kp_2 := bxp.c 2 (.slice Bza Mza dza) rfl
  have kp_3 := bxp.c 3 (.bool szb) rfl
  have kp_4 := bxp.c 4 (.slice Azb Lzb czb) rfl
  have kp_5 := bxp.c 5 (.slice Bzb Mzb dzb) rfl
  go_wp2_with fail
  clear kp_0 kp_1 kp_2 kp_3 kp_4 kp_5
  go_ret
  exact ⟨by rfl, x0w⟩
end Go.Proofs.YtehhkeenjlpikaaGreat
