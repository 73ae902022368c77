import Derived.Test.YtehhkeenjlpikaaGreatQuIvC
import Derived.Deep.RegionHeldLaw
import Derived.Deep.LoopGhost
import Derived.Deep.QuietTactic
import Derived.BigQuiet
namespace Go.Proofs.YtehhkeenjlpikaaGreat
open Go.RowKit
theorem rsign_k {w : World} {N : Nat} {s1 : Bool} {A1 B1 : Option Addr} {c1 d1 L1 M1 : Nat} {q1 : Rat} {k : Int} (h1 : RV w s1 A1 c1 L1 B1 d1 M1 N q1) (e : q1.num.sign = k) :
    Calls Tryz.prog 48 #[Value.agg #[Value.bool s1, Value.slice A1 L1 c1, Value.slice B1 M1 d1]] w fun e w' => e = .returned (.int .i64 k) ∧ Ext w w' := by rw [← e]; exact rsign_r h1
set_option maxHeartbeats 4000000 in
set_option maxRecDepth 100000 in
theorem isign_eq {w : World} {N : Nat} {s1 s2 : Bool} {A1 B1 A2 B2 : Option Addr} {c1 d1 L1 M1 c2 d2 L2 M2 : Nat} {q1 q2 : Rat} {z1 z2 : Int} (h1 : RV w s1 A1 c1 L1 B1 d1 M1 N q1) (h2 : RV w s2 A2 c2 L2 B2 d2 M2 N q2) (e1 : q1.num.sign = z1) (e2 : q2.num.sign = z2) (hz : z1 = z2) :
    Calls Tryz.prog 11 #[Value.agg #[Value.bool s1, Value.slice A1 L1 c1, Value.slice B1 M1 d1, Value.bool s2, Value.slice A2 L2 c2, Value.slice B2 M2 d2]] w fun e w' => e = .returned (.tuple #[.int .i64 z1, .bool true]) ∧ Ext w w' := by
  subst hz
  have E1 := Lib.hid e1
  have E2 := Lib.hid e2
  clear e1 e2
  go_enter Tryz.func11, Tryz.ntmps11
  go_wp2_with fail
  obtain ⟨w0, hw0⟩ : ∃ z : World, z = (w.alloc (.cells #[.bool s1, .slice A1 L1 c1, .slice B1 M1 d1, .bool s2, .slice A2 L2 c2, .slice B2 M2 d2] 29)) := ⟨_, rfl⟩
  rw [← hw0]
  have bxi : BK w0 (w.heap.size) 29 #[.bool s1, .slice A1 L1 c1, .slice B1 M1 d1, .bool s2, .slice A2 L2 c2, .slice B2 M2 d2] := by rw [hw0]; have h5 := (BK.new w #[.bool s1, .slice A1 L1 c1, .slice B1 M1 d1, .bool s2, .slice A2 L2 c2, .slice B2 M2 d2] 29); simpa only [World.size_alloc] using h5
  have hszw0 : w0.heap.size = w.heap.size + 1 := by rw [hw0]; simp only [World.size_alloc]
  have xw0 : Ext w w0 := by rw [hw0]; exact (Ext.alloc _ _)
  clear hw0
  have ki_0 := bxi.c 0 (.bool s1) rfl
  have ki_1 := bxi.c 1 (.slice A1 L1 c1) rfl
  have ki_2 := bxi.c 2 (.slice B1 M1 d1) rfl
  have ki_3 := bxi.c 3 (.bool s2) rfl
  have ki_4 := bxi.c 4 (.slice A2 L2 c2) rfl
  have ki_5 := bxi.c 5 (.slice B2 M2 d2) rfl
  go_wp2_with fail
  have HK : Hid (∀ w', Ext w0 w' → (w'.cell? ⟨w.heap.size, 0, none⟩ = some (.bool s1) ∧ w'.cell? ⟨w.heap.size, 1, none⟩ = some (.slice A1 L1 c1) ∧ w'.cell? ⟨w.heap.size, 2, none⟩ = some (.slice B1 M1 d1) ∧ w'.cell? ⟨w.heap.size, 3, none⟩ = some (.bool s2) ∧ w'.cell? ⟨w.heap.size, 4, none⟩ = some (.slice A2 L2 c2) ∧ w'.cell? ⟨w.heap.size, 5, none⟩ = some (.slice B2 M2 d2))) := fun w' hk => ⟨hk.cell ki_0, hk.cell ki_1, hk.cell ki_2, hk.cell ki_3, hk.cell ki_4, hk.cell ki_5⟩
  go_region_held3 (fun w' => w'.cell? ⟨w.heap.size, 0, none⟩ = some (.bool s1) ∧ w'.cell? ⟨w.heap.size, 1, none⟩ = some (.slice A1 L1 c1) ∧ w'.cell? ⟨w.heap.size, 2, none⟩ = some (.slice B1 M1 d1) ∧ w'.cell? ⟨w.heap.size, 3, none⟩ = some (.bool s2) ∧ w'.cell? ⟨w.heap.size, 4, none⟩ = some (.slice A2 L2 c2) ∧ w'.cell? ⟨w.heap.size, 5, none⟩ = some (.slice B2 M2 d2))
    ((with_reducible refine HK.out _ ?_; (with_reducible repeat' first | exact Ext.refl _ | assumption | apply Ext.alloc_r | apply Ext.drew_r | apply Ext.drewN_r | refine Ext.trans ?_ ‹Ext _ _›)))
    (first
      | (go_at_call_of 48 (#[Value.agg #[Value.bool s2, Value.slice A2 L2 c2, Value.slice B2 M2 d2]]); refine (rsign_k (h2.ext (by with_reducible repeat' first | exact Ext.refl _ | assumption | apply Ext.alloc_r | apply Ext.drew_r | apply Ext.drewN_r | refine Ext.trans ?_ ‹Ext _ _›)) E2.out).mono ?_; rintro e w2 ⟨rfl, x2⟩)
      | (go_at_call_of 48 (#[Value.agg #[Value.bool s1, Value.slice A1 L1 c1, Value.slice B1 M1 d1]]); refine (rsign_k (h1.ext (by with_reducible repeat' first | exact Ext.refl _ | assumption | apply Ext.alloc_r | apply Ext.drew_r | apply Ext.drewN_r | refine Ext.trans ?_ ‹Ext _ _›)) E1.out).mono ?_; rintro e w1 ⟨rfl, x1⟩))
  clear ki_0 ki_1 ki_2 ki_3 ki_4 ki_5
  clear HK
  have szw1 : w0.heap.size ≤ w1.heap.size := (show Ext w0 w1 from (by with_reducible repeat' first | exact Ext.refl _ | assumption | apply Ext.alloc_r | apply Ext.drew_r | apply Ext.drewN_r | refine Ext.trans ?_ ‹Ext _ _›)).size
  have xhw2 : Ext w0 w2 := (by with_reducible repeat' first | exact Ext.refl _ | assumption | apply Ext.alloc_r | apply Ext.drew_r | apply Ext.drewN_r | refine Ext.trans ?_ ‹Ext _ _›)
  have szw2 : w0.heap.size ≤ w2.heap.size := xhw2.size
  replace bxi := bxi.ext xhw2
  have x0w : Ext w w2 := (by with_reducible repeat' first | exact Ext.refl _ | assumption | apply Ext.alloc_r | apply Ext.drew_r | apply Ext.drewN_r | refine Ext.trans ?_ ‹Ext _ _›)
  clear E1 E2
  have ki_0 := bxi.c 0 (.bool s1) rfl
  have ki_1 := bxi.c 1 (.slice A1 L1 c1) rfl
  have ki_2 := bxi.c 2 (.slice B1 M1 d1) rfl
  have ki_3 := bxi.c 3 (.bool s2) rfl
  have ki_4 := bxi.c 4 (.slice A2 L2 c2) rfl
  have ki_5 := bxi.c 5 (.slice B2 M2 d2) rfl
  go_wp2_with fail
  clear ki_0 ki_1 ki_2 ki_3 ki_4 ki_5
  go_ret2
  exact ⟨rfl, x0w⟩
set_option maxHeartbeats 4000000 in
set_option maxRecDepth 100000 in
theorem isign_ne {w : World} {N : Nat} {s1 s2 : Bool} {A1 B1 A2 B2 : Option Addr} {c1 d1 L1 M1 c2 d2 L2 M2 : Nat} {q1 q2 : Rat} {z1 z2 : Int} (h1 : RV w s1 A1 c1 L1 B1 d1 M1 N q1) (h2 : RV w s2 A2 c2 L2 B2 d2 M2 N q2) (e1 : q1.num.sign = z1) (e2 : q2.num.sign = z2) (hz : z1 ≠ z2) :
    Calls Tryz.prog 11 #[Value.agg #[Value.bool s1, Value.slice A1 L1 c1, Value.slice B1 M1 d1, Value.bool s2, Value.slice A2 L2 c2, Value.slice B2 M2 d2]] w fun e w' => e = .returned (.tuple #[.int .i64 0, .bool false]) ∧ Ext w w' := by
  have hb1 : (z1 == z2) = false := beq_eq_false_iff_ne.2 hz
  have hb2 : (z1 != z2) = true := by simpa using hz
  clear hz
  have E1 := Lib.hid e1
  have E2 := Lib.hid e2
  clear e1 e2
  go_enter Tryz.func11, Tryz.ntmps11
  go_wp2_with fail
  obtain ⟨w0, hw0⟩ : ∃ z : World, z = (w.alloc (.cells #[.bool s1, .slice A1 L1 c1, .slice B1 M1 d1, .bool s2, .slice A2 L2 c2, .slice B2 M2 d2] 29)) := ⟨_, rfl⟩
  rw [← hw0]
  have bxi : BK w0 (w.heap.size) 29 #[.bool s1, .slice A1 L1 c1, .slice B1 M1 d1, .bool s2, .slice A2 L2 c2, .slice B2 M2 d2] := by rw [hw0]; have h5 := (BK.new w #[.bool s1, .slice A1 L1 c1, .slice B1 M1 d1, .bool s2, .slice A2 L2 c2, .slice B2 M2 d2] 29); simpa only [World.size_alloc] using h5
  have hszw0 : w0.heap.size = w.heap.size + 1 := by rw [hw0]; simp only [World.size_alloc]
  have xw0 : Ext w w0 := by rw [hw0]; exact (Ext.alloc _ _)
  clear hw0
  have ki_0 := bxi.c 0 (.bool s1) rfl
  have ki_1 := bxi.c 1 (.slice A1 L1 c1) rfl
  have ki_2 := bxi.c 2 (.slice B1 M1 d1) rfl
  have ki_3 := bxi.c 3 (.bool s2) rfl
  have ki_4 := bxi.c 4 (.slice A2 L2 c2) rfl
  have ki_5 := bxi.c 5 (.slice B2 M2 d2) rfl
  go_wp2_with fail
  have HK : Hid (∀ w', Ext w0 w' → (w'.cell? ⟨w.heap.size, 0, none⟩ = some (.bool s1) ∧ w'.cell? ⟨w.heap.size, 1, none⟩ = some (.slice A1 L1 c1) ∧ w'.cell? ⟨w.heap.size, 2, none⟩ = some (.slice B1 M1 d1) ∧ w'.cell? ⟨w.heap.size, 3, none⟩ = some (.bool s2) ∧ w'.cell? ⟨w.heap.size, 4, none⟩ = some (.slice A2 L2 c2) ∧ w'.cell? ⟨w.heap.size, 5, none⟩ = some (.slice B2 M2 d2))) := fun w' hk => ⟨hk.cell ki_0, hk.cell ki_1, hk.cell ki_2, hk.cell ki_3, hk.cell ki_4, hk.cell ki_5⟩
  go_region_held3 (fun w' => w'.cell? ⟨w.heap.size, 0, none⟩ = some (.bool s1) ∧ w'.cell? ⟨w.heap.size, 1, none⟩ = some (.slice A1 L1 c1) ∧ w'.cell? ⟨w.heap.size, 2, none⟩ = some (.slice B1 M1 d1) ∧ w'.cell? ⟨w.heap.size, 3, none⟩ = some (.bool s2) ∧ w'.cell? ⟨w.heap.size, 4, none⟩ = some (.slice A2 L2 c2) ∧ w'.cell? ⟨w.heap.size, 5, none⟩ = some (.slice B2 M2 d2))
    ((with_reducible refine HK.out _ ?_; (with_reducible repeat' first | exact Ext.refl _ | assumption | apply Ext.alloc_r | apply Ext.drew_r | apply Ext.drewN_r | refine Ext.trans ?_ ‹Ext _ _›)))
    (first
      | (go_at_call_of 48 (#[Value.agg #[Value.bool s2, Value.slice A2 L2 c2, Value.slice B2 M2 d2]]); refine (rsign_k (h2.ext (by with_reducible repeat' first | exact Ext.refl _ | assumption | apply Ext.alloc_r | apply Ext.drew_r | apply Ext.drewN_r | refine Ext.trans ?_ ‹Ext _ _›)) E2.out).mono ?_; rintro e w2 ⟨rfl, x2⟩)
      | (go_at_call_of 48 (#[Value.agg #[Value.bool s1, Value.slice A1 L1 c1, Value.slice B1 M1 d1]]); refine (rsign_k (h1.ext (by with_reducible repeat' first | exact Ext.refl _ | assumption | apply Ext.alloc_r | apply Ext.drew_r | apply Ext.drewN_r | refine Ext.trans ?_ ‹Ext _ _›)) E1.out).mono ?_; rintro e w1 ⟨rfl, x1⟩))
  clear ki_0 ki_1 ki_2 ki_3 ki_4 ki_5
  clear HK
  have szw1 : w0.heap.size ≤ w1.heap.size := (show Ext w0 w1 from (by with_reducible repeat' first | exact Ext.refl _ | assumption | apply Ext.alloc_r | apply Ext.drew_r | apply Ext.drewN_r | refine Ext.trans ?_ ‹Ext _ _›)).size
  have xhw2 : Ext w0 w2 := (by with_reducible repeat' first | exact Ext.refl _ | assumption | apply Ext.alloc_r | apply Ext.drew_r | apply Ext.drewN_r | refine Ext.trans ?_ ‹Ext _ _›)
  have szw2 : w0.heap.size ≤ w2.heap.size := xhw2.size
  replace bxi := bxi.ext xhw2
  have x0w : Ext w w2 := (by with_reducible repeat' first | exact Ext.refl _ | assumption | apply Ext.alloc_r | apply Ext.drew_r | apply Ext.drewN_r | refine Ext.trans ?_ ‹Ext _ _›)
  clear E1 E2
  have ki_0 := bxi.c 0 (.bool s1) rfl
  have ki_1 := bxi.c 1 (.slice A1 L1 c1) rfl
  have ki_2 := bxi.c 2 (.slice B1 M1 d1) rfl
  have ki_3 := bxi.c 3 (.bool s2) rfl
  have ki_4 := bxi.c 4 (.slice A2 L2 c2) rfl
  have ki_5 := bxi.c 5 (.slice B2 M2 d2) rfl
  go_wp2_with fail
  clear ki_0 ki_1 ki_2 ki_3 ki_4 ki_5
  go_ret2
  exact ⟨rfl, x0w⟩
/-- The call returns the zero interval and the error k. -/
def RetI0 (w : World) (k : Int) (e : Ending) (w' : World) : Prop := e = .returned (.tuple #[.agg #[.bool false, .slice none 0 0, .slice none 0 0, .bool false, .slice none 0 0, .slice none 0 0], .int .i64 k]) ∧ Ext w w'
set_option maxHeartbeats 4000000 in
set_option maxRecDepth 100000 in
theorem iquo_ne {w : World} {N : Nat} {s1 s2 s3 s4 : Bool} {A1 B1 A2 B2 A3 B3 A4 B4 : Option Addr} {c1 d1 L1 M1 c2 d2 L2 M2 c3 d3 L3 M3 c4 d4 L4 M4 : Nat} {q3 q4 : Rat} {z1 z2 : Int} (h3 : RV w s3 A3 c3 L3 B3 d3 M3 N q3) (h4 : RV w s4 A4 c4 L4 B4 d4 M4 N q4) (e1 : q3.num.sign = z1) (e2 : q4.num.sign = z2) (hz : z1 ≠ z2) :
    Calls Tryz.prog 12 #[Value.agg #[Value.bool s1, Value.slice A1 L1 c1, Value.slice B1 M1 d1, Value.bool s2, Value.slice A2 L2 c2, Value.slice B2 M2 d2], Value.agg #[Value.bool s3, Value.slice A3 L3 c3, Value.slice B3 M3 d3, Value.bool s4, Value.slice A4 L4 c4, Value.slice B4 M4 d4]] w (RetI0 w 2) := by
  go_enter Tryz.func12, Tryz.ntmps12
  go_wp2_with fail
  obtain ⟨w0, hw0⟩ : ∃ z : World, z = (((w.alloc (.cells #[.bool s1, .slice A1 L1 c1, .slice B1 M1 d1, .bool s2, .slice A2 L2 c2, .slice B2 M2 d2] 29)).alloc (.cells #[.bool s3, .slice A3 L3 c3, .slice B3 M3 d3, .bool s4, .slice A4 L4 c4, .slice B4 M4 d4] 29)).alloc (.cells #[.bool false, .slice none 0 0, .slice none 0 0, .bool false, .slice none 0 0, .slice none 0 0] 29)) := ⟨_, rfl⟩
  rw [← hw0]
  have bxi : BK w0 (w.heap.size) 29 #[.bool s1, .slice A1 L1 c1, .slice B1 M1 d1, .bool s2, .slice A2 L2 c2, .slice B2 M2 d2] := by rw [hw0]; have h5 := (BK.ext (BK.ext (BK.new w #[.bool s1, .slice A1 L1 c1, .slice B1 M1 d1, .bool s2, .slice A2 L2 c2, .slice B2 M2 d2] 29) (Ext.alloc _ (.cells #[.bool s3, .slice A3 L3 c3, .slice B3 M3 d3, .bool s4, .slice A4 L4 c4, .slice B4 M4 d4] 29))) (Ext.alloc _ (.cells #[.bool false, .slice none 0 0, .slice none 0 0, .bool false, .slice none 0 0, .slice none 0 0] 29))); simpa only [World.size_alloc] using h5
  have bxj : BK w0 (w.heap.size + 1) 29 #[.bool s3, .slice A3 L3 c3, .slice B3 M3 d3, .bool s4, .slice A4 L4 c4, .slice B4 M4 d4] := by rw [hw0]; have h5 := (BK.ext (BK.new (w.alloc (.cells #[.bool s1, .slice A1 L1 c1, .slice B1 M1 d1, .bool s2, .slice A2 L2 c2, .slice B2 M2 d2] 29)) #[.bool s3, .slice A3 L3 c3, .slice B3 M3 d3, .bool s4, .slice A4 L4 c4, .slice B4 M4 d4] 29) (Ext.alloc _ (.cells #[.bool false, .slice none 0 0, .slice none 0 0, .bool false, .slice none 0 0, .slice none 0 0] 29))); simpa only [World.size_alloc] using h5
  have bxr : BK w0 (w.heap.size + 1 + 1) 29 #[.bool false, .slice none 0 0, .slice none 0 0, .bool false, .slice none 0 0, .slice none 0 0] := by rw [hw0]; have h5 := (BK.new ((w.alloc (.cells #[.bool s1, .slice A1 L1 c1, .slice B1 M1 d1, .bool s2, .slice A2 L2 c2, .slice B2 M2 d2] 29)).alloc (.cells #[.bool s3, .slice A3 L3 c3, .slice B3 M3 d3, .bool s4, .slice A4 L4 c4, .slice B4 M4 d4] 29)) #[.bool false, .slice none 0 0, .slice none 0 0, .bool false, .slice none 0 0, .slice none 0 0] 29); simpa only [World.size_alloc] using h5
  have hszw0 : w0.heap.size = w.heap.size + 1 + 1 + 1 := by rw [hw0]; simp only [World.size_alloc]
  have xw0 : Ext w w0 := by rw [hw0]; exact (((Ext.alloc _ _).trans (Ext.alloc _ _)).trans (Ext.alloc _ _))
  clear hw0
  refine (isign_ne (h3.ext (by with_reducible repeat' first | exact Ext.refl _ | assumption | apply Ext.alloc_r | apply Ext.drew_r | apply Ext.drewN_r | refine Ext.trans ?_ ‹Ext _ _›)) (h4.ext (by with_reducible repeat' first | exact Ext.refl _ | assumption | apply Ext.alloc_r | apply Ext.drew_r | apply Ext.drewN_r | refine Ext.trans ?_ ‹Ext _ _›)) e1 e2 hz).mono ?_
  rintro e w1 ⟨rfl, x1⟩
  have szw1 : w0.heap.size ≤ w1.heap.size := x1.size
  replace bxi := bxi.ext x1
  replace bxj := bxj.ext x1
  replace bxr := bxr.ext x1
  clear e1 e2 h3 h4 hz
  have ki_0 := bxi.c 0 (.bool s1) rfl
  have ki_1 := bxi.c 1 (.slice A1 L1 c1) rfl
  have ki_2 := bxi.c 2 (.slice B1 M1 d1) rfl
  have ki_3 := bxi.c 3 (.bool s2) rfl
  have ki_4 := bxi.c 4 (.slice A2 L2 c2) rfl
  have ki_5 := bxi.c 5 (.slice B2 M2 d2) rfl
  have kj_0 := bxj.c 0 (.bool s3) rfl
  have kj_1 := bxj.c 1 (.slice A3 L3 c3) rfl
  have kj_2 := bxj.c 2 (.slice B3 M3 d3) rfl
  have kj_3 := bxj.c 3 (.bool s4) rfl
  have kj_4 := bxj.c 4 (.slice A4 L4 c4) rfl
  have kj_5 := bxj.c 5 (.slice B4 M4 d4) rfl
  have kr_0 := bxr.c 0 (.bool false) rfl
  have fr_0 := bxr.f 0
  have kr_1 := bxr.c 1 (.slice none 0 0) rfl
  have fr_1 := bxr.f 1
  have kr_2 := bxr.c 2 (.slice none 0 0) rfl
  have fr_2 := bxr.f 2
  have kr_3 := bxr.c 3 (.bool false) rfl
  have fr_3 := bxr.f 3
  have kr_4 := bxr.c 4 (.slice none 0 0) rfl
  have fr_4 := bxr.f 4
  have kr_5 := bxr.c 5 (.slice none 0 0) rfl
  have fr_5 := bxr.f 5
  go_wp2_with fail
  clear ki_0 ki_1 ki_2 ki_3 ki_4 ki_5 kj_0 kj_1 kj_2 kj_3 kj_4 kj_5 kr_0 fr_0 kr_1 fr_1 kr_2 fr_2 kr_3 fr_3 kr_4 fr_4 kr_5 fr_5
  obtain ⟨w2, hw⟩ : ∃ z : World, z = ((((((w1.setCell ⟨w.heap.size + 1 + 1, 0, none⟩ (.bool false)).setCell ⟨w.heap.size + 1 + 1, 1, none⟩ (.slice none 0 0)).setCell ⟨w.heap.size + 1 + 1, 2, none⟩ (.slice none 0 0)).setCell ⟨w.heap.size + 1 + 1, 3, none⟩ (.bool false)).setCell ⟨w.heap.size + 1 + 1, 4, none⟩ (.slice none 0 0)).setCell ⟨w.heap.size + 1 + 1, 5, none⟩ (.slice none 0 0)) := ⟨_, rfl⟩
  rw [← hw]
  have kw2 : Kept w1 w2 := by rw [hw]; exact (Kept.set_ (Kept.set_ (Kept.set_ (Kept.set_ (Kept.set_ (Kept.set_ (Kept.refl _) bxr.isBox plain_iv) (IsBox.set_ bxr.isBox) plain_iv) (IsBox.set_ (IsBox.set_ bxr.isBox)) plain_iv) (IsBox.set_ (IsBox.set_ (IsBox.set_ bxr.isBox))) plain_iv) (IsBox.set_ (IsBox.set_ (IsBox.set_ (IsBox.set_ bxr.isBox)))) plain_iv) (IsBox.set_ (IsBox.set_ (IsBox.set_ (IsBox.set_ (IsBox.set_ bxr.isBox))))) plain_iv)
  have nbi : BK w2 (w.heap.size) 29 #[.bool s1, .slice A1 L1 c1, .slice B1 M1 d1, .bool s2, .slice A2 L2 c2, .slice B2 M2 d2] := by rw [hw]; exact (BK.far (BK.far (BK.far (BK.far (BK.far (BK.far bxi (show w.heap.size ≠ w.heap.size + 1 + 1 by omega) 0 _) (show w.heap.size ≠ w.heap.size + 1 + 1 by omega) 1 _) (show w.heap.size ≠ w.heap.size + 1 + 1 by omega) 2 _) (show w.heap.size ≠ w.heap.size + 1 + 1 by omega) 3 _) (show w.heap.size ≠ w.heap.size + 1 + 1 by omega) 4 _) (show w.heap.size ≠ w.heap.size + 1 + 1 by omega) 5 _)
  have nbj : BK w2 (w.heap.size + 1) 29 #[.bool s3, .slice A3 L3 c3, .slice B3 M3 d3, .bool s4, .slice A4 L4 c4, .slice B4 M4 d4] := by rw [hw]; exact (BK.far (BK.far (BK.far (BK.far (BK.far (BK.far bxj (show w.heap.size + 1 ≠ w.heap.size + 1 + 1 by omega) 0 _) (show w.heap.size + 1 ≠ w.heap.size + 1 + 1 by omega) 1 _) (show w.heap.size + 1 ≠ w.heap.size + 1 + 1 by omega) 2 _) (show w.heap.size + 1 ≠ w.heap.size + 1 + 1 by omega) 3 _) (show w.heap.size + 1 ≠ w.heap.size + 1 + 1 by omega) 4 _) (show w.heap.size + 1 ≠ w.heap.size + 1 + 1 by omega) 5 _)
  have nbr : BK w2 (w.heap.size + 1 + 1) 29 #[.bool false, .slice none 0 0, .slice none 0 0, .bool false, .slice none 0 0, .slice none 0 0] := by rw [hw]; exact (BK.set (i := 5) (u := .slice none 0 0) (vs' := #[.bool false, .slice none 0 0, .slice none 0 0, .bool false, .slice none 0 0, .slice none 0 0]) (BK.set (i := 4) (u := .slice none 0 0) (vs' := #[.bool false, .slice none 0 0, .slice none 0 0, .bool false, .slice none 0 0, .slice none 0 0]) (BK.set (i := 3) (u := .bool false) (vs' := #[.bool false, .slice none 0 0, .slice none 0 0, .bool false, .slice none 0 0, .slice none 0 0]) (BK.set (i := 2) (u := .slice none 0 0) (vs' := #[.bool false, .slice none 0 0, .slice none 0 0, .bool false, .slice none 0 0, .slice none 0 0]) (BK.set (i := 1) (u := .slice none 0 0) (vs' := #[.bool false, .slice none 0 0, .slice none 0 0, .bool false, .slice none 0 0, .slice none 0 0]) (BK.set (i := 0) (u := .bool false) (vs' := #[.bool false, .slice none 0 0, .slice none 0 0, .bool false, .slice none 0 0, .slice none 0 0]) bxr rfl) rfl) rfl) rfl) rfl) rfl)
  have x2 : Ext w w2 := by rw [hw]; have hxp : Ext w w1 := (by with_reducible repeat' first | exact Ext.refl _ | assumption | apply Ext.alloc_r | apply Ext.drew_r | apply Ext.drewN_r | refine Ext.trans ?_ ‹Ext _ _›); exact (Ext.set_ (Ext.set_ (Ext.set_ (Ext.set_ (Ext.set_ (Ext.set_ hxp (show _ ≤ w.heap.size + 1 + 1 by omega)) (show _ ≤ w.heap.size + 1 + 1 by omega)) (show _ ≤ w.heap.size + 1 + 1 by omega)) (show _ ≤ w.heap.size + 1 + 1 by omega)) (show _ ≤ w.heap.size + 1 + 1 by omega)) (show _ ≤ w.heap.size + 1 + 1 by omega))
  clear bxi
  clear bxj
  clear bxr
  have bxi := nbi
  clear nbi
  have bxj := nbj
  clear nbj
  have bxr := nbr
  clear nbr
  have szw2 : w2.heap.size = w1.heap.size := by rw [hw]; simp
  clear hw kw2
  have kr_0 := bxr.c 0 (.bool false) rfl
  have kr_1 := bxr.c 1 (.slice none 0 0) rfl
  have kr_2 := bxr.c 2 (.slice none 0 0) rfl
  have kr_3 := bxr.c 3 (.bool false) rfl
  have kr_4 := bxr.c 4 (.slice none 0 0) rfl
  have kr_5 := bxr.c 5 (.slice none 0 0) rfl
  refine bodyPost_ret (v := .tuple #[.agg #[.bool false, .slice none 0 0, .slice none 0 0, .bool false, .slice none 0 0, .slice none 0 0], .int .i64 2]) (by simp [results, Tryz.results12, go_sem, kr_0, kr_1, kr_2, kr_3, kr_4, kr_5]) rfl ?_
  exact ⟨rfl, x2⟩
set_option maxHeartbeats 4000000 in
set_option maxRecDepth 100000 in
theorem iquo_zero {w : World} {N : Nat} {s1 s2 s3 s4 : Bool} {A1 B1 A2 B2 A3 B3 A4 B4 : Option Addr} {c1 d1 L1 M1 c2 d2 L2 M2 c3 d3 L3 M3 c4 d4 L4 M4 : Nat} {q3 q4 : Rat} {z1 z2 : Int} (h3 : RV w s3 A3 c3 L3 B3 d3 M3 N q3) (h4 : RV w s4 A4 c4 L4 B4 d4 M4 N q4) (e1 : q3.num.sign = z1) (e2 : q4.num.sign = z2) (hz : z1 = 0 ∧ z2 = 0) :
    Calls Tryz.prog 12 #[Value.agg #[Value.bool s1, Value.slice A1 L1 c1, Value.slice B1 M1 d1, Value.bool s2, Value.slice A2 L2 c2, Value.slice B2 M2 d2], Value.agg #[Value.bool s3, Value.slice A3 L3 c3, Value.slice B3 M3 d3, Value.bool s4, Value.slice A4 L4 c4, Value.slice B4 M4 d4]] w (RetI0 w 2) := by
  obtain ⟨rfl, rfl⟩ := hz
  go_enter Tryz.func12, Tryz.ntmps12
  go_wp2_with fail
  obtain ⟨w0, hw0⟩ : ∃ z : World, z = (((w.alloc (.cells #[.bool s1, .slice A1 L1 c1, .slice B1 M1 d1, .bool s2, .slice A2 L2 c2, .slice B2 M2 d2] 29)).alloc (.cells #[.bool s3, .slice A3 L3 c3, .slice B3 M3 d3, .bool s4, .slice A4 L4 c4, .slice B4 M4 d4] 29)).alloc (.cells #[.bool false, .slice none 0 0, .slice none 0 0, .bool false, .slice none 0 0, .slice none 0 0] 29)) := ⟨_, rfl⟩
  rw [← hw0]
  have bxi : BK w0 (w.heap.size) 29 #[.bool s1, .slice A1 L1 c1, .slice B1 M1 d1, .bool s2, .slice A2 L2 c2, .slice B2 M2 d2] := by rw [hw0]; have h5 := (BK.ext (BK.ext (BK.new w #[.bool s1, .slice A1 L1 c1, .slice B1 M1 d1, .bool s2, .slice A2 L2 c2, .slice B2 M2 d2] 29) (Ext.alloc _ (.cells #[.bool s3, .slice A3 L3 c3, .slice B3 M3 d3, .bool s4, .slice A4 L4 c4, .slice B4 M4 d4] 29))) (Ext.alloc _ (.cells #[.bool false, .slice none 0 0, .slice none 0 0, .bool false, .slice none 0 0, .slice none 0 0] 29))); simpa only [World.size_alloc] using h5
  have bxj : BK w0 (w.heap.size + 1) 29 #[.bool s3, .slice A3 L3 c3, .slice B3 M3 d3, .bool s4, .slice A4 L4 c4, .slice B4 M4 d4] := by rw [hw0]; have h5 := (BK.ext (BK.new (w.alloc (.cells #[.bool s1, .slice A1 L1 c1, .slice B1 M1 d1, .bool s2, .slice A2 L2 c2, .slice B2 M2 d2] 29)) #[.bool s3, .slice A3 L3 c3, .slice B3 M3 d3, .bool s4, .slice A4 L4 c4, .slice B4 M4 d4] 29) (Ext.alloc _ (.cells #[.bool false, .slice none 0 0, .slice none 0 0, .bool false, .slice none 0 0, .slice none 0 0] 29))); simpa only [World.size_alloc] using h5
  have bxr : BK w0 (w.heap.size + 1 + 1) 29 #[.bool false, .slice none 0 0, .slice none 0 0, .bool false, .slice none 0 0, .slice none 0 0] := by rw [hw0]; have h5 := (BK.new ((w.alloc (.cells #[.bool s1, .slice A1 L1 c1, .slice B1 M1 d1, .bool s2, .slice A2 L2 c2, .slice B2 M2 d2] 29)).alloc (.cells #[.bool s3, .slice A3 L3 c3, .slice B3 M3 d3, .bool s4, .slice A4 L4 c4, .slice B4 M4 d4] 29)) #[.bool false, .slice none 0 0, .slice none 0 0, .bool false, .slice none 0 0, .slice none 0 0] 29); simpa only [World.size_alloc] using h5
  have hszw0 : w0.heap.size = w.heap.size + 1 + 1 + 1 := by rw [hw0]; simp only [World.size_alloc]
  have xw0 : Ext w w0 := by rw [hw0]; exact (((Ext.alloc _ _).trans (Ext.alloc _ _)).trans (Ext.alloc _ _))
  clear hw0
  refine (isign_eq (h3.ext (by with_reducible repeat' first | exact Ext.refl _ | assumption | apply Ext.alloc_r | apply Ext.drew_r | apply Ext.drewN_r | refine Ext.trans ?_ ‹Ext _ _›)) (h4.ext (by with_reducible repeat' first | exact Ext.refl _ | assumption | apply Ext.alloc_r | apply Ext.drew_r | apply Ext.drewN_r | refine Ext.trans ?_ ‹Ext _ _›)) e1 e2 rfl).mono ?_
  rintro e w1 ⟨rfl, x1⟩
  have szw1 : w0.heap.size ≤ w1.heap.size := x1.size
  replace bxi := bxi.ext x1
  replace bxj := bxj.ext x1
  replace bxr := bxr.ext x1
  clear e1 e2 h3 h4
  have ki_0 := bxi.c 0 (.bool s1) rfl
  have ki_1 := bxi.c 1 (.slice A1 L1 c1) rfl
  have ki_2 := bxi.c 2 (.slice B1 M1 d1) rfl
  have ki_3 := bxi.c 3 (.bool s2) rfl
  have ki_4 := bxi.c 4 (.slice A2 L2 c2) rfl
  have ki_5 := bxi.c 5 (.slice B2 M2 d2) rfl
  have kj_0 := bxj.c 0 (.bool s3) rfl
  have kj_1 := bxj.c 1 (.slice A3 L3 c3) rfl
  have kj_2 := bxj.c 2 (.slice B3 M3 d3) rfl
  have kj_3 := bxj.c 3 (.bool s4) rfl
  have kj_4 := bxj.c 4 (.slice A4 L4 c4) rfl
  have kj_5 := bxj.c 5 (.slice B4 M4 d4) rfl
  have kr_0 := bxr.c 0 (.bool false) rfl
  have fr_0 := bxr.f 0
  have kr_1 := bxr.c 1 (.slice none 0 0) rfl
  have fr_1 := bxr.f 1
  have kr_2 := bxr.c 2 (.slice none 0 0) rfl
  have fr_2 := bxr.f 2
  have kr_3 := bxr.c 3 (.bool false) rfl
  have fr_3 := bxr.f 3
  have kr_4 := bxr.c 4 (.slice none 0 0) rfl
  have fr_4 := bxr.f 4
  have kr_5 := bxr.c 5 (.slice none 0 0) rfl
  have fr_5 := bxr.f 5
  go_wp2_with fail
  clear ki_0 ki_1 ki_2 ki_3 ki_4 ki_5 kj_0 kj_1 kj_2 kj_3 kj_4 kj_5 kr_0 fr_0 kr_1 fr_1 kr_2 fr_2 kr_3 fr_3 kr_4 fr_4 kr_5 fr_5
  obtain ⟨w2, hw⟩ : ∃ z : World, z = ((((((w1.setCell ⟨w.heap.size + 1 + 1, 0, none⟩ (.bool false)).setCell ⟨w.heap.size + 1 + 1, 1, none⟩ (.slice none 0 0)).setCell ⟨w.heap.size + 1 + 1, 2, none⟩ (.slice none 0 0)).setCell ⟨w.heap.size + 1 + 1, 3, none⟩ (.bool false)).setCell ⟨w.heap.size + 1 + 1, 4, none⟩ (.slice none 0 0)).setCell ⟨w.heap.size + 1 + 1, 5, none⟩ (.slice none 0 0)) := ⟨_, rfl⟩
  rw [← hw]
  have kw2 : Kept w1 w2 := by rw [hw]; exact (Kept.set_ (Kept.set_ (Kept.set_ (Kept.set_ (Kept.set_ (Kept.set_ (Kept.refl _) bxr.isBox plain_iv) (IsBox.set_ bxr.isBox) plain_iv) (IsBox.set_ (IsBox.set_ bxr.isBox)) plain_iv) (IsBox.set_ (IsBox.set_ (IsBox.set_ bxr.isBox))) plain_iv) (IsBox.set_ (IsBox.set_ (IsBox.set_ (IsBox.set_ bxr.isBox)))) plain_iv) (IsBox.set_ (IsBox.set_ (IsBox.set_ (IsBox.set_ (IsBox.set_ bxr.isBox))))) plain_iv)
  have nbi : BK w2 (w.heap.size) 29 #[.bool s1, .slice A1 L1 c1, .slice B1 M1 d1, .bool s2, .slice A2 L2 c2, .slice B2 M2 d2] := by rw [hw]; exact (BK.far (BK.far (BK.far (BK.far (BK.far (BK.far bxi (show w.heap.size ≠ w.heap.size + 1 + 1 by omega) 0 _) (show w.heap.size ≠ w.heap.size + 1 + 1 by omega) 1 _) (show w.heap.size ≠ w.heap.size + 1 + 1 by omega) 2 _) (show w.heap.size ≠ w.heap.size + 1 + 1 by omega) 3 _) (show w.heap.size ≠ w.heap.size + 1 + 1 by omega) 4 _) (show w.heap.size ≠ w.heap.size + 1 + 1 by omega) 5 _)
  have nbj : BK w2 (w.heap.size + 1) 29 #[.bool s3, .slice A3 L3 c3, .slice B3 M3 d3, .bool s4, .slice A4 L4 c4, .slice B4 M4 d4] := by rw [hw]; exact (BK.far (BK.far (BK.far (BK.far (BK.far (BK.far bxj (show w.heap.size + 1 ≠ w.heap.size + 1 + 1 by omega) 0 _) (show w.heap.size + 1 ≠ w.heap.size + 1 + 1 by omega) 1 _) (show w.heap.size + 1 ≠ w.heap.size + 1 + 1 by omega) 2 _) (show w.heap.size + 1 ≠ w.heap.size + 1 + 1 by omega) 3 _) (show w.heap.size + 1 ≠ w.heap.size + 1 + 1 by omega) 4 _) (show w.heap.size + 1 ≠ w.heap.size + 1 + 1 by omega) 5 _)
  have nbr : BK w2 (w.heap.size + 1 + 1) 29 #[.bool false, .slice none 0 0, .slice none 0 0, .bool false, .slice none 0 0, .slice none 0 0] := by rw [hw]; exact (BK.set (i := 5) (u := .slice none 0 0) (vs' := #[.bool false, .slice none 0 0, .slice none 0 0, .bool false, .slice none 0 0, .slice none 0 0]) (BK.set (i := 4) (u := .slice none 0 0) (vs' := #[.bool false, .slice none 0 0, .slice none 0 0, .bool false, .slice none 0 0, .slice none 0 0]) (BK.set (i := 3) (u := .bool false) (vs' := #[.bool false, .slice none 0 0, .slice none 0 0, .bool false, .slice none 0 0, .slice none 0 0]) (BK.set (i := 2) (u := .slice none 0 0) (vs' := #[.bool false, .slice none 0 0, .slice none 0 0, .bool false, .slice none 0 0, .slice none 0 0]) (BK.set (i := 1) (u := .slice none 0 0) (vs' := #[.bool false, .slice none 0 0, .slice none 0 0, .bool false, .slice none 0 0, .slice none 0 0]) (BK.set (i := 0) (u := .bool false) (vs' := #[.bool false, .slice none 0 0, .slice none 0 0, .bool false, .slice none 0 0, .slice none 0 0]) bxr rfl) rfl) rfl) rfl) rfl) rfl)
  have x2 : Ext w w2 := by rw [hw]; have hxp : Ext w w1 := (by with_reducible repeat' first | exact Ext.refl _ | assumption | apply Ext.alloc_r | apply Ext.drew_r | apply Ext.drewN_r | refine Ext.trans ?_ ‹Ext _ _›); exact (Ext.set_ (Ext.set_ (Ext.set_ (Ext.set_ (Ext.set_ (Ext.set_ hxp (show _ ≤ w.heap.size + 1 + 1 by omega)) (show _ ≤ w.heap.size + 1 + 1 by omega)) (show _ ≤ w.heap.size + 1 + 1 by omega)) (show _ ≤ w.heap.size + 1 + 1 by omega)) (show _ ≤ w.heap.size + 1 + 1 by omega)) (show _ ≤ w.heap.size + 1 + 1 by omega))
  clear bxi
  clear bxj
  clear bxr
  have bxi := nbi
  clear nbi
  have bxj := nbj
  clear nbj
  have bxr := nbr
  clear nbr
  have szw2 : w2.heap.size = w1.heap.size := by rw [hw]; simp
  clear hw kw2
  have kr_0 := bxr.c 0 (.bool false) rfl
  have kr_1 := bxr.c 1 (.slice none 0 0) rfl
  have kr_2 := bxr.c 2 (.slice none 0 0) rfl
  have kr_3 := bxr.c 3 (.bool false) rfl
  have kr_4 := bxr.c 4 (.slice none 0 0) rfl
  have kr_5 := bxr.c 5 (.slice none 0 0) rfl
  refine bodyPost_ret (v := .tuple #[.agg #[.bool false, .slice none 0 0, .slice none 0 0, .bool false, .slice none 0 0, .slice none 0 0], .int .i64 2]) (by simp [results, Tryz.results12, go_sem, kr_0, kr_1, kr_2, kr_3, kr_4, kr_5]) rfl ?_
  exact ⟨rfl, x2⟩
set_option maxHeartbeats 4000000 in
set_option maxRecDepth 100000 in
theorem iquo_r {w : World} {N K : Nat} {s1 s2 s3 s4 : Bool} {A1 B1 A2 B2 A3 B3 A4 B4 : Option Addr} {c1 d1 L1 M1 c2 d2 L2 M2 c3 d3 L3 M3 c4 d4 L4 M4 : Nat} {q1 q2 q3 q4 : Rat} {z1 : Int} (h1 : RV w s1 A1 c1 L1 B1 d1 M1 N q1) (h2 : RV w s2 A2 c2 L2 B2 d2 M2 N q2) (h3 : RV w s3 A3 c3 L3 B3 d3 M3 K q3) (h4 : RV w s4 A4 c4 L4 B4 d4 M4 K q4) (e1 : q3.num.sign = z1) (e2 : q4.num.sign = z1) (hz : z1 ≠ 0) (hN : N + (1 + K) < 48) :
    Calls Tryz.prog 12 #[Value.agg #[Value.bool s1, Value.slice A1 L1 c1, Value.slice B1 M1 d1, Value.bool s2, Value.slice A2 L2 c2, Value.slice B2 M2 d2], Value.agg #[Value.bool s3, Value.slice A3 L3 c3, Value.slice B3 M3 d3, Value.bool s4, Value.slice A4 L4 c4, Value.slice B4 M4 d4]] w (RetIE w (N + (1 + K)) (mlo q1 q2 (1 / q3) (1 / q4)) (mhi q1 q2 (1 / q3) (1 / q4))) := by
  have hn3 : q3 ≠ 0 := fun h => hz (by rw [← e1, h]; rfl)
  have hn4 : q4 ≠ 0 := fun h => hz (by rw [← e2, h]; rfl)
  have hzb : (z1 == 0) = false := beq_eq_false_iff_ne.2 hz
  have HNZ := Lib.hid (And.intro hn3 hn4)
  have hdz : decide (z1 = 0) = false := decide_eq_false hz
  clear hn3 hn4
  go_enter Tryz.func12, Tryz.ntmps12
  go_wp2_with fail
  obtain ⟨w0, hw0⟩ : ∃ z : World, z = (((w.alloc (.cells #[.bool s1, .slice A1 L1 c1, .slice B1 M1 d1, .bool s2, .slice A2 L2 c2, .slice B2 M2 d2] 29)).alloc (.cells #[.bool s3, .slice A3 L3 c3, .slice B3 M3 d3, .bool s4, .slice A4 L4 c4, .slice B4 M4 d4] 29)).alloc (.cells #[.bool false, .slice none 0 0, .slice none 0 0, .bool false, .slice none 0 0, .slice none 0 0] 29)) := ⟨_, rfl⟩
  rw [← hw0]
  have bxi : BK w0 (w.heap.size) 29 #[.bool s1, .slice A1 L1 c1, .slice B1 M1 d1, .bool s2, .slice A2 L2 c2, .slice B2 M2 d2] := by rw [hw0]; have h5 := (BK.ext (BK.ext (BK.new w #[.bool s1, .slice A1 L1 c1, .slice B1 M1 d1, .bool s2, .slice A2 L2 c2, .slice B2 M2 d2] 29) (Ext.alloc _ (.cells #[.bool s3, .slice A3 L3 c3, .slice B3 M3 d3, .bool s4, .slice A4 L4 c4, .slice B4 M4 d4] 29))) (Ext.alloc _ (.cells #[.bool false, .slice none 0 0, .slice none 0 0, .bool false, .slice none 0 0, .slice none 0 0] 29))); simpa only [World.size_alloc] using h5
  have bxj : BK w0 (w.heap.size + 1) 29 #[.bool s3, .slice A3 L3 c3, .slice B3 M3 d3, .bool s4, .slice A4 L4 c4, .slice B4 M4 d4] := by rw [hw0]; have h5 := (BK.ext (BK.new (w.alloc (.cells #[.bool s1, .slice A1 L1 c1, .slice B1 M1 d1, .bool s2, .slice A2 L2 c2, .slice B2 M2 d2] 29)) #[.bool s3, .slice A3 L3 c3, .slice B3 M3 d3, .bool s4, .slice A4 L4 c4, .slice B4 M4 d4] 29) (Ext.alloc _ (.cells #[.bool false, .slice none 0 0, .slice none 0 0, .bool false, .slice none 0 0, .slice none 0 0] 29))); simpa only [World.size_alloc] using h5
  have bxr : BK w0 (w.heap.size + 1 + 1) 29 #[.bool false, .slice none 0 0, .slice none 0 0, .bool false, .slice none 0 0, .slice none 0 0] := by rw [hw0]; have h5 := (BK.new ((w.alloc (.cells #[.bool s1, .slice A1 L1 c1, .slice B1 M1 d1, .bool s2, .slice A2 L2 c2, .slice B2 M2 d2] 29)).alloc (.cells #[.bool s3, .slice A3 L3 c3, .slice B3 M3 d3, .bool s4, .slice A4 L4 c4, .slice B4 M4 d4] 29)) #[.bool false, .slice none 0 0, .slice none 0 0, .bool false, .slice none 0 0, .slice none 0 0] 29); simpa only [World.size_alloc] using h5
  have hszw0 : w0.heap.size = w.heap.size + 1 + 1 + 1 := by rw [hw0]; simp only [World.size_alloc]
  have xw0 : Ext w w0 := by rw [hw0]; exact (((Ext.alloc _ _).trans (Ext.alloc _ _)).trans (Ext.alloc _ _))
  clear hw0
  refine (isign_eq (h3.ext (by with_reducible repeat' first | exact Ext.refl _ | assumption | apply Ext.alloc_r | apply Ext.drew_r | apply Ext.drewN_r | refine Ext.trans ?_ ‹Ext _ _›)) (h4.ext (by with_reducible repeat' first | exact Ext.refl _ | assumption | apply Ext.alloc_r | apply Ext.drew_r | apply Ext.drewN_r | refine Ext.trans ?_ ‹Ext _ _›)) e1 e2 rfl).mono ?_
  rintro e w1 ⟨rfl, x1⟩
  have szw1 : w0.heap.size ≤ w1.heap.size := x1.size
  replace bxi := bxi.ext x1
  replace bxj := bxj.ext x1
  replace bxr := bxr.ext x1
  clear e1 e2
  have ki_0 := bxi.c 0 (.bool s1) rfl
  have ki_1 := bxi.c 1 (.slice A1 L1 c1) rfl
  have ki_2 := bxi.c 2 (.slice B1 M1 d1) rfl
  have ki_3 := bxi.c 3 (.bool s2) rfl
  have ki_4 := bxi.c 4 (.slice A2 L2 c2) rfl
  have ki_5 := bxi.c 5 (.slice B2 M2 d2) rfl
  have kj_0 := bxj.c 0 (.bool s3) rfl
  have kj_1 := bxj.c 1 (.slice A3 L3 c3) rfl
  have kj_2 := bxj.c 2 (.slice B3 M3 d3) rfl
  have kj_3 := bxj.c 3 (.bool s4) rfl
  have kj_4 := bxj.c 4 (.slice A4 L4 c4) rfl
  have kj_5 := bxj.c 5 (.slice B4 M4 d4) rfl
  have kr_0 := bxr.c 0 (.bool false) rfl
  have kr_1 := bxr.c 1 (.slice none 0 0) rfl
  have kr_2 := bxr.c 2 (.slice none 0 0) rfl
  have kr_3 := bxr.c 3 (.bool false) rfl
  have kr_4 := bxr.c 4 (.slice none 0 0) rfl
  have kr_5 := bxr.c 5 (.slice none 0 0) rfl
  go_wp2_with fail
  clear ki_0 ki_1 ki_2 ki_3 ki_4 ki_5 kj_0 kj_1 kj_2 kj_3 kj_4 kj_5 kr_0 kr_1 kr_2 kr_3 kr_4 kr_5
  refine (rof_r (n := 1) (by omega)).mono ?_
  rintro e w2 ⟨sy, Ay, cy, Ly, By, dy, My, rfl, y, x2⟩
  have szw2 : w1.heap.size ≤ w2.heap.size := x2.size
  replace bxi := bxi.ext x2
  replace bxj := bxj.ext x2
  replace bxr := bxr.ext x2
  have HO : Hid (RV w2 sy Ay cy Ly By dy My 1 (1 : Rat)) := y.rv
  clear y hz hzb hdz
  have ki_0 := bxi.c 0 (.bool s1) rfl
  have ki_1 := bxi.c 1 (.slice A1 L1 c1) rfl
  have ki_2 := bxi.c 2 (.slice B1 M1 d1) rfl
  have ki_3 := bxi.c 3 (.bool s2) rfl
  have ki_4 := bxi.c 4 (.slice A2 L2 c2) rfl
  have ki_5 := bxi.c 5 (.slice B2 M2 d2) rfl
  have kj_0 := bxj.c 0 (.bool s3) rfl
  have kj_1 := bxj.c 1 (.slice A3 L3 c3) rfl
  have kj_2 := bxj.c 2 (.slice B3 M3 d3) rfl
  have kj_3 := bxj.c 3 (.bool s4) rfl
  have kj_4 := bxj.c 4 (.slice A4 L4 c4) rfl
  have kj_5 := bxj.c 5 (.slice B4 M4 d4) rfl
  have kr_0 := bxr.c 0 (.bool false) rfl
  have kr_1 := bxr.c 1 (.slice none 0 0) rfl
  have kr_2 := bxr.c 2 (.slice none 0 0) rfl
  have kr_3 := bxr.c 3 (.bool false) rfl
  have kr_4 := bxr.c 4 (.slice none 0 0) rfl
  have kr_5 := bxr.c 5 (.slice none 0 0) rfl
  have t1i_0 := fun (o0 : Obj) => ((Ext.alloc w2 o0).cell (bxi.c 0 (.bool s1) rfl))
  have t1i_1 := fun (o0 : Obj) => ((Ext.alloc w2 o0).cell (bxi.c 1 (.slice A1 L1 c1) rfl))
  have t1i_2 := fun (o0 : Obj) => ((Ext.alloc w2 o0).cell (bxi.c 2 (.slice B1 M1 d1) rfl))
  have t1i_3 := fun (o0 : Obj) => ((Ext.alloc w2 o0).cell (bxi.c 3 (.bool s2) rfl))
  have t1i_4 := fun (o0 : Obj) => ((Ext.alloc w2 o0).cell (bxi.c 4 (.slice A2 L2 c2) rfl))
  have t1i_5 := fun (o0 : Obj) => ((Ext.alloc w2 o0).cell (bxi.c 5 (.slice B2 M2 d2) rfl))
  have t1j_0 := fun (o0 : Obj) => ((Ext.alloc w2 o0).cell (bxj.c 0 (.bool s3) rfl))
  have t1j_1 := fun (o0 : Obj) => ((Ext.alloc w2 o0).cell (bxj.c 1 (.slice A3 L3 c3) rfl))
  have t1j_2 := fun (o0 : Obj) => ((Ext.alloc w2 o0).cell (bxj.c 2 (.slice B3 M3 d3) rfl))
  have t1j_3 := fun (o0 : Obj) => ((Ext.alloc w2 o0).cell (bxj.c 3 (.bool s4) rfl))
  have t1j_4 := fun (o0 : Obj) => ((Ext.alloc w2 o0).cell (bxj.c 4 (.slice A4 L4 c4) rfl))
  have t1j_5 := fun (o0 : Obj) => ((Ext.alloc w2 o0).cell (bxj.c 5 (.slice B4 M4 d4) rfl))
  have t1r_0 := fun (o0 : Obj) => ((Ext.alloc w2 o0).cell (bxr.c 0 (.bool false) rfl))
  have t1r_1 := fun (o0 : Obj) => ((Ext.alloc w2 o0).cell (bxr.c 1 (.slice none 0 0) rfl))
  have t1r_2 := fun (o0 : Obj) => ((Ext.alloc w2 o0).cell (bxr.c 2 (.slice none 0 0) rfl))
  have t1r_3 := fun (o0 : Obj) => ((Ext.alloc w2 o0).cell (bxr.c 3 (.bool false) rfl))
  have t1r_4 := fun (o0 : Obj) => ((Ext.alloc w2 o0).cell (bxr.c 4 (.slice none 0 0) rfl))
  have t1r_5 := fun (o0 : Obj) => ((Ext.alloc w2 o0).cell (bxr.c 5 (.slice none 0 0) rfl))
  go_wp2_with fail
  clear ki_0 ki_1 ki_2 ki_3 ki_4 ki_5 kj_0 kj_1 kj_2 kj_3 kj_4 kj_5 kr_0 kr_1 kr_2 kr_3 kr_4 kr_5 t1i_0 t1i_1 t1i_2 t1i_3 t1i_4 t1i_5 t1j_0 t1j_1 t1j_2 t1j_3 t1j_4 t1j_5 t1r_0 t1r_1 t1r_2 t1r_3 t1r_4 t1r_5
  obtain ⟨w3, hw⟩ : ∃ z : World, z = (w2.alloc (.cells #[.bool sy, .slice Ay Ly cy, .slice By My dy] 27)) := ⟨_, rfl⟩
  rw [← hw]
  have x3 : Ext w2 w3 := by rw [hw]; exact (Ext.alloc _ _)
  replace bxi := bxi.ext x3
  replace bxj := bxj.ext x3
  replace bxr := bxr.ext x3
  have bxo : BK w3 (w2.heap.size) 27 #[.bool sy, .slice Ay Ly cy, .slice By My dy] := by rw [hw]; have h5 := (BK.new w2 #[.bool sy, .slice Ay Ly cy, .slice By My dy] 27); simpa only [World.size_alloc] using h5
  have szw3 : w3.heap.size = w2.heap.size + 1 := by rw [hw]; simp only [World.size_alloc]
  clear hw
  refine (rquo_r (HO.out.ext (by with_reducible repeat' first | exact Ext.refl _ | assumption | apply Ext.alloc_r | apply Ext.drew_r | apply Ext.drewN_r | refine Ext.trans ?_ ‹Ext _ _›)) (h3.ext (by with_reducible repeat' first | exact Ext.refl _ | assumption | apply Ext.alloc_r | apply Ext.drew_r | apply Ext.drewN_r | refine Ext.trans ?_ ‹Ext _ _›)) HNZ.out.1 (by omega) (by omega)).mono ?_
  rintro e w4 ⟨su, Au, cu, Lu, Bu, du, Mu, rfl, u, x4⟩
  have szw4 : w3.heap.size ≤ w4.heap.size := x4.size
  replace bxi := bxi.ext x4
  replace bxj := bxj.ext x4
  replace bxr := bxr.ext x4
  replace bxo := bxo.ext x4
  have HU := Lib.hid u.rv
  clear u
  have ki_0 := bxi.c 0 (.bool s1) rfl
  have ki_1 := bxi.c 1 (.slice A1 L1 c1) rfl
  have ki_2 := bxi.c 2 (.slice B1 M1 d1) rfl
  have ki_3 := bxi.c 3 (.bool s2) rfl
  have ki_4 := bxi.c 4 (.slice A2 L2 c2) rfl
  have ki_5 := bxi.c 5 (.slice B2 M2 d2) rfl
  have kj_0 := bxj.c 0 (.bool s3) rfl
  have kj_1 := bxj.c 1 (.slice A3 L3 c3) rfl
  have kj_2 := bxj.c 2 (.slice B3 M3 d3) rfl
  have kj_3 := bxj.c 3 (.bool s4) rfl
  have kj_4 := bxj.c 4 (.slice A4 L4 c4) rfl
  have kj_5 := bxj.c 5 (.slice B4 M4 d4) rfl
  have kr_0 := bxr.c 0 (.bool false) rfl
  have kr_1 := bxr.c 1 (.slice none 0 0) rfl
  have kr_2 := bxr.c 2 (.slice none 0 0) rfl
  have kr_3 := bxr.c 3 (.bool false) rfl
  have kr_4 := bxr.c 4 (.slice none 0 0) rfl
  have kr_5 := bxr.c 5 (.slice none 0 0) rfl
  have ko_0 := bxo.c 0 (.bool sy) rfl
  have ko_1 := bxo.c 1 (.slice Ay Ly cy) rfl
  have ko_2 := bxo.c 2 (.slice By My dy) rfl
  have t1i_0 := fun (o0 : Obj) => ((Ext.alloc w4 o0).cell (bxi.c 0 (.bool s1) rfl))
  have t1i_1 := fun (o0 : Obj) => ((Ext.alloc w4 o0).cell (bxi.c 1 (.slice A1 L1 c1) rfl))
  have t1i_2 := fun (o0 : Obj) => ((Ext.alloc w4 o0).cell (bxi.c 2 (.slice B1 M1 d1) rfl))
  have t1i_3 := fun (o0 : Obj) => ((Ext.alloc w4 o0).cell (bxi.c 3 (.bool s2) rfl))
  have t1i_4 := fun (o0 : Obj) => ((Ext.alloc w4 o0).cell (bxi.c 4 (.slice A2 L2 c2) rfl))
  have t1i_5 := fun (o0 : Obj) => ((Ext.alloc w4 o0).cell (bxi.c 5 (.slice B2 M2 d2) rfl))
  have t1j_0 := fun (o0 : Obj) => ((Ext.alloc w4 o0).cell (bxj.c 0 (.bool s3) rfl))
  have t1j_1 := fun (o0 : Obj) => ((Ext.alloc w4 o0).cell (bxj.c 1 (.slice A3 L3 c3) rfl))
  have t1j_2 := fun (o0 : Obj) => ((Ext.alloc w4 o0).cell (bxj.c 2 (.slice B3 M3 d3) rfl))
  have t1j_3 := fun (o0 : Obj) => ((Ext.alloc w4 o0).cell (bxj.c 3 (.bool s4) rfl))
  have t1j_4 := fun (o0 : Obj) => ((Ext.alloc w4 o0).cell (bxj.c 4 (.slice A4 L4 c4) rfl))
  have t1j_5 := fun (o0 : Obj) => ((Ext.alloc w4 o0).cell (bxj.c 5 (.slice B4 M4 d4) rfl))
  have t1r_0 := fun (o0 : Obj) => ((Ext.alloc w4 o0).cell (bxr.c 0 (.bool false) rfl))
  have t1r_1 := fun (o0 : Obj) => ((Ext.alloc w4 o0).cell (bxr.c 1 (.slice none 0 0) rfl))
  have t1r_2 := fun (o0 : Obj) => ((Ext.alloc w4 o0).cell (bxr.c 2 (.slice none 0 0) rfl))
  have t1r_3 := fun (o0 : Obj) => ((Ext.alloc w4 o0).cell (bxr.c 3 (.bool false) rfl))
  have t1r_4 := fun (o0 : Obj) => ((Ext.alloc w4 o0).cell (bxr.c 4 (.slice none 0 0) rfl))
  have t1r_5 := fun (o0 : Obj) => ((Ext.alloc w4 o0).cell (bxr.c 5 (.slice none 0 0) rfl))
  have t1o_0 := fun (o0 : Obj) => ((Ext.alloc w4 o0).cell (bxo.c 0 (.bool sy) rfl))
  have t1o_1 := fun (o0 : Obj) => ((Ext.alloc w4 o0).cell (bxo.c 1 (.slice Ay Ly cy) rfl))
  have t1o_2 := fun (o0 : Obj) => ((Ext.alloc w4 o0).cell (bxo.c 2 (.slice By My dy) rfl))
  go_wp2_with fail
  clear ki_0 ki_1 ki_2 ki_3 ki_4 ki_5 kj_0 kj_1 kj_2 kj_3 kj_4 kj_5 kr_0 kr_1 kr_2 kr_3 kr_4 kr_5 ko_0 ko_1 ko_2 t1i_0 t1i_1 t1i_2 t1i_3 t1i_4 t1i_5 t1j_0 t1j_1 t1j_2 t1j_3 t1j_4 t1j_5 t1r_0 t1r_1 t1r_2 t1r_3 t1r_4 t1r_5 t1o_0 t1o_1 t1o_2
  obtain ⟨w5, hw⟩ : ∃ z : World, z = (w4.alloc (.cells #[.bool su, .slice Au Lu cu, .slice Bu Mu du] 27)) := ⟨_, rfl⟩
  rw [← hw]
  have x5 : Ext w4 w5 := by rw [hw]; exact (Ext.alloc _ _)
  replace bxi := bxi.ext x5
  replace bxj := bxj.ext x5
  replace bxr := bxr.ext x5
  replace bxo := bxo.ext x5
  have bxlo : BK w5 (w4.heap.size) 27 #[.bool su, .slice Au Lu cu, .slice Bu Mu du] := by rw [hw]; have h5 := (BK.new w4 #[.bool su, .slice Au Lu cu, .slice Bu Mu du] 27); simpa only [World.size_alloc] using h5
  have szw5 : w5.heap.size = w4.heap.size + 1 := by rw [hw]; simp only [World.size_alloc]
  clear hw
  refine (rquo_r (HO.out.ext (by with_reducible repeat' first | exact Ext.refl _ | assumption | apply Ext.alloc_r | apply Ext.drew_r | apply Ext.drewN_r | refine Ext.trans ?_ ‹Ext _ _›)) (h4.ext (by with_reducible repeat' first | exact Ext.refl _ | assumption | apply Ext.alloc_r | apply Ext.drew_r | apply Ext.drewN_r | refine Ext.trans ?_ ‹Ext _ _›)) HNZ.out.2 (by omega) (by omega)).mono ?_
  rintro e w6 ⟨sv, Av, cv, Lv, Bv, dv, Mv, rfl, v, x6⟩
  have szw6 : w5.heap.size ≤ w6.heap.size := x6.size
  replace bxi := bxi.ext x6
  replace bxj := bxj.ext x6
  replace bxr := bxr.ext x6
  replace bxo := bxo.ext x6
  replace bxlo := bxlo.ext x6
  have HV := Lib.hid v.rv
  clear v
  have ki_0 := bxi.c 0 (.bool s1) rfl
  have ki_1 := bxi.c 1 (.slice A1 L1 c1) rfl
  have ki_2 := bxi.c 2 (.slice B1 M1 d1) rfl
  have ki_3 := bxi.c 3 (.bool s2) rfl
  have ki_4 := bxi.c 4 (.slice A2 L2 c2) rfl
  have ki_5 := bxi.c 5 (.slice B2 M2 d2) rfl
  have kj_0 := bxj.c 0 (.bool s3) rfl
  have kj_1 := bxj.c 1 (.slice A3 L3 c3) rfl
  have kj_2 := bxj.c 2 (.slice B3 M3 d3) rfl
  have kj_3 := bxj.c 3 (.bool s4) rfl
  have kj_4 := bxj.c 4 (.slice A4 L4 c4) rfl
  have kj_5 := bxj.c 5 (.slice B4 M4 d4) rfl
  have kr_0 := bxr.c 0 (.bool false) rfl
  have kr_1 := bxr.c 1 (.slice none 0 0) rfl
  have kr_2 := bxr.c 2 (.slice none 0 0) rfl
  have kr_3 := bxr.c 3 (.bool false) rfl
  have kr_4 := bxr.c 4 (.slice none 0 0) rfl
  have kr_5 := bxr.c 5 (.slice none 0 0) rfl
  have ko_0 := bxo.c 0 (.bool sy) rfl
  have ko_1 := bxo.c 1 (.slice Ay Ly cy) rfl
  have ko_2 := bxo.c 2 (.slice By My dy) rfl
  have klo_0 := bxlo.c 0 (.bool su) rfl
  have klo_1 := bxlo.c 1 (.slice Au Lu cu) rfl
  have klo_2 := bxlo.c 2 (.slice Bu Mu du) rfl
  have t1i_0 := fun (o0 : Obj) => ((Ext.alloc w6 o0).cell (bxi.c 0 (.bool s1) rfl))
  have t1i_1 := fun (o0 : Obj) => ((Ext.alloc w6 o0).cell (bxi.c 1 (.slice A1 L1 c1) rfl))
  have t1i_2 := fun (o0 : Obj) => ((Ext.alloc w6 o0).cell (bxi.c 2 (.slice B1 M1 d1) rfl))
  have t1i_3 := fun (o0 : Obj) => ((Ext.alloc w6 o0).cell (bxi.c 3 (.bool s2) rfl))
  have t1i_4 := fun (o0 : Obj) => ((Ext.alloc w6 o0).cell (bxi.c 4 (.slice A2 L2 c2) rfl))
  have t1i_5 := fun (o0 : Obj) => ((Ext.alloc w6 o0).cell (bxi.c 5 (.slice B2 M2 d2) rfl))
  have t1j_0 := fun (o0 : Obj) => ((Ext.alloc w6 o0).cell (bxj.c 0 (.bool s3) rfl))
  have t1j_1 := fun (o0 : Obj) => ((Ext.alloc w6 o0).cell (bxj.c 1 (.slice A3 L3 c3) rfl))
  have t1j_2 := fun (o0 : Obj) => ((Ext.alloc w6 o0).cell (bxj.c 2 (.slice B3 M3 d3) rfl))
  have t1j_3 := fun (o0 : Obj) => ((Ext.alloc w6 o0).cell (bxj.c 3 (.bool s4) rfl))
  have t1j_4 := fun (o0 : Obj) => ((Ext.alloc w6 o0).cell (bxj.c 4 (.slice A4 L4 c4) rfl))
  have t1j_5 := fun (o0 : Obj) => ((Ext.alloc w6 o0).cell (bxj.c 5 (.slice B4 M4 d4) rfl))
  have t1r_0 := fun (o0 : Obj) => ((Ext.alloc w6 o0).cell (bxr.c 0 (.bool false) rfl))
  have t1r_1 := fun (o0 : Obj) => ((Ext.alloc w6 o0).cell (bxr.c 1 (.slice none 0 0) rfl))
  have t1r_2 := fun (o0 : Obj) => ((Ext.alloc w6 o0).cell (bxr.c 2 (.slice none 0 0) rfl))
  have t1r_3 := fun (o0 : Obj) => ((Ext.alloc w6 o0).cell (bxr.c 3 (.bool false) rfl))
  have t1r_4 := fun (o0 : Obj) => ((Ext.alloc w6 o0).cell (bxr.c 4 (.slice none 0 0) rfl))
  have t1r_5 := fun (o0 : Obj) => ((Ext.alloc w6 o0).cell (bxr.c 5 (.slice none 0 0) rfl))
  have t1o_0 := fun (o0 : Obj) => ((Ext.alloc w6 o0).cell (bxo.c 0 (.bool sy) rfl))
  have t1o_1 := fun (o0 : Obj) => ((Ext.alloc w6 o0).cell (bxo.c 1 (.slice Ay Ly cy) rfl))
  have t1o_2 := fun (o0 : Obj) => ((Ext.alloc w6 o0).cell (bxo.c 2 (.slice By My dy) rfl))
  have t1lo_0 := fun (o0 : Obj) => ((Ext.alloc w6 o0).cell (bxlo.c 0 (.bool su) rfl))
  have t1lo_1 := fun (o0 : Obj) => ((Ext.alloc w6 o0).cell (bxlo.c 1 (.slice Au Lu cu) rfl))
  have t1lo_2 := fun (o0 : Obj) => ((Ext.alloc w6 o0).cell (bxlo.c 2 (.slice Bu Mu du) rfl))
  go_wp2_with fail
  clear ki_0 ki_1 ki_2 ki_3 ki_4 ki_5 kj_0 kj_1 kj_2 kj_3 kj_4 kj_5 kr_0 kr_1 kr_2 kr_3 kr_4 kr_5 ko_0 ko_1 ko_2 klo_0 klo_1 klo_2 t1i_0 t1i_1 t1i_2 t1i_3 t1i_4 t1i_5 t1j_0 t1j_1 t1j_2 t1j_3 t1j_4 t1j_5 t1r_0 t1r_1 t1r_2 t1r_3 t1r_4 t1r_5 t1o_0 t1o_1 t1o_2 t1lo_0 t1lo_1 t1lo_2
  obtain ⟨w7, hw⟩ : ∃ z : World, z = (w6.alloc (.cells #[.bool sv, .slice Av Lv cv, .slice Bv Mv dv] 27)) := ⟨_, rfl⟩
  rw [← hw]
  have x7 : Ext w6 w7 := by rw [hw]; exact (Ext.alloc _ _)
  replace bxi := bxi.ext x7
  replace bxj := bxj.ext x7
  replace bxr := bxr.ext x7
  replace bxo := bxo.ext x7
  replace bxlo := bxlo.ext x7
  have bxhi : BK w7 (w6.heap.size) 27 #[.bool sv, .slice Av Lv cv, .slice Bv Mv dv] := by rw [hw]; have h5 := (BK.new w6 #[.bool sv, .slice Av Lv cv, .slice Bv Mv dv] 27); simpa only [World.size_alloc] using h5
  have szw7 : w7.heap.size = w6.heap.size + 1 := by rw [hw]; simp only [World.size_alloc]
  clear hw
  refine (imul_r (h1.ext (by with_reducible repeat' first | exact Ext.refl _ | assumption | apply Ext.alloc_r | apply Ext.drew_r | apply Ext.drewN_r | refine Ext.trans ?_ ‹Ext _ _›)) (h2.ext (by with_reducible repeat' first | exact Ext.refl _ | assumption | apply Ext.alloc_r | apply Ext.drew_r | apply Ext.drewN_r | refine Ext.trans ?_ ‹Ext _ _›)) (HU.out.ext (by with_reducible repeat' first | exact Ext.refl _ | assumption | apply Ext.alloc_r | apply Ext.drew_r | apply Ext.drewN_r | refine Ext.trans ?_ ‹Ext _ _›)) (HV.out.ext (by with_reducible repeat' first | exact Ext.refl _ | assumption | apply Ext.alloc_r | apply Ext.drew_r | apply Ext.drewN_r | refine Ext.trans ?_ ‹Ext _ _›)) hN).mono ?_
  rintro e w8 ⟨sza, Aza, cza, Lza, Bza, dza, Mza, szb, Azb, czb, Lzb, Bzb, dzb, Mzb, rfl, za, zb, x8⟩
  have szw8 : w7.heap.size ≤ w8.heap.size := x8.size
  replace bxi := bxi.ext x8
  replace bxj := bxj.ext x8
  replace bxr := bxr.ext x8
  replace bxo := bxo.ext x8
  replace bxlo := bxlo.ext x8
  replace bxhi := bxhi.ext x8
  have HZ := Lib.hid (And.intro (za.mono (show w.heap.size ≤ _ by omega)) (zb.mono (show w.heap.size ≤ _ by omega)))
  clear za zb HU HV HO HNZ
  have ki_0 := bxi.c 0 (.bool s1) rfl
  have ki_1 := bxi.c 1 (.slice A1 L1 c1) rfl
  have ki_2 := bxi.c 2 (.slice B1 M1 d1) rfl
  have ki_3 := bxi.c 3 (.bool s2) rfl
  have ki_4 := bxi.c 4 (.slice A2 L2 c2) rfl
  have ki_5 := bxi.c 5 (.slice B2 M2 d2) rfl
  have kj_0 := bxj.c 0 (.bool s3) rfl
  have kj_1 := bxj.c 1 (.slice A3 L3 c3) rfl
  have kj_2 := bxj.c 2 (.slice B3 M3 d3) rfl
  have kj_3 := bxj.c 3 (.bool s4) rfl
  have kj_4 := bxj.c 4 (.slice A4 L4 c4) rfl
  have kj_5 := bxj.c 5 (.slice B4 M4 d4) rfl
  have kr_0 := bxr.c 0 (.bool false) rfl
  have fr_0 := bxr.f 0
  have kr_1 := bxr.c 1 (.slice none 0 0) rfl
  have fr_1 := bxr.f 1
  have kr_2 := bxr.c 2 (.slice none 0 0) rfl
  have fr_2 := bxr.f 2
  have kr_3 := bxr.c 3 (.bool false) rfl
  have fr_3 := bxr.f 3
  have kr_4 := bxr.c 4 (.slice none 0 0) rfl
  have fr_4 := bxr.f 4
  have kr_5 := bxr.c 5 (.slice none 0 0) rfl
  have fr_5 := bxr.f 5
  have ko_0 := bxo.c 0 (.bool sy) rfl
  have ko_1 := bxo.c 1 (.slice Ay Ly cy) rfl
  have ko_2 := bxo.c 2 (.slice By My dy) rfl
  have klo_0 := bxlo.c 0 (.bool su) rfl
  have klo_1 := bxlo.c 1 (.slice Au Lu cu) rfl
  have klo_2 := bxlo.c 2 (.slice Bu Mu du) rfl
  have khi_0 := bxhi.c 0 (.bool sv) rfl
  have khi_1 := bxhi.c 1 (.slice Av Lv cv) rfl
  have khi_2 := bxhi.c 2 (.slice Bv Mv dv) rfl
  go_wp2_with fail
  clear ki_0 ki_1 ki_2 ki_3 ki_4 ki_5 kj_0 kj_1 kj_2 kj_3 kj_4 kj_5 kr_0 fr_0 kr_1 fr_1 kr_2 fr_2 kr_3 fr_3 kr_4 fr_4 kr_5 fr_5 ko_0 ko_1 ko_2 klo_0 klo_1 klo_2 khi_0 khi_1 khi_2
  have za2 := HZ.out.1
  have zb2 := HZ.out.2
  clear HZ
  obtain ⟨w9, hw⟩ : ∃ z : World, z = ((((((w8.setCell ⟨w.heap.size + 1 + 1, 0, none⟩ (.bool sza)).setCell ⟨w.heap.size + 1 + 1, 1, none⟩ (.slice Aza Lza cza)).setCell ⟨w.heap.size + 1 + 1, 2, none⟩ (.slice Bza Mza dza)).setCell ⟨w.heap.size + 1 + 1, 3, none⟩ (.bool szb)).setCell ⟨w.heap.size + 1 + 1, 4, none⟩ (.slice Azb Lzb czb)).setCell ⟨w.heap.size + 1 + 1, 5, none⟩ (.slice Bzb Mzb dzb)) := ⟨_, rfl⟩
  rw [← hw]
  have kw9 : Kept w8 w9 := by rw [hw]; exact (Kept.set_ (Kept.set_ (Kept.set_ (Kept.set_ (Kept.set_ (Kept.set_ (Kept.refl _) bxr.isBox plain_iv) (IsBox.set_ bxr.isBox) plain_iv) (IsBox.set_ (IsBox.set_ bxr.isBox)) plain_iv) (IsBox.set_ (IsBox.set_ (IsBox.set_ bxr.isBox))) plain_iv) (IsBox.set_ (IsBox.set_ (IsBox.set_ (IsBox.set_ bxr.isBox)))) plain_iv) (IsBox.set_ (IsBox.set_ (IsBox.set_ (IsBox.set_ (IsBox.set_ bxr.isBox))))) plain_iv)
  have nbi : BK w9 (w.heap.size) 29 #[.bool s1, .slice A1 L1 c1, .slice B1 M1 d1, .bool s2, .slice A2 L2 c2, .slice B2 M2 d2] := by rw [hw]; exact (BK.far (BK.far (BK.far (BK.far (BK.far (BK.far bxi (show w.heap.size ≠ w.heap.size + 1 + 1 by omega) 0 _) (show w.heap.size ≠ w.heap.size + 1 + 1 by omega) 1 _) (show w.heap.size ≠ w.heap.size + 1 + 1 by omega) 2 _) (show w.heap.size ≠ w.heap.size + 1 + 1 by omega) 3 _) (show w.heap.size ≠ w.heap.size + 1 + 1 by omega) 4 _) (show w.heap.size ≠ w.heap.size + 1 + 1 by omega) 5 _)
  have nbj : BK w9 (w.heap.size + 1) 29 #[.bool s3, .slice A3 L3 c3, .slice B3 M3 d3, .bool s4, .slice A4 L4 c4, .slice B4 M4 d4] := by rw [hw]; exact (BK.far (BK.far (BK.far (BK.far (BK.far (BK.far bxj (show w.heap.size + 1 ≠ w.heap.size + 1 + 1 by omega) 0 _) (show w.heap.size + 1 ≠ w.heap.size + 1 + 1 by omega) 1 _) (show w.heap.size + 1 ≠ w.heap.size + 1 + 1 by omega) 2 _) (show w.heap.size + 1 ≠ w.heap.size + 1 + 1 by omega) 3 _) (show w.heap.size + 1 ≠ w.heap.size + 1 + 1 by omega) 4 _) (show w.heap.size + 1 ≠ w.heap.size + 1 + 1 by omega) 5 _)
  have nbr : BK w9 (w.heap.size + 1 + 1) 29 #[.bool sza, .slice Aza Lza cza, .slice Bza Mza dza, .bool szb, .slice Azb Lzb czb, .slice Bzb Mzb dzb] := by rw [hw]; exact (BK.set (i := 5) (u := .slice Bzb Mzb dzb) (vs' := #[.bool sza, .slice Aza Lza cza, .slice Bza Mza dza, .bool szb, .slice Azb Lzb czb, .slice Bzb Mzb dzb]) (BK.set (i := 4) (u := .slice Azb Lzb czb) (vs' := #[.bool sza, .slice Aza Lza cza, .slice Bza Mza dza, .bool szb, .slice Azb Lzb czb, .slice none 0 0]) (BK.set (i := 3) (u := .bool szb) (vs' := #[.bool sza, .slice Aza Lza cza, .slice Bza Mza dza, .bool szb, .slice none 0 0, .slice none 0 0]) (BK.set (i := 2) (u := .slice Bza Mza dza) (vs' := #[.bool sza, .slice Aza Lza cza, .slice Bza Mza dza, .bool false, .slice none 0 0, .slice none 0 0]) (BK.set (i := 1) (u := .slice Aza Lza cza) (vs' := #[.bool sza, .slice Aza Lza cza, .slice none 0 0, .bool false, .slice none 0 0, .slice none 0 0]) (BK.set (i := 0) (u := .bool sza) (vs' := #[.bool sza, .slice none 0 0, .slice none 0 0, .bool false, .slice none 0 0, .slice none 0 0]) bxr rfl) rfl) rfl) rfl) rfl) rfl)
  have nbo : BK w9 (w2.heap.size) 27 #[.bool sy, .slice Ay Ly cy, .slice By My dy] := by rw [hw]; exact (BK.far (BK.far (BK.far (BK.far (BK.far (BK.far bxo (show w2.heap.size ≠ w.heap.size + 1 + 1 by omega) 0 _) (show w2.heap.size ≠ w.heap.size + 1 + 1 by omega) 1 _) (show w2.heap.size ≠ w.heap.size + 1 + 1 by omega) 2 _) (show w2.heap.size ≠ w.heap.size + 1 + 1 by omega) 3 _) (show w2.heap.size ≠ w.heap.size + 1 + 1 by omega) 4 _) (show w2.heap.size ≠ w.heap.size + 1 + 1 by omega) 5 _)
  have nblo : BK w9 (w4.heap.size) 27 #[.bool su, .slice Au Lu cu, .slice Bu Mu du] := by rw [hw]; exact (BK.far (BK.far (BK.far (BK.far (BK.far (BK.far bxlo (show w4.heap.size ≠ w.heap.size + 1 + 1 by omega) 0 _) (show w4.heap.size ≠ w.heap.size + 1 + 1 by omega) 1 _) (show w4.heap.size ≠ w.heap.size + 1 + 1 by omega) 2 _) (show w4.heap.size ≠ w.heap.size + 1 + 1 by omega) 3 _) (show w4.heap.size ≠ w.heap.size + 1 + 1 by omega) 4 _) (show w4.heap.size ≠ w.heap.size + 1 + 1 by omega) 5 _)
  have nbhi : BK w9 (w6.heap.size) 27 #[.bool sv, .slice Av Lv cv, .slice Bv Mv dv] := by rw [hw]; exact (BK.far (BK.far (BK.far (BK.far (BK.far (BK.far bxhi (show w6.heap.size ≠ w.heap.size + 1 + 1 by omega) 0 _) (show w6.heap.size ≠ w.heap.size + 1 + 1 by omega) 1 _) (show w6.heap.size ≠ w.heap.size + 1 + 1 by omega) 2 _) (show w6.heap.size ≠ w.heap.size + 1 + 1 by omega) 3 _) (show w6.heap.size ≠ w.heap.size + 1 + 1 by omega) 4 _) (show w6.heap.size ≠ w.heap.size + 1 + 1 by omega) 5 _)
  have x9 : Ext w w9 := by rw [hw]; have hxp : Ext w w8 := (by with_reducible repeat' first | exact Ext.refl _ | assumption | apply Ext.alloc_r | apply Ext.drew_r | apply Ext.drewN_r | refine Ext.trans ?_ ‹Ext _ _›); exact (Ext.set_ (Ext.set_ (Ext.set_ (Ext.set_ (Ext.set_ (Ext.set_ hxp (show _ ≤ w.heap.size + 1 + 1 by omega)) (show _ ≤ w.heap.size + 1 + 1 by omega)) (show _ ≤ w.heap.size + 1 + 1 by omega)) (show _ ≤ w.heap.size + 1 + 1 by omega)) (show _ ≤ w.heap.size + 1 + 1 by omega)) (show _ ≤ w.heap.size + 1 + 1 by omega))
  clear bxi
  clear bxj
  clear bxr
  clear bxo
  clear bxlo
  clear bxhi
  have bxi := nbi
  clear nbi
  have bxj := nbj
  clear nbj
  have bxr := nbr
  clear nbr
  have bxo := nbo
  clear nbo
  have bxlo := nblo
  clear nblo
  have bxhi := nbhi
  clear nbhi
  have szw9 : w9.heap.size = w8.heap.size := by rw [hw]; simp
  replace za2 := (za2.ext (by with_reducible repeat' first | exact Ext.refl _ | assumption | apply Ext.alloc_r | apply Ext.drew_r | apply Ext.drewN_r | refine Ext.trans ?_ ‹Ext _ _›)).kept kw9
  replace zb2 := (zb2.ext (by with_reducible repeat' first | exact Ext.refl _ | assumption | apply Ext.alloc_r | apply Ext.drew_r | apply Ext.drewN_r | refine Ext.trans ?_ ‹Ext _ _›)).kept kw9
  clear hw kw9
  have HU := Lib.hid za2
  have HV := Lib.hid zb2
  clear za2 zb2
  have kr_0 := bxr.c 0 (.bool sza) rfl
  have kr_1 := bxr.c 1 (.slice Aza Lza cza) rfl
  have kr_2 := bxr.c 2 (.slice Bza Mza dza) rfl
  have kr_3 := bxr.c 3 (.bool szb) rfl
  have kr_4 := bxr.c 4 (.slice Azb Lzb czb) rfl
  have kr_5 := bxr.c 5 (.slice Bzb Mzb dzb) rfl
  refine bodyPost_ret (v := .tuple #[Value.agg #[Value.bool sza, Value.slice Aza Lza cza, Value.slice Bza Mza dza, Value.bool szb, Value.slice Azb Lzb czb, Value.slice Bzb Mzb dzb], .int .i64 0]) (by simp [results, Tryz.results12, go_sem, kr_0, kr_1, kr_2, kr_3, kr_4, kr_5]) rfl ?_
  exact ⟨_, _, _, _, _, _, _, _, _, _, _, _, _, _, rfl, HU.out, HV.out, x9⟩
/-- Two fractions in boxes laid behind w. -/
def PutM (w w' : World) (g N : Nat) (p q : Rat) (x y : Value) : Prop := ∃ b b' s A c L B d M s' A' c' L' B' d' M', x = .pointer (some ⟨b, 0, none⟩) ∧ y = .pointer (some ⟨b', 0, none⟩) ∧ w.heap.size ≤ b ∧ w.heap.size ≤ b' ∧ BK w' b 27 #[.bool s, .slice A L c, .slice B M d] ∧ BK w' b' 27 #[.bool s', .slice A' L' c', .slice B' M' d'] ∧ RO w' g s A c L B d M N p ∧ RO w' g s' A' c' L' B' d' M' N q ∧ Ext w w'
theorem PutM.mk {w w' : World} {g N b b' : Nat} {p q : Rat} {s s' : Bool} {A B A' B' : Option Addr} {c L d M c' L' d' M' : Nat} (h1 : w.heap.size ≤ b) (h2 : w.heap.size ≤ b') (k1 : BK w' b 27 #[.bool s, .slice A L c, .slice B M d]) (k2 : BK w' b' 27 #[.bool s', .slice A' L' c', .slice B' M' d']) (r1 : RO w' g s A c L B d M N p) (r2 : RO w' g s' A' c' L' B' d' M' N q) (hx : Ext w w') : PutM w w' g N p q (.pointer (some ⟨b, 0, none⟩)) (.pointer (some ⟨b', 0, none⟩)) :=
  ⟨b, b', s, A, c, L, B, d, M, s', A', c', L', B', d', M', rfl, rfl, h1, h2, k1, k2, r1, r2, hx⟩
end Go.Proofs.YtehhkeenjlpikaaGreat
