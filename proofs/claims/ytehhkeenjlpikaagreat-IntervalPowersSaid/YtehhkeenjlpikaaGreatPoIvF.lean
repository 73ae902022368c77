import Derived.Test.YtehhkeenjlpikaaGreatPoIvD
import Derived.Test.YtehhkeenjlpikaaGreatPoPowC
import Derived.Deep.RegionHeldLaw
import Derived.Deep.LoopGhost
import Derived.Deep.QuietTactic
import Derived.BigQuiet
namespace Go.Proofs.YtehhkeenjlpikaaGreat
open Go.RowKit
theorem sgn_bd2 {a b : Int} (ha : -1 ≤ a ∧ a ≤ 1) (hb : -1 ≤ b ∧ b ≤ 1) : -1 ≤ a * b ∧ a * b ≤ 1 := by
  have h1 : a = -1 ∨ a = 0 ∨ a = 1 := by omega
  have h2 : b = -1 ∨ b = 0 ∨ b = 1 := by omega
  rcases h1 with rfl | rfl | rfl <;> rcases h2 with rfl | rfl | rfl <;> decide
theorem sgn_mul_lt (a b : Rat) : a.num.sign * b.num.sign < 0 ↔ a * b < 0 := by
  rw [← num_sign_mul, Int.sign_neg_iff]
  have e2 : (a * b) < 0 ↔ (a * b).num < 0 := by rw [Rat.lt_iff]; show _ * (1 : Int) < (0 : Int) * _ ↔ _; rw [Int.zero_mul, Int.mul_one]
  exact e2.symm
set_option maxHeartbeats 4000000 in
set_option maxRecDepth 100000 in
theorem ipow_neg {w : World} {n : Int} {s1 s2 : Bool} {A1 B1 A2 B2 : Option Addr} {c1 d1 L1 M1 c2 d2 L2 M2 : Nat} (hn : n < 0) :
    Calls Tryz.prog 43 #[Value.agg #[Value.bool s1, Value.slice A1 L1 c1, Value.slice B1 M1 d1, Value.bool s2, Value.slice A2 L2 c2, Value.slice B2 M2 d2], .int .i64 n] w (RetI0 w 1) := by
  go_enter Tryz.func43, Tryz.ntmps43
  go_wp2_with fail
  obtain ⟨w0, hw0⟩ : ∃ z : World, z = ((w.alloc (.cells #[.bool s1, .slice A1 L1 c1, .slice B1 M1 d1, .bool s2, .slice A2 L2 c2, .slice B2 M2 d2] 29)).alloc (.cells #[.bool false, .slice none 0 0, .slice none 0 0, .bool false, .slice none 0 0, .slice none 0 0] 29)) := ⟨_, rfl⟩
  rw [← hw0]
  have bxi : BK w0 (w.heap.size) 29 #[.bool s1, .slice A1 L1 c1, .slice B1 M1 d1, .bool s2, .slice A2 L2 c2, .slice B2 M2 d2] := by rw [hw0]; have h5 := (BK.ext (BK.new w #[.bool s1, .slice A1 L1 c1, .slice B1 M1 d1, .bool s2, .slice A2 L2 c2, .slice B2 M2 d2] 29) (Ext.alloc _ (.cells #[.bool false, .slice none 0 0, .slice none 0 0, .bool false, .slice none 0 0, .slice none 0 0] 29))); simpa only [World.size_alloc] using h5
  have bxr : BK w0 (w.heap.size + 1) 29 #[.bool false, .slice none 0 0, .slice none 0 0, .bool false, .slice none 0 0, .slice none 0 0] := by rw [hw0]; have h5 := (BK.new (w.alloc (.cells #[.bool s1, .slice A1 L1 c1, .slice B1 M1 d1, .bool s2, .slice A2 L2 c2, .slice B2 M2 d2] 29)) #[.bool false, .slice none 0 0, .slice none 0 0, .bool false, .slice none 0 0, .slice none 0 0] 29); simpa only [World.size_alloc] using h5
  have hszw0 : w0.heap.size = w.heap.size + 1 + 1 := by rw [hw0]; simp only [World.size_alloc]
  have xw0 : Ext w w0 := by rw [hw0]; exact ((Ext.alloc _ _).trans (Ext.alloc _ _))
  clear hw0
  have kr_0 := bxr.c 0 (.bool false) rfl
  have kr_1 := bxr.c 1 (.slice none 0 0) rfl
  have kr_2 := bxr.c 2 (.slice none 0 0) rfl
  have kr_3 := bxr.c 3 (.bool false) rfl
  have kr_4 := bxr.c 4 (.slice none 0 0) rfl
  have kr_5 := bxr.c 5 (.slice none 0 0) rfl
  refine bodyPost_ret (v := .tuple #[.agg #[.bool false, .slice none 0 0, .slice none 0 0, .bool false, .slice none 0 0, .slice none 0 0], .int .i64 1]) (by simp [results, Tryz.results43, go_sem, kr_0, kr_1, kr_2, kr_3, kr_4, kr_5]) rfl ?_
  exact ⟨rfl, xw0⟩
set_option maxHeartbeats 4000000 in
set_option maxRecDepth 100000 in
theorem ipow_far {w : World} {N k : Nat} {s1 s2 : Bool} {A1 B1 A2 B2 : Option Addr} {c1 d1 L1 M1 c2 d2 L2 M2 : Nat} {q1 q2 : Rat} (h1 : RV w s1 A1 c1 L1 B1 d1 M1 N q1) (h2 : RV w s2 A2 c2 L2 B2 d2 M2 N q2) (hN : N ≤ 40) (hk : k ≤ 16777216) (hbd : ∀ j, j ≤ k → dl (q1.num ^ j).natAbs ≤ 40 ∧ dl (q1.den ^ j) ≤ 40) (hlim : max (bl q1.num.natAbs) (bl q1.den) * k ≤ 16777216) (hfar : 16777216 < max (bl q2.num.natAbs) (bl q2.den) * k) :
    Calls Tryz.prog 43 #[Value.agg #[Value.bool s1, Value.slice A1 L1 c1, Value.slice B1 M1 d1, Value.bool s2, Value.slice A2 L2 c2, Value.slice B2 M2 d2], .int .i64 k] w (RetI0 w 8) := by
  have HB := Lib.hid (And.intro hbd (And.intro hlim hfar))
  clear hbd hlim hfar
  go_enter Tryz.func43, Tryz.ntmps43
  go_wp2_with fail
  obtain ⟨w0, hw0⟩ : ∃ z : World, z = ((w.alloc (.cells #[.bool s1, .slice A1 L1 c1, .slice B1 M1 d1, .bool s2, .slice A2 L2 c2, .slice B2 M2 d2] 29)).alloc (.cells #[.bool false, .slice none 0 0, .slice none 0 0, .bool false, .slice none 0 0, .slice none 0 0] 29)) := ⟨_, rfl⟩
  rw [← hw0]
  have bxi : BK w0 (w.heap.size) 29 #[.bool s1, .slice A1 L1 c1, .slice B1 M1 d1, .bool s2, .slice A2 L2 c2, .slice B2 M2 d2] := by rw [hw0]; have h5 := (BK.ext (BK.new w #[.bool s1, .slice A1 L1 c1, .slice B1 M1 d1, .bool s2, .slice A2 L2 c2, .slice B2 M2 d2] 29) (Ext.alloc _ (.cells #[.bool false, .slice none 0 0, .slice none 0 0, .bool false, .slice none 0 0, .slice none 0 0] 29))); simpa only [World.size_alloc] using h5
  have bxr : BK w0 (w.heap.size + 1) 29 #[.bool false, .slice none 0 0, .slice none 0 0, .bool false, .slice none 0 0, .slice none 0 0] := by rw [hw0]; have h5 := (BK.new (w.alloc (.cells #[.bool s1, .slice A1 L1 c1, .slice B1 M1 d1, .bool s2, .slice A2 L2 c2, .slice B2 M2 d2] 29)) #[.bool false, .slice none 0 0, .slice none 0 0, .bool false, .slice none 0 0, .slice none 0 0] 29); simpa only [World.size_alloc] using h5
  have hszw0 : w0.heap.size = w.heap.size + 1 + 1 := by rw [hw0]; simp only [World.size_alloc]
  have xw0 : Ext w w0 := by rw [hw0]; exact ((Ext.alloc _ _).trans (Ext.alloc _ _))
  clear hw0
  refine (rpow_g (h1.ext (by with_reducible repeat' first | exact Ext.refl _ | assumption | apply Ext.alloc_r | apply Ext.drew_r | apply Ext.drewN_r | refine Ext.trans ?_ ‹Ext _ _›)) HB.out.1 HB.out.2.1 hN hk).mono ?_
  rintro e w1 ⟨su, Au, cu, Lu, Bu, du, Mu, rfl, u, x1⟩
  have szw1 : w0.heap.size ≤ w1.heap.size := x1.size
  replace bxi := bxi.ext x1
  replace bxr := bxr.ext x1
  clear u
  have ki_0 := bxi.c 0 (.bool s1) rfl
  have ki_1 := bxi.c 1 (.slice A1 L1 c1) rfl
  have ki_2 := bxi.c 2 (.slice B1 M1 d1) rfl
  have ki_3 := bxi.c 3 (.bool s2) rfl
  have ki_4 := bxi.c 4 (.slice A2 L2 c2) rfl
  have ki_5 := bxi.c 5 (.slice B2 M2 d2) rfl
  have kr_0 := bxr.c 0 (.bool false) rfl
  have kr_1 := bxr.c 1 (.slice none 0 0) rfl
  have kr_2 := bxr.c 2 (.slice none 0 0) rfl
  have kr_3 := bxr.c 3 (.bool false) rfl
  have kr_4 := bxr.c 4 (.slice none 0 0) rfl
  have kr_5 := bxr.c 5 (.slice none 0 0) rfl
  have t1i_0 := fun (o0 : Obj) => ((Ext.alloc w1 o0).cell (bxi.c 0 (.bool s1) rfl))
  have t1i_1 := fun (o0 : Obj) => ((Ext.alloc w1 o0).cell (bxi.c 1 (.slice A1 L1 c1) rfl))
  have t1i_2 := fun (o0 : Obj) => ((Ext.alloc w1 o0).cell (bxi.c 2 (.slice B1 M1 d1) rfl))
  have t1i_3 := fun (o0 : Obj) => ((Ext.alloc w1 o0).cell (bxi.c 3 (.bool s2) rfl))
  have t1i_4 := fun (o0 : Obj) => ((Ext.alloc w1 o0).cell (bxi.c 4 (.slice A2 L2 c2) rfl))
  have t1i_5 := fun (o0 : Obj) => ((Ext.alloc w1 o0).cell (bxi.c 5 (.slice B2 M2 d2) rfl))
  have t1r_0 := fun (o0 : Obj) => ((Ext.alloc w1 o0).cell (bxr.c 0 (.bool false) rfl))
  have t1r_1 := fun (o0 : Obj) => ((Ext.alloc w1 o0).cell (bxr.c 1 (.slice none 0 0) rfl))
  have t1r_2 := fun (o0 : Obj) => ((Ext.alloc w1 o0).cell (bxr.c 2 (.slice none 0 0) rfl))
  have t1r_3 := fun (o0 : Obj) => ((Ext.alloc w1 o0).cell (bxr.c 3 (.bool false) rfl))
  have t1r_4 := fun (o0 : Obj) => ((Ext.alloc w1 o0).cell (bxr.c 4 (.slice none 0 0) rfl))
  have t1r_5 := fun (o0 : Obj) => ((Ext.alloc w1 o0).cell (bxr.c 5 (.slice none 0 0) rfl))
  go_wp2_with fail
  clear ki_0 ki_1 ki_2 ki_3 ki_4 ki_5 kr_0 kr_1 kr_2 kr_3 kr_4 kr_5 t1i_0 t1i_1 t1i_2 t1i_3 t1i_4 t1i_5 t1r_0 t1r_1 t1r_2 t1r_3 t1r_4 t1r_5
  obtain ⟨w2, hw⟩ : ∃ z : World, z = (w1.alloc (.cells #[.bool su, .slice Au Lu cu, .slice Bu Mu du] 27)) := ⟨_, rfl⟩
  rw [← hw]
  have x2 : Ext w1 w2 := by rw [hw]; exact (Ext.alloc _ _)
  replace bxi := bxi.ext x2
  replace bxr := bxr.ext x2
  have bxf : BK w2 (w1.heap.size) 27 #[.bool su, .slice Au Lu cu, .slice Bu Mu du] := by rw [hw]; have h5 := (BK.new w1 #[.bool su, .slice Au Lu cu, .slice Bu Mu du] 27); simpa only [World.size_alloc] using h5
  have szw2 : w2.heap.size = w1.heap.size + 1 := by rw [hw]; simp only [World.size_alloc]
  clear hw
  refine (rpow_far (h2.ext (by with_reducible repeat' first | exact Ext.refl _ | assumption | apply Ext.alloc_r | apply Ext.drew_r | apply Ext.drewN_r | refine Ext.trans ?_ ‹Ext _ _›)) hN hk HB.out.2.2).mono ?_
  rintro e w3 ⟨rfl, x3⟩
  have szw3 : w2.heap.size ≤ w3.heap.size := x3.size
  replace bxi := bxi.ext x3
  replace bxr := bxr.ext x3
  replace bxf := bxf.ext x3
  clear HB
  have ki_0 := bxi.c 0 (.bool s1) rfl
  have ki_1 := bxi.c 1 (.slice A1 L1 c1) rfl
  have ki_2 := bxi.c 2 (.slice B1 M1 d1) rfl
  have ki_3 := bxi.c 3 (.bool s2) rfl
  have ki_4 := bxi.c 4 (.slice A2 L2 c2) rfl
  have ki_5 := bxi.c 5 (.slice B2 M2 d2) rfl
  have kr_0 := bxr.c 0 (.bool false) rfl
  have fr_0 := bxr.f 0
  have kr_1 := bxr.c 1 (.slice none 0 0) rfl
  have fr_1 := bxr.f 1
  have kr_2 := bxr.c 2 (.slice none 0 0) rfl
  have fr_2 := bxr.f 2
  have kr_3 := bxr.c 3 (.bool false) rfl
  have fr_3 := bxr.f 3
  have kr_4 := bxr.c 4 (.slice none 0 0) rfl
  have fr_4 := bxr.f 4
  have kr_5 := bxr.c 5 (.slice none 0 0) rfl
  have fr_5 := bxr.f 5
  have kf_0 := bxf.c 0 (.bool su) rfl
  have kf_1 := bxf.c 1 (.slice Au Lu cu) rfl
  have kf_2 := bxf.c 2 (.slice Bu Mu du) rfl
  have t1i_0 := fun (o0 : Obj) => ((Ext.alloc w3 o0).cell (bxi.c 0 (.bool s1) rfl))
  have t1i_1 := fun (o0 : Obj) => ((Ext.alloc w3 o0).cell (bxi.c 1 (.slice A1 L1 c1) rfl))
  have t1i_2 := fun (o0 : Obj) => ((Ext.alloc w3 o0).cell (bxi.c 2 (.slice B1 M1 d1) rfl))
  have t1i_3 := fun (o0 : Obj) => ((Ext.alloc w3 o0).cell (bxi.c 3 (.bool s2) rfl))
  have t1i_4 := fun (o0 : Obj) => ((Ext.alloc w3 o0).cell (bxi.c 4 (.slice A2 L2 c2) rfl))
  have t1i_5 := fun (o0 : Obj) => ((Ext.alloc w3 o0).cell (bxi.c 5 (.slice B2 M2 d2) rfl))
  have t1r_0 := fun (o0 : Obj) => ((Ext.alloc w3 o0).cell (bxr.c 0 (.bool false) rfl))
  have z1r_0 := fun (o0 : Obj) => (Ext.frozen (Ext.alloc w3 o0) (bxr.c 0 (.bool false) rfl) (bxr.f 0))
  have t1r_1 := fun (o0 : Obj) => ((Ext.alloc w3 o0).cell (bxr.c 1 (.slice none 0 0) rfl))
  have z1r_1 := fun (o0 : Obj) => (Ext.frozen (Ext.alloc w3 o0) (bxr.c 1 (.slice none 0 0) rfl) (bxr.f 1))
  have t1r_2 := fun (o0 : Obj) => ((Ext.alloc w3 o0).cell (bxr.c 2 (.slice none 0 0) rfl))
  have z1r_2 := fun (o0 : Obj) => (Ext.frozen (Ext.alloc w3 o0) (bxr.c 2 (.slice none 0 0) rfl) (bxr.f 2))
  have t1r_3 := fun (o0 : Obj) => ((Ext.alloc w3 o0).cell (bxr.c 3 (.bool false) rfl))
  have z1r_3 := fun (o0 : Obj) => (Ext.frozen (Ext.alloc w3 o0) (bxr.c 3 (.bool false) rfl) (bxr.f 3))
  have t1r_4 := fun (o0 : Obj) => ((Ext.alloc w3 o0).cell (bxr.c 4 (.slice none 0 0) rfl))
  have z1r_4 := fun (o0 : Obj) => (Ext.frozen (Ext.alloc w3 o0) (bxr.c 4 (.slice none 0 0) rfl) (bxr.f 4))
  have t1r_5 := fun (o0 : Obj) => ((Ext.alloc w3 o0).cell (bxr.c 5 (.slice none 0 0) rfl))
  have z1r_5 := fun (o0 : Obj) => (Ext.frozen (Ext.alloc w3 o0) (bxr.c 5 (.slice none 0 0) rfl) (bxr.f 5))
  have t1f_0 := fun (o0 : Obj) => ((Ext.alloc w3 o0).cell (bxf.c 0 (.bool su) rfl))
  have t1f_1 := fun (o0 : Obj) => ((Ext.alloc w3 o0).cell (bxf.c 1 (.slice Au Lu cu) rfl))
  have t1f_2 := fun (o0 : Obj) => ((Ext.alloc w3 o0).cell (bxf.c 2 (.slice Bu Mu du) rfl))
  go_wp2_with fail
  clear ki_0 ki_1 ki_2 ki_3 ki_4 ki_5 kr_0 fr_0 kr_1 fr_1 kr_2 fr_2 kr_3 fr_3 kr_4 fr_4 kr_5 fr_5 kf_0 kf_1 kf_2 t1i_0 t1i_1 t1i_2 t1i_3 t1i_4 t1i_5 t1r_0 z1r_0 t1r_1 z1r_1 t1r_2 z1r_2 t1r_3 z1r_3 t1r_4 z1r_4 t1r_5 z1r_5 t1f_0 t1f_1 t1f_2
  obtain ⟨w4, hw⟩ : ∃ z : World, z = (w3.alloc (.cells #[.bool false, .slice none 0 0, .slice none 0 0] 27)) := ⟨_, rfl⟩
  rw [← hw]
  have x4 : Ext w3 w4 := by rw [hw]; exact (Ext.alloc _ _)
  replace bxi := bxi.ext x4
  replace bxr := bxr.ext x4
  replace bxf := bxf.ext x4
  have bxs : BK w4 (w3.heap.size) 27 #[.bool false, .slice none 0 0, .slice none 0 0] := by rw [hw]; have h5 := (BK.new w3 #[.bool false, .slice none 0 0, .slice none 0 0] 27); simpa only [World.size_alloc] using h5
  have szw4 : w4.heap.size = w3.heap.size + 1 := by rw [hw]; simp only [World.size_alloc]
  clear hw
  obtain ⟨w5, hw⟩ : ∃ z : World, z = ((((((w4.setCell ⟨w.heap.size + 1, 0, none⟩ (.bool false)).setCell ⟨w.heap.size + 1, 1, none⟩ (.slice none 0 0)).setCell ⟨w.heap.size + 1, 2, none⟩ (.slice none 0 0)).setCell ⟨w.heap.size + 1, 3, none⟩ (.bool false)).setCell ⟨w.heap.size + 1, 4, none⟩ (.slice none 0 0)).setCell ⟨w.heap.size + 1, 5, none⟩ (.slice none 0 0)) := ⟨_, rfl⟩
  rw [← hw]
  have kw5 : Kept w4 w5 := by rw [hw]; exact (Kept.set_ (Kept.set_ (Kept.set_ (Kept.set_ (Kept.set_ (Kept.set_ (Kept.refl _) bxr.isBox plain_iv) (IsBox.set_ bxr.isBox) plain_iv) (IsBox.set_ (IsBox.set_ bxr.isBox)) plain_iv) (IsBox.set_ (IsBox.set_ (IsBox.set_ bxr.isBox))) plain_iv) (IsBox.set_ (IsBox.set_ (IsBox.set_ (IsBox.set_ bxr.isBox)))) plain_iv) (IsBox.set_ (IsBox.set_ (IsBox.set_ (IsBox.set_ (IsBox.set_ bxr.isBox))))) plain_iv)
  have nbi : BK w5 (w.heap.size) 29 #[.bool s1, .slice A1 L1 c1, .slice B1 M1 d1, .bool s2, .slice A2 L2 c2, .slice B2 M2 d2] := by rw [hw]; exact (BK.far (BK.far (BK.far (BK.far (BK.far (BK.far bxi (show w.heap.size ≠ w.heap.size + 1 by omega) 0 _) (show w.heap.size ≠ w.heap.size + 1 by omega) 1 _) (show w.heap.size ≠ w.heap.size + 1 by omega) 2 _) (show w.heap.size ≠ w.heap.size + 1 by omega) 3 _) (show w.heap.size ≠ w.heap.size + 1 by omega) 4 _) (show w.heap.size ≠ w.heap.size + 1 by omega) 5 _)
  have nbr : BK w5 (w.heap.size + 1) 29 #[.bool false, .slice none 0 0, .slice none 0 0, .bool false, .slice none 0 0, .slice none 0 0] := by rw [hw]; exact (BK.set (i := 5) (u := .slice none 0 0) (vs' := #[.bool false, .slice none 0 0, .slice none 0 0, .bool false, .slice none 0 0, .slice none 0 0]) (BK.set (i := 4) (u := .slice none 0 0) (vs' := #[.bool false, .slice none 0 0, .slice none 0 0, .bool false, .slice none 0 0, .slice none 0 0]) (BK.set (i := 3) (u := .bool false) (vs' := #[.bool false, .slice none 0 0, .slice none 0 0, .bool false, .slice none 0 0, .slice none 0 0]) (BK.set (i := 2) (u := .slice none 0 0) (vs' := #[.bool false, .slice none 0 0, .slice none 0 0, .bool false, .slice none 0 0, .slice none 0 0]) (BK.set (i := 1) (u := .slice none 0 0) (vs' := #[.bool false, .slice none 0 0, .slice none 0 0, .bool false, .slice none 0 0, .slice none 0 0]) (BK.set (i := 0) (u := .bool false) (vs' := #[.bool false, .slice none 0 0, .slice none 0 0, .bool false, .slice none 0 0, .slice none 0 0]) bxr rfl) rfl) rfl) rfl) rfl) rfl)
  have nbf : BK w5 (w1.heap.size) 27 #[.bool su, .slice Au Lu cu, .slice Bu Mu du] := by rw [hw]; exact (BK.far (BK.far (BK.far (BK.far (BK.far (BK.far bxf (show w1.heap.size ≠ w.heap.size + 1 by omega) 0 _) (show w1.heap.size ≠ w.heap.size + 1 by omega) 1 _) (show w1.heap.size ≠ w.heap.size + 1 by omega) 2 _) (show w1.heap.size ≠ w.heap.size + 1 by omega) 3 _) (show w1.heap.size ≠ w.heap.size + 1 by omega) 4 _) (show w1.heap.size ≠ w.heap.size + 1 by omega) 5 _)
  have nbs : BK w5 (w3.heap.size) 27 #[.bool false, .slice none 0 0, .slice none 0 0] := by rw [hw]; exact (BK.far (BK.far (BK.far (BK.far (BK.far (BK.far bxs (show w3.heap.size ≠ w.heap.size + 1 by omega) 0 _) (show w3.heap.size ≠ w.heap.size + 1 by omega) 1 _) (show w3.heap.size ≠ w.heap.size + 1 by omega) 2 _) (show w3.heap.size ≠ w.heap.size + 1 by omega) 3 _) (show w3.heap.size ≠ w.heap.size + 1 by omega) 4 _) (show w3.heap.size ≠ w.heap.size + 1 by omega) 5 _)
  have x5 : Ext w w5 := by rw [hw]; have hxp : Ext w w4 := (by with_reducible repeat' first | exact Ext.refl _ | assumption | apply Ext.alloc_r | apply Ext.drew_r | apply Ext.drewN_r | refine Ext.trans ?_ ‹Ext _ _›); exact (Ext.set_ (Ext.set_ (Ext.set_ (Ext.set_ (Ext.set_ (Ext.set_ hxp (show _ ≤ w.heap.size + 1 by omega)) (show _ ≤ w.heap.size + 1 by omega)) (show _ ≤ w.heap.size + 1 by omega)) (show _ ≤ w.heap.size + 1 by omega)) (show _ ≤ w.heap.size + 1 by omega)) (show _ ≤ w.heap.size + 1 by omega))
  clear bxi
  clear bxr
  clear bxf
  clear bxs
  have bxi := nbi
  clear nbi
  have bxr := nbr
  clear nbr
  have bxf := nbf
  clear nbf
  have bxs := nbs
  clear nbs
  have szw5 : w5.heap.size = w4.heap.size := by rw [hw]; simp
  clear hw kw5
  have kr_0 := bxr.c 0 (.bool false) rfl
  have kr_1 := bxr.c 1 (.slice none 0 0) rfl
  have kr_2 := bxr.c 2 (.slice none 0 0) rfl
  have kr_3 := bxr.c 3 (.bool false) rfl
  have kr_4 := bxr.c 4 (.slice none 0 0) rfl
  have kr_5 := bxr.c 5 (.slice none 0 0) rfl
  refine bodyPost_ret (v := .tuple #[.agg #[.bool false, .slice none 0 0, .slice none 0 0, .bool false, .slice none 0 0, .slice none 0 0], .int .i64 8]) (by simp [results, Tryz.results43, go_sem, kr_0, kr_1, kr_2, kr_3, kr_4, kr_5]) rfl ?_
  exact ⟨rfl, x5⟩
set_option maxHeartbeats 4000000 in
set_option maxRecDepth 100000 in
theorem ipow_k0 {w : World} {N k : Nat} {s1 s2 : Bool} {A1 B1 A2 B2 : Option Addr} {c1 d1 L1 M1 c2 d2 L2 M2 : Nat} {q1 q2 : Rat} (h1 : RV w s1 A1 c1 L1 B1 d1 M1 N q1) (h2 : RV w s2 A2 c2 L2 B2 d2 M2 N q2) (hN : N * k ≤ 40) (hN1 : N ≤ 40) (hk : k ≤ 40) (hk0 : k = 0) :
    Calls Tryz.prog 43 #[Value.agg #[Value.bool s1, Value.slice A1 L1 c1, Value.slice B1 M1 d1, Value.bool s2, Value.slice A2 L2 c2, Value.slice B2 M2 d2], .int .i64 k] w (RetIE w 41 (plo q1 q2 k) (phi q1 q2 k)) := by
  have HP : Hid (plo q1 q2 k = minQ (q1 ^ k) (q2 ^ k)) := by show _ = _; unfold plo; rw [if_neg (fun h => by omega)]
  have hd1 : decide ((k : Int) > 0) = false := decide_eq_false (by omega)
  have hd2 : decide (0 < k) = false := decide_eq_false (by omega)
  clear hk0
  go_enter Tryz.func43, Tryz.ntmps43
  go_wp2_with fail
  obtain ⟨w0, hw0⟩ : ∃ z : World, z = ((w.alloc (.cells #[.bool s1, .slice A1 L1 c1, .slice B1 M1 d1, .bool s2, .slice A2 L2 c2, .slice B2 M2 d2] 29)).alloc (.cells #[.bool false, .slice none 0 0, .slice none 0 0, .bool false, .slice none 0 0, .slice none 0 0] 29)) := ⟨_, rfl⟩
  rw [← hw0]
  have bxi : BK w0 (w.heap.size) 29 #[.bool s1, .slice A1 L1 c1, .slice B1 M1 d1, .bool s2, .slice A2 L2 c2, .slice B2 M2 d2] := by rw [hw0]; have h5 := (BK.ext (BK.new w #[.bool s1, .slice A1 L1 c1, .slice B1 M1 d1, .bool s2, .slice A2 L2 c2, .slice B2 M2 d2] 29) (Ext.alloc _ (.cells #[.bool false, .slice none 0 0, .slice none 0 0, .bool false, .slice none 0 0, .slice none 0 0] 29))); simpa only [World.size_alloc] using h5
  have bxr : BK w0 (w.heap.size + 1) 29 #[.bool false, .slice none 0 0, .slice none 0 0, .bool false, .slice none 0 0, .slice none 0 0] := by rw [hw0]; have h5 := (BK.new (w.alloc (.cells #[.bool s1, .slice A1 L1 c1, .slice B1 M1 d1, .bool s2, .slice A2 L2 c2, .slice B2 M2 d2] 29)) #[.bool false, .slice none 0 0, .slice none 0 0, .bool false, .slice none 0 0, .slice none 0 0] 29); simpa only [World.size_alloc] using h5
  have hszw0 : w0.heap.size = w.heap.size + 1 + 1 := by rw [hw0]; simp only [World.size_alloc]
  have xw0 : Ext w w0 := by rw [hw0]; exact ((Ext.alloc _ _).trans (Ext.alloc _ _))
  clear hw0
  refine (rpow_r (h1.ext (by with_reducible repeat' first | exact Ext.refl _ | assumption | apply Ext.alloc_r | apply Ext.drew_r | apply Ext.drewN_r | refine Ext.trans ?_ ‹Ext _ _›)) hN hN1 hk).mono ?_
  rintro e w1 ⟨su, Au, cu, Lu, Bu, du, Mu, rfl, u, x1⟩
  have szw1 : w0.heap.size ≤ w1.heap.size := x1.size
  replace bxi := bxi.ext x1
  replace bxr := bxr.ext x1
  have HU := Lib.hid u.rv
  clear u
  have ki_0 := bxi.c 0 (.bool s1) rfl
  have ki_1 := bxi.c 1 (.slice A1 L1 c1) rfl
  have ki_2 := bxi.c 2 (.slice B1 M1 d1) rfl
  have ki_3 := bxi.c 3 (.bool s2) rfl
  have ki_4 := bxi.c 4 (.slice A2 L2 c2) rfl
  have ki_5 := bxi.c 5 (.slice B2 M2 d2) rfl
  have kr_0 := bxr.c 0 (.bool false) rfl
  have kr_1 := bxr.c 1 (.slice none 0 0) rfl
  have kr_2 := bxr.c 2 (.slice none 0 0) rfl
  have kr_3 := bxr.c 3 (.bool false) rfl
  have kr_4 := bxr.c 4 (.slice none 0 0) rfl
  have kr_5 := bxr.c 5 (.slice none 0 0) rfl
  have t1i_0 := fun (o0 : Obj) => ((Ext.alloc w1 o0).cell (bxi.c 0 (.bool s1) rfl))
  have t1i_1 := fun (o0 : Obj) => ((Ext.alloc w1 o0).cell (bxi.c 1 (.slice A1 L1 c1) rfl))
  have t1i_2 := fun (o0 : Obj) => ((Ext.alloc w1 o0).cell (bxi.c 2 (.slice B1 M1 d1) rfl))
  have t1i_3 := fun (o0 : Obj) => ((Ext.alloc w1 o0).cell (bxi.c 3 (.bool s2) rfl))
  have t1i_4 := fun (o0 : Obj) => ((Ext.alloc w1 o0).cell (bxi.c 4 (.slice A2 L2 c2) rfl))
  have t1i_5 := fun (o0 : Obj) => ((Ext.alloc w1 o0).cell (bxi.c 5 (.slice B2 M2 d2) rfl))
  have t1r_0 := fun (o0 : Obj) => ((Ext.alloc w1 o0).cell (bxr.c 0 (.bool false) rfl))
  have t1r_1 := fun (o0 : Obj) => ((Ext.alloc w1 o0).cell (bxr.c 1 (.slice none 0 0) rfl))
  have t1r_2 := fun (o0 : Obj) => ((Ext.alloc w1 o0).cell (bxr.c 2 (.slice none 0 0) rfl))
  have t1r_3 := fun (o0 : Obj) => ((Ext.alloc w1 o0).cell (bxr.c 3 (.bool false) rfl))
  have t1r_4 := fun (o0 : Obj) => ((Ext.alloc w1 o0).cell (bxr.c 4 (.slice none 0 0) rfl))
  have t1r_5 := fun (o0 : Obj) => ((Ext.alloc w1 o0).cell (bxr.c 5 (.slice none 0 0) rfl))
  go_wp2_with fail
  clear ki_0 ki_1 ki_2 ki_3 ki_4 ki_5 kr_0 kr_1 kr_2 kr_3 kr_4 kr_5 t1i_0 t1i_1 t1i_2 t1i_3 t1i_4 t1i_5 t1r_0 t1r_1 t1r_2 t1r_3 t1r_4 t1r_5
  obtain ⟨w2, hw⟩ : ∃ z : World, z = (w1.alloc (.cells #[.bool su, .slice Au Lu cu, .slice Bu Mu du] 27)) := ⟨_, rfl⟩
  rw [← hw]
  have x2 : Ext w1 w2 := by rw [hw]; exact (Ext.alloc _ _)
  replace bxi := bxi.ext x2
  replace bxr := bxr.ext x2
  have bxf : BK w2 (w1.heap.size) 27 #[.bool su, .slice Au Lu cu, .slice Bu Mu du] := by rw [hw]; have h5 := (BK.new w1 #[.bool su, .slice Au Lu cu, .slice Bu Mu du] 27); simpa only [World.size_alloc] using h5
  have szw2 : w2.heap.size = w1.heap.size + 1 := by rw [hw]; simp only [World.size_alloc]
  clear hw
  refine (rpow_r (h2.ext (by with_reducible repeat' first | exact Ext.refl _ | assumption | apply Ext.alloc_r | apply Ext.drew_r | apply Ext.drewN_r | refine Ext.trans ?_ ‹Ext _ _›)) hN hN1 hk).mono ?_
  rintro e w3 ⟨sv, Av, cv, Lv, Bv, dv, Mv, rfl, v, x3⟩
  have szw3 : w2.heap.size ≤ w3.heap.size := x3.size
  replace bxi := bxi.ext x3
  replace bxr := bxr.ext x3
  replace bxf := bxf.ext x3
  have HV := Lib.hid v.rv
  clear v
  have ki_0 := bxi.c 0 (.bool s1) rfl
  have ki_1 := bxi.c 1 (.slice A1 L1 c1) rfl
  have ki_2 := bxi.c 2 (.slice B1 M1 d1) rfl
  have ki_3 := bxi.c 3 (.bool s2) rfl
  have ki_4 := bxi.c 4 (.slice A2 L2 c2) rfl
  have ki_5 := bxi.c 5 (.slice B2 M2 d2) rfl
  have kr_0 := bxr.c 0 (.bool false) rfl
  have kr_1 := bxr.c 1 (.slice none 0 0) rfl
  have kr_2 := bxr.c 2 (.slice none 0 0) rfl
  have kr_3 := bxr.c 3 (.bool false) rfl
  have kr_4 := bxr.c 4 (.slice none 0 0) rfl
  have kr_5 := bxr.c 5 (.slice none 0 0) rfl
  have kf_0 := bxf.c 0 (.bool su) rfl
  have kf_1 := bxf.c 1 (.slice Au Lu cu) rfl
  have kf_2 := bxf.c 2 (.slice Bu Mu du) rfl
  have t1i_0 := fun (o0 : Obj) => ((Ext.alloc w3 o0).cell (bxi.c 0 (.bool s1) rfl))
  have t1i_1 := fun (o0 : Obj) => ((Ext.alloc w3 o0).cell (bxi.c 1 (.slice A1 L1 c1) rfl))
  have t1i_2 := fun (o0 : Obj) => ((Ext.alloc w3 o0).cell (bxi.c 2 (.slice B1 M1 d1) rfl))
  have t1i_3 := fun (o0 : Obj) => ((Ext.alloc w3 o0).cell (bxi.c 3 (.bool s2) rfl))
  have t1i_4 := fun (o0 : Obj) => ((Ext.alloc w3 o0).cell (bxi.c 4 (.slice A2 L2 c2) rfl))
  have t1i_5 := fun (o0 : Obj) => ((Ext.alloc w3 o0).cell (bxi.c 5 (.slice B2 M2 d2) rfl))
  have t1r_0 := fun (o0 : Obj) => ((Ext.alloc w3 o0).cell (bxr.c 0 (.bool false) rfl))
  have t1r_1 := fun (o0 : Obj) => ((Ext.alloc w3 o0).cell (bxr.c 1 (.slice none 0 0) rfl))
  have t1r_2 := fun (o0 : Obj) => ((Ext.alloc w3 o0).cell (bxr.c 2 (.slice none 0 0) rfl))
  have t1r_3 := fun (o0 : Obj) => ((Ext.alloc w3 o0).cell (bxr.c 3 (.bool false) rfl))
  have t1r_4 := fun (o0 : Obj) => ((Ext.alloc w3 o0).cell (bxr.c 4 (.slice none 0 0) rfl))
  have t1r_5 := fun (o0 : Obj) => ((Ext.alloc w3 o0).cell (bxr.c 5 (.slice none 0 0) rfl))
  have t1f_0 := fun (o0 : Obj) => ((Ext.alloc w3 o0).cell (bxf.c 0 (.bool su) rfl))
  have t1f_1 := fun (o0 : Obj) => ((Ext.alloc w3 o0).cell (bxf.c 1 (.slice Au Lu cu) rfl))
  have t1f_2 := fun (o0 : Obj) => ((Ext.alloc w3 o0).cell (bxf.c 2 (.slice Bu Mu du) rfl))
  go_wp2_with fail
  clear ki_0 ki_1 ki_2 ki_3 ki_4 ki_5 kr_0 kr_1 kr_2 kr_3 kr_4 kr_5 kf_0 kf_1 kf_2 t1i_0 t1i_1 t1i_2 t1i_3 t1i_4 t1i_5 t1r_0 t1r_1 t1r_2 t1r_3 t1r_4 t1r_5 t1f_0 t1f_1 t1f_2
  obtain ⟨w4, hw⟩ : ∃ z : World, z = (w3.alloc (.cells #[.bool sv, .slice Av Lv cv, .slice Bv Mv dv] 27)) := ⟨_, rfl⟩
  rw [← hw]
  have x4 : Ext w3 w4 := by rw [hw]; exact (Ext.alloc _ _)
  replace bxi := bxi.ext x4
  replace bxr := bxr.ext x4
  replace bxf := bxf.ext x4
  have bxs : BK w4 (w3.heap.size) 27 #[.bool sv, .slice Av Lv cv, .slice Bv Mv dv] := by rw [hw]; have h5 := (BK.new w3 #[.bool sv, .slice Av Lv cv, .slice Bv Mv dv] 27); simpa only [World.size_alloc] using h5
  have szw4 : w4.heap.size = w3.heap.size + 1 := by rw [hw]; simp only [World.size_alloc]
  clear hw
  refine (inormal_r (HU.out.ext (by with_reducible repeat' first | exact Ext.refl _ | assumption | apply Ext.alloc_r | apply Ext.drew_r | apply Ext.drewN_r | refine Ext.trans ?_ ‹Ext _ _›)) (HV.out.ext (by with_reducible repeat' first | exact Ext.refl _ | assumption | apply Ext.alloc_r | apply Ext.drew_r | apply Ext.drewN_r | refine Ext.trans ?_ ‹Ext _ _›)) (by omega)).mono ?_
  rintro e w5 ⟨sza, Aza, cza, Lza, Bza, dza, Mza, szb, Azb, czb, Lzb, Bzb, dzb, Mzb, rfl, za, zb, x5⟩
  have szw5 : w4.heap.size ≤ w5.heap.size := x5.size
  replace bxi := bxi.ext x5
  replace bxr := bxr.ext x5
  replace bxf := bxf.ext x5
  replace bxs := bxs.ext x5
  have HZZ := Lib.hid (And.intro (za.mono (show w.heap.size ≤ _ by omega)) (zb.mono (show w.heap.size ≤ _ by omega)))
  clear za zb HU HV
  have ki_0 := bxi.c 0 (.bool s1) rfl
  have ki_1 := bxi.c 1 (.slice A1 L1 c1) rfl
  have ki_2 := bxi.c 2 (.slice B1 M1 d1) rfl
  have ki_3 := bxi.c 3 (.bool s2) rfl
  have ki_4 := bxi.c 4 (.slice A2 L2 c2) rfl
  have ki_5 := bxi.c 5 (.slice B2 M2 d2) rfl
  have kr_0 := bxr.c 0 (.bool false) rfl
  have kr_1 := bxr.c 1 (.slice none 0 0) rfl
  have kr_2 := bxr.c 2 (.slice none 0 0) rfl
  have kr_3 := bxr.c 3 (.bool false) rfl
  have kr_4 := bxr.c 4 (.slice none 0 0) rfl
  have kr_5 := bxr.c 5 (.slice none 0 0) rfl
  have kf_0 := bxf.c 0 (.bool su) rfl
  have kf_1 := bxf.c 1 (.slice Au Lu cu) rfl
  have kf_2 := bxf.c 2 (.slice Bu Mu du) rfl
  have ks_0 := bxs.c 0 (.bool sv) rfl
  have ks_1 := bxs.c 1 (.slice Av Lv cv) rfl
  have ks_2 := bxs.c 2 (.slice Bv Mv dv) rfl
  have t1i_0 := fun (o0 : Obj) => ((Ext.alloc w5 o0).cell (bxi.c 0 (.bool s1) rfl))
  have t1i_1 := fun (o0 : Obj) => ((Ext.alloc w5 o0).cell (bxi.c 1 (.slice A1 L1 c1) rfl))
  have t1i_2 := fun (o0 : Obj) => ((Ext.alloc w5 o0).cell (bxi.c 2 (.slice B1 M1 d1) rfl))
  have t1i_3 := fun (o0 : Obj) => ((Ext.alloc w5 o0).cell (bxi.c 3 (.bool s2) rfl))
  have t1i_4 := fun (o0 : Obj) => ((Ext.alloc w5 o0).cell (bxi.c 4 (.slice A2 L2 c2) rfl))
  have t1i_5 := fun (o0 : Obj) => ((Ext.alloc w5 o0).cell (bxi.c 5 (.slice B2 M2 d2) rfl))
  have t1r_0 := fun (o0 : Obj) => ((Ext.alloc w5 o0).cell (bxr.c 0 (.bool false) rfl))
  have t1r_1 := fun (o0 : Obj) => ((Ext.alloc w5 o0).cell (bxr.c 1 (.slice none 0 0) rfl))
  have t1r_2 := fun (o0 : Obj) => ((Ext.alloc w5 o0).cell (bxr.c 2 (.slice none 0 0) rfl))
  have t1r_3 := fun (o0 : Obj) => ((Ext.alloc w5 o0).cell (bxr.c 3 (.bool false) rfl))
  have t1r_4 := fun (o0 : Obj) => ((Ext.alloc w5 o0).cell (bxr.c 4 (.slice none 0 0) rfl))
  have t1r_5 := fun (o0 : Obj) => ((Ext.alloc w5 o0).cell (bxr.c 5 (.slice none 0 0) rfl))
  have t1f_0 := fun (o0 : Obj) => ((Ext.alloc w5 o0).cell (bxf.c 0 (.bool su) rfl))
  have t1f_1 := fun (o0 : Obj) => ((Ext.alloc w5 o0).cell (bxf.c 1 (.slice Au Lu cu) rfl))
  have t1f_2 := fun (o0 : Obj) => ((Ext.alloc w5 o0).cell (bxf.c 2 (.slice Bu Mu du) rfl))
  have t1s_0 := fun (o0 : Obj) => ((Ext.alloc w5 o0).cell (bxs.c 0 (.bool sv) rfl))
  have t1s_1 := fun (o0 : Obj) => ((Ext.alloc w5 o0).cell (bxs.c 1 (.slice Av Lv cv) rfl))
  have t1s_2 := fun (o0 : Obj) => ((Ext.alloc w5 o0).cell (bxs.c 2 (.slice Bv Mv dv) rfl))
  go_wp2_with fail
  clear ki_0 ki_1 ki_2 ki_3 ki_4 ki_5 kr_0 kr_1 kr_2 kr_3 kr_4 kr_5 kf_0 kf_1 kf_2 ks_0 ks_1 ks_2 t1i_0 t1i_1 t1i_2 t1i_3 t1i_4 t1i_5 t1r_0 t1r_1 t1r_2 t1r_3 t1r_4 t1r_5 t1f_0 t1f_1 t1f_2 t1s_0 t1s_1 t1s_2
  obtain ⟨w6, hw⟩ : ∃ z : World, z = (w5.alloc (.cells #[.bool sza, .slice Aza Lza cza, .slice Bza Mza dza, .bool szb, .slice Azb Lzb czb, .slice Bzb Mzb dzb] 29)) := ⟨_, rfl⟩
  rw [← hw]
  have x6 : Ext w5 w6 := by rw [hw]; exact (Ext.alloc _ _)
  replace bxi := bxi.ext x6
  replace bxr := bxr.ext x6
  replace bxf := bxf.ext x6
  replace bxs := bxs.ext x6
  have bxp : BK w6 (w5.heap.size) 29 #[.bool sza, .slice Aza Lza cza, .slice Bza Mza dza, .bool szb, .slice Azb Lzb czb, .slice Bzb Mzb dzb] := by rw [hw]; have h5 := (BK.new w5 #[.bool sza, .slice Aza Lza cza, .slice Bza Mza dza, .bool szb, .slice Azb Lzb czb, .slice Bzb Mzb dzb] 29); simpa only [World.size_alloc] using h5
  have szw6 : w6.heap.size = w5.heap.size + 1 := by rw [hw]; simp only [World.size_alloc]
  clear hw
  have ki_0 := bxi.c 0 (.bool s1) rfl
  have ki_1 := bxi.c 1 (.slice A1 L1 c1) rfl
  have ki_2 := bxi.c 2 (.slice B1 M1 d1) rfl
  have ki_3 := bxi.c 3 (.bool s2) rfl
  have ki_4 := bxi.c 4 (.slice A2 L2 c2) rfl
  have ki_5 := bxi.c 5 (.slice B2 M2 d2) rfl
  have kr_0 := bxr.c 0 (.bool false) rfl
  have kr_1 := bxr.c 1 (.slice none 0 0) rfl
  have kr_2 := bxr.c 2 (.slice none 0 0) rfl
  have kr_3 := bxr.c 3 (.bool false) rfl
  have kr_4 := bxr.c 4 (.slice none 0 0) rfl
  have kr_5 := bxr.c 5 (.slice none 0 0) rfl
  have kf_0 := bxf.c 0 (.bool su) rfl
  have kf_1 := bxf.c 1 (.slice Au Lu cu) rfl
  have kf_2 := bxf.c 2 (.slice Bu Mu du) rfl
  have ks_0 := bxs.c 0 (.bool sv) rfl
  have ks_1 := bxs.c 1 (.slice Av Lv cv) rfl
  have ks_2 := bxs.c 2 (.slice Bv Mv dv) rfl
  have kp_0 := bxp.c 0 (.bool sza) rfl
  have kp_1 := bxp.c 1 (.slice Aza Lza cza) rfl
  have kp_2 := bxp.c 2 (.slice Bza Mza dza) rfl
  have kp_3 := bxp.c 3 (.bool szb) rfl
  have kp_4 := bxp.c 4 (.slice Azb Lzb czb) rfl
  have kp_5 := bxp.c 5 (.slice Bzb Mzb dzb) rfl
  go_wp2_with fail
  go_quiet (fail)
  clear ki_0 ki_1 ki_2 ki_3 ki_4 ki_5 kr_0 kr_1 kr_2 kr_3 kr_4 kr_5 kf_0 kf_1 kf_2 ks_0 ks_1 ks_2 kp_0 kp_1 kp_2 kp_3 kp_4 kp_5
  obtain ⟨wq, hwq⟩ : ∃ z : World, z = w6.drewN nq := ⟨_, rfl⟩
  rw [← hwq]
  have xq : Ext w6 wq := by rw [hwq]; exact ((Qt.refl _).drewN nq).ext
  clear hwq
  have szq : w6.heap.size ≤ wq.heap.size := xq.size
  replace bxi := bxi.ext xq
  replace bxr := bxr.ext xq
  replace bxf := bxf.ext xq
  replace bxs := bxs.ext xq
  replace bxp := bxp.ext xq
  have ki_0 := bxi.c 0 (.bool s1) rfl
  have ki_1 := bxi.c 1 (.slice A1 L1 c1) rfl
  have ki_2 := bxi.c 2 (.slice B1 M1 d1) rfl
  have ki_3 := bxi.c 3 (.bool s2) rfl
  have ki_4 := bxi.c 4 (.slice A2 L2 c2) rfl
  have ki_5 := bxi.c 5 (.slice B2 M2 d2) rfl
  have kr_0 := bxr.c 0 (.bool false) rfl
  have fr_0 := bxr.f 0
  have kr_1 := bxr.c 1 (.slice none 0 0) rfl
  have fr_1 := bxr.f 1
  have kr_2 := bxr.c 2 (.slice none 0 0) rfl
  have fr_2 := bxr.f 2
  have kr_3 := bxr.c 3 (.bool false) rfl
  have fr_3 := bxr.f 3
  have kr_4 := bxr.c 4 (.slice none 0 0) rfl
  have fr_4 := bxr.f 4
  have kr_5 := bxr.c 5 (.slice none 0 0) rfl
  have fr_5 := bxr.f 5
  have kf_0 := bxf.c 0 (.bool su) rfl
  have kf_1 := bxf.c 1 (.slice Au Lu cu) rfl
  have kf_2 := bxf.c 2 (.slice Bu Mu du) rfl
  have ks_0 := bxs.c 0 (.bool sv) rfl
  have ks_1 := bxs.c 1 (.slice Av Lv cv) rfl
  have ks_2 := bxs.c 2 (.slice Bv Mv dv) rfl
  have kp_0 := bxp.c 0 (.bool sza) rfl
  have kp_1 := bxp.c 1 (.slice Aza Lza cza) rfl
  have kp_2 := bxp.c 2 (.slice Bza Mza dza) rfl
  have kp_3 := bxp.c 3 (.bool szb) rfl
  have kp_4 := bxp.c 4 (.slice Azb Lzb czb) rfl
  have kp_5 := bxp.c 5 (.slice Bzb Mzb dzb) rfl
  go_wp2_with fail
  clear ki_0 ki_1 ki_2 ki_3 ki_4 ki_5 kr_0 fr_0 kr_1 fr_1 kr_2 fr_2 kr_3 fr_3 kr_4 fr_4 kr_5 fr_5 kf_0 kf_1 kf_2 ks_0 ks_1 ks_2 kp_0 kp_1 kp_2 kp_3 kp_4 kp_5
  have za2 := HZZ.out.1.ext (show Ext _ wq from (by with_reducible repeat' first | exact Ext.refl _ | assumption | apply Ext.alloc_r | apply Ext.drew_r | apply Ext.drewN_r | refine Ext.trans ?_ ‹Ext _ _›))
  have zb2 := HZZ.out.2.ext (show Ext _ wq from (by with_reducible repeat' first | exact Ext.refl _ | assumption | apply Ext.alloc_r | apply Ext.drew_r | apply Ext.drewN_r | refine Ext.trans ?_ ‹Ext _ _›))
  clear HZZ
  obtain ⟨w7, hw⟩ : ∃ z : World, z = ((((((wq.setCell ⟨w.heap.size + 1, 0, none⟩ (.bool sza)).setCell ⟨w.heap.size + 1, 1, none⟩ (.slice Aza Lza cza)).setCell ⟨w.heap.size + 1, 2, none⟩ (.slice Bza Mza dza)).setCell ⟨w.heap.size + 1, 3, none⟩ (.bool szb)).setCell ⟨w.heap.size + 1, 4, none⟩ (.slice Azb Lzb czb)).setCell ⟨w.heap.size + 1, 5, none⟩ (.slice Bzb Mzb dzb)) := ⟨_, rfl⟩
  rw [← hw]
  have kw7 : Kept wq w7 := by rw [hw]; exact (Kept.set_ (Kept.set_ (Kept.set_ (Kept.set_ (Kept.set_ (Kept.set_ (Kept.refl _) bxr.isBox plain_iv) (IsBox.set_ bxr.isBox) plain_iv) (IsBox.set_ (IsBox.set_ bxr.isBox)) plain_iv) (IsBox.set_ (IsBox.set_ (IsBox.set_ bxr.isBox))) plain_iv) (IsBox.set_ (IsBox.set_ (IsBox.set_ (IsBox.set_ bxr.isBox)))) plain_iv) (IsBox.set_ (IsBox.set_ (IsBox.set_ (IsBox.set_ (IsBox.set_ bxr.isBox))))) plain_iv)
  have nbi : BK w7 (w.heap.size) 29 #[.bool s1, .slice A1 L1 c1, .slice B1 M1 d1, .bool s2, .slice A2 L2 c2, .slice B2 M2 d2] := by rw [hw]; exact (BK.far (BK.far (BK.far (BK.far (BK.far (BK.far bxi (show w.heap.size ≠ w.heap.size + 1 by omega) 0 _) (show w.heap.size ≠ w.heap.size + 1 by omega) 1 _) (show w.heap.size ≠ w.heap.size + 1 by omega) 2 _) (show w.heap.size ≠ w.heap.size + 1 by omega) 3 _) (show w.heap.size ≠ w.heap.size + 1 by omega) 4 _) (show w.heap.size ≠ w.heap.size + 1 by omega) 5 _)
  have nbr : BK w7 (w.heap.size + 1) 29 #[.bool sza, .slice Aza Lza cza, .slice Bza Mza dza, .bool szb, .slice Azb Lzb czb, .slice Bzb Mzb dzb] := by rw [hw]; exact (BK.set (i := 5) (u := .slice Bzb Mzb dzb) (vs' := #[.bool sza, .slice Aza Lza cza, .slice Bza Mza dza, .bool szb, .slice Azb Lzb czb, .slice Bzb Mzb dzb]) (BK.set (i := 4) (u := .slice Azb Lzb czb) (vs' := #[.bool sza, .slice Aza Lza cza, .slice Bza Mza dza, .bool szb, .slice Azb Lzb czb, .slice none 0 0]) (BK.set (i := 3) (u := .bool szb) (vs' := #[.bool sza, .slice Aza Lza cza, .slice Bza Mza dza, .bool szb, .slice none 0 0, .slice none 0 0]) (BK.set (i := 2) (u := .slice Bza Mza dza) (vs' := #[.bool sza, .slice Aza Lza cza, .slice Bza Mza dza, .bool false, .slice none 0 0, .slice none 0 0]) (BK.set (i := 1) (u := .slice Aza Lza cza) (vs' := #[.bool sza, .slice Aza Lza cza, .slice none 0 0, .bool false, .slice none 0 0, .slice none 0 0]) (BK.set (i := 0) (u := .bool sza) (vs' := #[.bool sza, .slice none 0 0, .slice none 0 0, .bool false, .slice none 0 0, .slice none 0 0]) bxr rfl) rfl) rfl) rfl) rfl) rfl)
  have nbf : BK w7 (w1.heap.size) 27 #[.bool su, .slice Au Lu cu, .slice Bu Mu du] := by rw [hw]; exact (BK.far (BK.far (BK.far (BK.far (BK.far (BK.far bxf (show w1.heap.size ≠ w.heap.size + 1 by omega) 0 _) (show w1.heap.size ≠ w.heap.size + 1 by omega) 1 _) (show w1.heap.size ≠ w.heap.size + 1 by omega) 2 _) (show w1.heap.size ≠ w.heap.size + 1 by omega) 3 _) (show w1.heap.size ≠ w.heap.size + 1 by omega) 4 _) (show w1.heap.size ≠ w.heap.size + 1 by omega) 5 _)
  have nbs : BK w7 (w3.heap.size) 27 #[.bool sv, .slice Av Lv cv, .slice Bv Mv dv] := by rw [hw]; exact (BK.far (BK.far (BK.far (BK.far (BK.far (BK.far bxs (show w3.heap.size ≠ w.heap.size + 1 by omega) 0 _) (show w3.heap.size ≠ w.heap.size + 1 by omega) 1 _) (show w3.heap.size ≠ w.heap.size + 1 by omega) 2 _) (show w3.heap.size ≠ w.heap.size + 1 by omega) 3 _) (show w3.heap.size ≠ w.heap.size + 1 by omega) 4 _) (show w3.heap.size ≠ w.heap.size + 1 by omega) 5 _)
  have nbp : BK w7 (w5.heap.size) 29 #[.bool sza, .slice Aza Lza cza, .slice Bza Mza dza, .bool szb, .slice Azb Lzb czb, .slice Bzb Mzb dzb] := by rw [hw]; exact (BK.far (BK.far (BK.far (BK.far (BK.far (BK.far bxp (show w5.heap.size ≠ w.heap.size + 1 by omega) 0 _) (show w5.heap.size ≠ w.heap.size + 1 by omega) 1 _) (show w5.heap.size ≠ w.heap.size + 1 by omega) 2 _) (show w5.heap.size ≠ w.heap.size + 1 by omega) 3 _) (show w5.heap.size ≠ w.heap.size + 1 by omega) 4 _) (show w5.heap.size ≠ w.heap.size + 1 by omega) 5 _)
  have x7 : Ext w w7 := by rw [hw]; have hxp : Ext w wq := (by with_reducible repeat' first | exact Ext.refl _ | assumption | apply Ext.alloc_r | apply Ext.drew_r | apply Ext.drewN_r | refine Ext.trans ?_ ‹Ext _ _›); exact (Ext.set_ (Ext.set_ (Ext.set_ (Ext.set_ (Ext.set_ (Ext.set_ hxp (show _ ≤ w.heap.size + 1 by omega)) (show _ ≤ w.heap.size + 1 by omega)) (show _ ≤ w.heap.size + 1 by omega)) (show _ ≤ w.heap.size + 1 by omega)) (show _ ≤ w.heap.size + 1 by omega)) (show _ ≤ w.heap.size + 1 by omega))
  clear bxi
  clear bxr
  clear bxf
  clear bxs
  clear bxp
  have bxi := nbi
  clear nbi
  have bxr := nbr
  clear nbr
  have bxf := nbf
  clear nbf
  have bxs := nbs
  clear nbs
  have bxp := nbp
  clear nbp
  have szw7 : w7.heap.size = wq.heap.size := by rw [hw]; simp
  replace za2 := (za2.ext (by with_reducible repeat' first | exact Ext.refl _ | assumption | apply Ext.alloc_r | apply Ext.drew_r | apply Ext.drewN_r | refine Ext.trans ?_ ‹Ext _ _›)).kept kw7
  replace zb2 := (zb2.ext (by with_reducible repeat' first | exact Ext.refl _ | assumption | apply Ext.alloc_r | apply Ext.drew_r | apply Ext.drewN_r | refine Ext.trans ?_ ‹Ext _ _›)).kept kw7
  clear hw kw7
  have HU := Lib.hid za2
  have HV := Lib.hid zb2
  clear za2 zb2
  have kr_0 := bxr.c 0 (.bool sza) rfl
  have kr_1 := bxr.c 1 (.slice Aza Lza cza) rfl
  have kr_2 := bxr.c 2 (.slice Bza Mza dza) rfl
  have kr_3 := bxr.c 3 (.bool szb) rfl
  have kr_4 := bxr.c 4 (.slice Azb Lzb czb) rfl
  have kr_5 := bxr.c 5 (.slice Bzb Mzb dzb) rfl
  refine bodyPost_ret (v := .tuple #[Value.agg #[Value.bool sza, Value.slice Aza Lza cza, Value.slice Bza Mza dza, Value.bool szb, Value.slice Azb Lzb czb, Value.slice Bzb Mzb dzb], .int .i64 0]) (by simp [results, Tryz.results43, go_sem, kr_0, kr_1, kr_2, kr_3, kr_4, kr_5]) rfl ?_
  exact ⟨_, _, _, _, _, _, _, _, _, _, _, _, _, _, rfl, by rw [HP.out]; exact HU.out, HV.out, x7⟩
set_option maxHeartbeats 4000000 in
set_option maxRecDepth 100000 in
theorem ipow_odd {w : World} {N k : Nat} {s1 s2 : Bool} {A1 B1 A2 B2 : Option Addr} {c1 d1 L1 M1 c2 d2 L2 M2 : Nat} {q1 q2 : Rat} (h1 : RV w s1 A1 c1 L1 B1 d1 M1 N q1) (h2 : RV w s2 A2 c2 L2 B2 d2 M2 N q2) (hN : N * k ≤ 40) (hN1 : N ≤ 40) (hk : k ≤ 40) (hk1 : k % 2 = 1) :
    Calls Tryz.prog 43 #[Value.agg #[Value.bool s1, Value.slice A1 L1 c1, Value.slice B1 M1 d1, Value.bool s2, Value.slice A2 L2 c2, Value.slice B2 M2 d2], .int .i64 k] w (RetIE w 41 (plo q1 q2 k) (phi q1 q2 k)) := by
  have HP : Hid (plo q1 q2 k = minQ (q1 ^ k) (q2 ^ k)) := by show _ = _; unfold plo; rw [if_neg (fun h => by omega)]
  have hd1 : decide ((k : Int) > 0) = true := decide_eq_true (by omega)
  have hd2 : decide (0 < k) = true := decide_eq_true (by omega)
  have hm : (k : Int).tmod 2 = 1 := by rw [Int.tmod_eq_emod_of_nonneg (by omega)]; omega
  have HM := Lib.hid hm
  clear hk1 hm
  go_enter Tryz.func43, Tryz.ntmps43
  go_wp2_with fail
  obtain ⟨w0, hw0⟩ : ∃ z : World, z = ((w.alloc (.cells #[.bool s1, .slice A1 L1 c1, .slice B1 M1 d1, .bool s2, .slice A2 L2 c2, .slice B2 M2 d2] 29)).alloc (.cells #[.bool false, .slice none 0 0, .slice none 0 0, .bool false, .slice none 0 0, .slice none 0 0] 29)) := ⟨_, rfl⟩
  rw [← hw0]
  have bxi : BK w0 (w.heap.size) 29 #[.bool s1, .slice A1 L1 c1, .slice B1 M1 d1, .bool s2, .slice A2 L2 c2, .slice B2 M2 d2] := by rw [hw0]; have h5 := (BK.ext (BK.new w #[.bool s1, .slice A1 L1 c1, .slice B1 M1 d1, .bool s2, .slice A2 L2 c2, .slice B2 M2 d2] 29) (Ext.alloc _ (.cells #[.bool false, .slice none 0 0, .slice none 0 0, .bool false, .slice none 0 0, .slice none 0 0] 29))); simpa only [World.size_alloc] using h5
  have bxr : BK w0 (w.heap.size + 1) 29 #[.bool false, .slice none 0 0, .slice none 0 0, .bool false, .slice none 0 0, .slice none 0 0] := by rw [hw0]; have h5 := (BK.new (w.alloc (.cells #[.bool s1, .slice A1 L1 c1, .slice B1 M1 d1, .bool s2, .slice A2 L2 c2, .slice B2 M2 d2] 29)) #[.bool false, .slice none 0 0, .slice none 0 0, .bool false, .slice none 0 0, .slice none 0 0] 29); simpa only [World.size_alloc] using h5
  have hszw0 : w0.heap.size = w.heap.size + 1 + 1 := by rw [hw0]; simp only [World.size_alloc]
  have xw0 : Ext w w0 := by rw [hw0]; exact ((Ext.alloc _ _).trans (Ext.alloc _ _))
  clear hw0
  refine (rpow_r (h1.ext (by with_reducible repeat' first | exact Ext.refl _ | assumption | apply Ext.alloc_r | apply Ext.drew_r | apply Ext.drewN_r | refine Ext.trans ?_ ‹Ext _ _›)) hN hN1 hk).mono ?_
  rintro e w1 ⟨su, Au, cu, Lu, Bu, du, Mu, rfl, u, x1⟩
  have szw1 : w0.heap.size ≤ w1.heap.size := x1.size
  replace bxi := bxi.ext x1
  replace bxr := bxr.ext x1
  have HU := Lib.hid u.rv
  clear u
  have ki_0 := bxi.c 0 (.bool s1) rfl
  have ki_1 := bxi.c 1 (.slice A1 L1 c1) rfl
  have ki_2 := bxi.c 2 (.slice B1 M1 d1) rfl
  have ki_3 := bxi.c 3 (.bool s2) rfl
  have ki_4 := bxi.c 4 (.slice A2 L2 c2) rfl
  have ki_5 := bxi.c 5 (.slice B2 M2 d2) rfl
  have kr_0 := bxr.c 0 (.bool false) rfl
  have kr_1 := bxr.c 1 (.slice none 0 0) rfl
  have kr_2 := bxr.c 2 (.slice none 0 0) rfl
  have kr_3 := bxr.c 3 (.bool false) rfl
  have kr_4 := bxr.c 4 (.slice none 0 0) rfl
  have kr_5 := bxr.c 5 (.slice none 0 0) rfl
  have t1i_0 := fun (o0 : Obj) => ((Ext.alloc w1 o0).cell (bxi.c 0 (.bool s1) rfl))
  have t1i_1 := fun (o0 : Obj) => ((Ext.alloc w1 o0).cell (bxi.c 1 (.slice A1 L1 c1) rfl))
  have t1i_2 := fun (o0 : Obj) => ((Ext.alloc w1 o0).cell (bxi.c 2 (.slice B1 M1 d1) rfl))
  have t1i_3 := fun (o0 : Obj) => ((Ext.alloc w1 o0).cell (bxi.c 3 (.bool s2) rfl))
  have t1i_4 := fun (o0 : Obj) => ((Ext.alloc w1 o0).cell (bxi.c 4 (.slice A2 L2 c2) rfl))
  have t1i_5 := fun (o0 : Obj) => ((Ext.alloc w1 o0).cell (bxi.c 5 (.slice B2 M2 d2) rfl))
  have t1r_0 := fun (o0 : Obj) => ((Ext.alloc w1 o0).cell (bxr.c 0 (.bool false) rfl))
  have t1r_1 := fun (o0 : Obj) => ((Ext.alloc w1 o0).cell (bxr.c 1 (.slice none 0 0) rfl))
  have t1r_2 := fun (o0 : Obj) => ((Ext.alloc w1 o0).cell (bxr.c 2 (.slice none 0 0) rfl))
  have t1r_3 := fun (o0 : Obj) => ((Ext.alloc w1 o0).cell (bxr.c 3 (.bool false) rfl))
  have t1r_4 := fun (o0 : Obj) => ((Ext.alloc w1 o0).cell (bxr.c 4 (.slice none 0 0) rfl))
  have t1r_5 := fun (o0 : Obj) => ((Ext.alloc w1 o0).cell (bxr.c 5 (.slice none 0 0) rfl))
  go_wp2_with fail
  clear ki_0 ki_1 ki_2 ki_3 ki_4 ki_5 kr_0 kr_1 kr_2 kr_3 kr_4 kr_5 t1i_0 t1i_1 t1i_2 t1i_3 t1i_4 t1i_5 t1r_0 t1r_1 t1r_2 t1r_3 t1r_4 t1r_5
  obtain ⟨w2, hw⟩ : ∃ z : World, z = (w1.alloc (.cells #[.bool su, .slice Au Lu cu, .slice Bu Mu du] 27)) := ⟨_, rfl⟩
  rw [← hw]
  have x2 : Ext w1 w2 := by rw [hw]; exact (Ext.alloc _ _)
  replace bxi := bxi.ext x2
  replace bxr := bxr.ext x2
  have bxf : BK w2 (w1.heap.size) 27 #[.bool su, .slice Au Lu cu, .slice Bu Mu du] := by rw [hw]; have h5 := (BK.new w1 #[.bool su, .slice Au Lu cu, .slice Bu Mu du] 27); simpa only [World.size_alloc] using h5
  have szw2 : w2.heap.size = w1.heap.size + 1 := by rw [hw]; simp only [World.size_alloc]
  clear hw
  refine (rpow_r (h2.ext (by with_reducible repeat' first | exact Ext.refl _ | assumption | apply Ext.alloc_r | apply Ext.drew_r | apply Ext.drewN_r | refine Ext.trans ?_ ‹Ext _ _›)) hN hN1 hk).mono ?_
  rintro e w3 ⟨sv, Av, cv, Lv, Bv, dv, Mv, rfl, v, x3⟩
  have szw3 : w2.heap.size ≤ w3.heap.size := x3.size
  replace bxi := bxi.ext x3
  replace bxr := bxr.ext x3
  replace bxf := bxf.ext x3
  have HV := Lib.hid v.rv
  clear v
  have ki_0 := bxi.c 0 (.bool s1) rfl
  have ki_1 := bxi.c 1 (.slice A1 L1 c1) rfl
  have ki_2 := bxi.c 2 (.slice B1 M1 d1) rfl
  have ki_3 := bxi.c 3 (.bool s2) rfl
  have ki_4 := bxi.c 4 (.slice A2 L2 c2) rfl
  have ki_5 := bxi.c 5 (.slice B2 M2 d2) rfl
  have kr_0 := bxr.c 0 (.bool false) rfl
  have kr_1 := bxr.c 1 (.slice none 0 0) rfl
  have kr_2 := bxr.c 2 (.slice none 0 0) rfl
  have kr_3 := bxr.c 3 (.bool false) rfl
  have kr_4 := bxr.c 4 (.slice none 0 0) rfl
  have kr_5 := bxr.c 5 (.slice none 0 0) rfl
  have kf_0 := bxf.c 0 (.bool su) rfl
  have kf_1 := bxf.c 1 (.slice Au Lu cu) rfl
  have kf_2 := bxf.c 2 (.slice Bu Mu du) rfl
  have t1i_0 := fun (o0 : Obj) => ((Ext.alloc w3 o0).cell (bxi.c 0 (.bool s1) rfl))
  have t1i_1 := fun (o0 : Obj) => ((Ext.alloc w3 o0).cell (bxi.c 1 (.slice A1 L1 c1) rfl))
  have t1i_2 := fun (o0 : Obj) => ((Ext.alloc w3 o0).cell (bxi.c 2 (.slice B1 M1 d1) rfl))
  have t1i_3 := fun (o0 : Obj) => ((Ext.alloc w3 o0).cell (bxi.c 3 (.bool s2) rfl))
  have t1i_4 := fun (o0 : Obj) => ((Ext.alloc w3 o0).cell (bxi.c 4 (.slice A2 L2 c2) rfl))
  have t1i_5 := fun (o0 : Obj) => ((Ext.alloc w3 o0).cell (bxi.c 5 (.slice B2 M2 d2) rfl))
  have t1r_0 := fun (o0 : Obj) => ((Ext.alloc w3 o0).cell (bxr.c 0 (.bool false) rfl))
  have t1r_1 := fun (o0 : Obj) => ((Ext.alloc w3 o0).cell (bxr.c 1 (.slice none 0 0) rfl))
  have t1r_2 := fun (o0 : Obj) => ((Ext.alloc w3 o0).cell (bxr.c 2 (.slice none 0 0) rfl))
  have t1r_3 := fun (o0 : Obj) => ((Ext.alloc w3 o0).cell (bxr.c 3 (.bool false) rfl))
  have t1r_4 := fun (o0 : Obj) => ((Ext.alloc w3 o0).cell (bxr.c 4 (.slice none 0 0) rfl))
  have t1r_5 := fun (o0 : Obj) => ((Ext.alloc w3 o0).cell (bxr.c 5 (.slice none 0 0) rfl))
  have t1f_0 := fun (o0 : Obj) => ((Ext.alloc w3 o0).cell (bxf.c 0 (.bool su) rfl))
  have t1f_1 := fun (o0 : Obj) => ((Ext.alloc w3 o0).cell (bxf.c 1 (.slice Au Lu cu) rfl))
  have t1f_2 := fun (o0 : Obj) => ((Ext.alloc w3 o0).cell (bxf.c 2 (.slice Bu Mu du) rfl))
  go_wp2_with fail
  clear ki_0 ki_1 ki_2 ki_3 ki_4 ki_5 kr_0 kr_1 kr_2 kr_3 kr_4 kr_5 kf_0 kf_1 kf_2 t1i_0 t1i_1 t1i_2 t1i_3 t1i_4 t1i_5 t1r_0 t1r_1 t1r_2 t1r_3 t1r_4 t1r_5 t1f_0 t1f_1 t1f_2
  obtain ⟨w4, hw⟩ : ∃ z : World, z = (w3.alloc (.cells #[.bool sv, .slice Av Lv cv, .slice Bv Mv dv] 27)) := ⟨_, rfl⟩
  rw [← hw]
  have x4 : Ext w3 w4 := by rw [hw]; exact (Ext.alloc _ _)
  replace bxi := bxi.ext x4
  replace bxr := bxr.ext x4
  replace bxf := bxf.ext x4
  have bxs : BK w4 (w3.heap.size) 27 #[.bool sv, .slice Av Lv cv, .slice Bv Mv dv] := by rw [hw]; have h5 := (BK.new w3 #[.bool sv, .slice Av Lv cv, .slice Bv Mv dv] 27); simpa only [World.size_alloc] using h5
  have szw4 : w4.heap.size = w3.heap.size + 1 := by rw [hw]; simp only [World.size_alloc]
  clear hw
  refine (inormal_r (HU.out.ext (by with_reducible repeat' first | exact Ext.refl _ | assumption | apply Ext.alloc_r | apply Ext.drew_r | apply Ext.drewN_r | refine Ext.trans ?_ ‹Ext _ _›)) (HV.out.ext (by with_reducible repeat' first | exact Ext.refl _ | assumption | apply Ext.alloc_r | apply Ext.drew_r | apply Ext.drewN_r | refine Ext.trans ?_ ‹Ext _ _›)) (by omega)).mono ?_
  rintro e w5 ⟨sza, Aza, cza, Lza, Bza, dza, Mza, szb, Azb, czb, Lzb, Bzb, dzb, Mzb, rfl, za, zb, x5⟩
  have szw5 : w4.heap.size ≤ w5.heap.size := x5.size
  replace bxi := bxi.ext x5
  replace bxr := bxr.ext x5
  replace bxf := bxf.ext x5
  replace bxs := bxs.ext x5
  have HZZ := Lib.hid (And.intro (za.mono (show w.heap.size ≤ _ by omega)) (zb.mono (show w.heap.size ≤ _ by omega)))
  clear za zb HU HV
  have ki_0 := bxi.c 0 (.bool s1) rfl
  have ki_1 := bxi.c 1 (.slice A1 L1 c1) rfl
  have ki_2 := bxi.c 2 (.slice B1 M1 d1) rfl
  have ki_3 := bxi.c 3 (.bool s2) rfl
  have ki_4 := bxi.c 4 (.slice A2 L2 c2) rfl
  have ki_5 := bxi.c 5 (.slice B2 M2 d2) rfl
  have kr_0 := bxr.c 0 (.bool false) rfl
  have kr_1 := bxr.c 1 (.slice none 0 0) rfl
  have kr_2 := bxr.c 2 (.slice none 0 0) rfl
  have kr_3 := bxr.c 3 (.bool false) rfl
  have kr_4 := bxr.c 4 (.slice none 0 0) rfl
  have kr_5 := bxr.c 5 (.slice none 0 0) rfl
  have kf_0 := bxf.c 0 (.bool su) rfl
  have kf_1 := bxf.c 1 (.slice Au Lu cu) rfl
  have kf_2 := bxf.c 2 (.slice Bu Mu du) rfl
  have ks_0 := bxs.c 0 (.bool sv) rfl
  have ks_1 := bxs.c 1 (.slice Av Lv cv) rfl
  have ks_2 := bxs.c 2 (.slice Bv Mv dv) rfl
  have t1i_0 := fun (o0 : Obj) => ((Ext.alloc w5 o0).cell (bxi.c 0 (.bool s1) rfl))
  have t1i_1 := fun (o0 : Obj) => ((Ext.alloc w5 o0).cell (bxi.c 1 (.slice A1 L1 c1) rfl))
  have t1i_2 := fun (o0 : Obj) => ((Ext.alloc w5 o0).cell (bxi.c 2 (.slice B1 M1 d1) rfl))
  have t1i_3 := fun (o0 : Obj) => ((Ext.alloc w5 o0).cell (bxi.c 3 (.bool s2) rfl))
  have t1i_4 := fun (o0 : Obj) => ((Ext.alloc w5 o0).cell (bxi.c 4 (.slice A2 L2 c2) rfl))
  have t1i_5 := fun (o0 : Obj) => ((Ext.alloc w5 o0).cell (bxi.c 5 (.slice B2 M2 d2) rfl))
  have t1r_0 := fun (o0 : Obj) => ((Ext.alloc w5 o0).cell (bxr.c 0 (.bool false) rfl))
  have t1r_1 := fun (o0 : Obj) => ((Ext.alloc w5 o0).cell (bxr.c 1 (.slice none 0 0) rfl))
  have t1r_2 := fun (o0 : Obj) => ((Ext.alloc w5 o0).cell (bxr.c 2 (.slice none 0 0) rfl))
  have t1r_3 := fun (o0 : Obj) => ((Ext.alloc w5 o0).cell (bxr.c 3 (.bool false) rfl))
  have t1r_4 := fun (o0 : Obj) => ((Ext.alloc w5 o0).cell (bxr.c 4 (.slice none 0 0) rfl))
  have t1r_5 := fun (o0 : Obj) => ((Ext.alloc w5 o0).cell (bxr.c 5 (.slice none 0 0) rfl))
  have t1f_0 := fun (o0 : Obj) => ((Ext.alloc w5 o0).cell (bxf.c 0 (.bool su) rfl))
  have t1f_1 := fun (o0 : Obj) => ((Ext.alloc w5 o0).cell (bxf.c 1 (.slice Au Lu cu) rfl))
  have t1f_2 := fun (o0 : Obj) => ((Ext.alloc w5 o0).cell (bxf.c 2 (.slice Bu Mu du) rfl))
  have t1s_0 := fun (o0 : Obj) => ((Ext.alloc w5 o0).cell (bxs.c 0 (.bool sv) rfl))
  have t1s_1 := fun (o0 : Obj) => ((Ext.alloc w5 o0).cell (bxs.c 1 (.slice Av Lv cv) rfl))
  have t1s_2 := fun (o0 : Obj) => ((Ext.alloc w5 o0).cell (bxs.c 2 (.slice Bv Mv dv) rfl))
  go_wp2_with fail
  clear ki_0 ki_1 ki_2 ki_3 ki_4 ki_5 kr_0 kr_1 kr_2 kr_3 kr_4 kr_5 kf_0 kf_1 kf_2 ks_0 ks_1 ks_2 t1i_0 t1i_1 t1i_2 t1i_3 t1i_4 t1i_5 t1r_0 t1r_1 t1r_2 t1r_3 t1r_4 t1r_5 t1f_0 t1f_1 t1f_2 t1s_0 t1s_1 t1s_2
  obtain ⟨w6, hw⟩ : ∃ z : World, z = (w5.alloc (.cells #[.bool sza, .slice Aza Lza cza, .slice Bza Mza dza, .bool szb, .slice Azb Lzb czb, .slice Bzb Mzb dzb] 29)) := ⟨_, rfl⟩
  rw [← hw]
  have x6 : Ext w5 w6 := by rw [hw]; exact (Ext.alloc _ _)
  replace bxi := bxi.ext x6
  replace bxr := bxr.ext x6
  replace bxf := bxf.ext x6
  replace bxs := bxs.ext x6
  have bxp : BK w6 (w5.heap.size) 29 #[.bool sza, .slice Aza Lza cza, .slice Bza Mza dza, .bool szb, .slice Azb Lzb czb, .slice Bzb Mzb dzb] := by rw [hw]; have h5 := (BK.new w5 #[.bool sza, .slice Aza Lza cza, .slice Bza Mza dza, .bool szb, .slice Azb Lzb czb, .slice Bzb Mzb dzb] 29); simpa only [World.size_alloc] using h5
  have szw6 : w6.heap.size = w5.heap.size + 1 := by rw [hw]; simp only [World.size_alloc]
  clear hw
  have hm := HM.out
  have ki_0 := bxi.c 0 (.bool s1) rfl
  have ki_1 := bxi.c 1 (.slice A1 L1 c1) rfl
  have ki_2 := bxi.c 2 (.slice B1 M1 d1) rfl
  have ki_3 := bxi.c 3 (.bool s2) rfl
  have ki_4 := bxi.c 4 (.slice A2 L2 c2) rfl
  have ki_5 := bxi.c 5 (.slice B2 M2 d2) rfl
  have kr_0 := bxr.c 0 (.bool false) rfl
  have kr_1 := bxr.c 1 (.slice none 0 0) rfl
  have kr_2 := bxr.c 2 (.slice none 0 0) rfl
  have kr_3 := bxr.c 3 (.bool false) rfl
  have kr_4 := bxr.c 4 (.slice none 0 0) rfl
  have kr_5 := bxr.c 5 (.slice none 0 0) rfl
  have kf_0 := bxf.c 0 (.bool su) rfl
  have kf_1 := bxf.c 1 (.slice Au Lu cu) rfl
  have kf_2 := bxf.c 2 (.slice Bu Mu du) rfl
  have ks_0 := bxs.c 0 (.bool sv) rfl
  have ks_1 := bxs.c 1 (.slice Av Lv cv) rfl
  have ks_2 := bxs.c 2 (.slice Bv Mv dv) rfl
  have kp_0 := bxp.c 0 (.bool sza) rfl
  have kp_1 := bxp.c 1 (.slice Aza Lza cza) rfl
  have kp_2 := bxp.c 2 (.slice Bza Mza dza) rfl
  have kp_3 := bxp.c 3 (.bool szb) rfl
  have kp_4 := bxp.c 4 (.slice Azb Lzb czb) rfl
  have kp_5 := bxp.c 5 (.slice Bzb Mzb dzb) rfl
  go_wp2_with fail
  go_quiet (fail)
  clear ki_0 ki_1 ki_2 ki_3 ki_4 ki_5 kr_0 kr_1 kr_2 kr_3 kr_4 kr_5 kf_0 kf_1 kf_2 ks_0 ks_1 ks_2 kp_0 kp_1 kp_2 kp_3 kp_4 kp_5
  obtain ⟨wq, hwq⟩ : ∃ z : World, z = w6.drewN nq := ⟨_, rfl⟩
  rw [← hwq]
  have xq : Ext w6 wq := by rw [hwq]; exact ((Qt.refl _).drewN nq).ext
  clear hwq hm
  have szq : w6.heap.size ≤ wq.heap.size := xq.size
  replace bxi := bxi.ext xq
  replace bxr := bxr.ext xq
  replace bxf := bxf.ext xq
  replace bxs := bxs.ext xq
  replace bxp := bxp.ext xq
  have ki_0 := bxi.c 0 (.bool s1) rfl
  have ki_1 := bxi.c 1 (.slice A1 L1 c1) rfl
  have ki_2 := bxi.c 2 (.slice B1 M1 d1) rfl
  have ki_3 := bxi.c 3 (.bool s2) rfl
  have ki_4 := bxi.c 4 (.slice A2 L2 c2) rfl
  have ki_5 := bxi.c 5 (.slice B2 M2 d2) rfl
  have kr_0 := bxr.c 0 (.bool false) rfl
  have fr_0 := bxr.f 0
  have kr_1 := bxr.c 1 (.slice none 0 0) rfl
  have fr_1 := bxr.f 1
  have kr_2 := bxr.c 2 (.slice none 0 0) rfl
  have fr_2 := bxr.f 2
  have kr_3 := bxr.c 3 (.bool false) rfl
  have fr_3 := bxr.f 3
  have kr_4 := bxr.c 4 (.slice none 0 0) rfl
  have fr_4 := bxr.f 4
  have kr_5 := bxr.c 5 (.slice none 0 0) rfl
  have fr_5 := bxr.f 5
  have kf_0 := bxf.c 0 (.bool su) rfl
  have kf_1 := bxf.c 1 (.slice Au Lu cu) rfl
  have kf_2 := bxf.c 2 (.slice Bu Mu du) rfl
  have ks_0 := bxs.c 0 (.bool sv) rfl
  have ks_1 := bxs.c 1 (.slice Av Lv cv) rfl
  have ks_2 := bxs.c 2 (.slice Bv Mv dv) rfl
  have kp_0 := bxp.c 0 (.bool sza) rfl
  have kp_1 := bxp.c 1 (.slice Aza Lza cza) rfl
  have kp_2 := bxp.c 2 (.slice Bza Mza dza) rfl
  have kp_3 := bxp.c 3 (.bool szb) rfl
  have kp_4 := bxp.c 4 (.slice Azb Lzb czb) rfl
  have kp_5 := bxp.c 5 (.slice Bzb Mzb dzb) rfl
  go_wp2_with fail
  clear ki_0 ki_1 ki_2 ki_3 ki_4 ki_5 kr_0 fr_0 kr_1 fr_1 kr_2 fr_2 kr_3 fr_3 kr_4 fr_4 kr_5 fr_5 kf_0 kf_1 kf_2 ks_0 ks_1 ks_2 kp_0 kp_1 kp_2 kp_3 kp_4 kp_5
  have za2 := HZZ.out.1.ext (show Ext _ wq from (by with_reducible repeat' first | exact Ext.refl _ | assumption | apply Ext.alloc_r | apply Ext.drew_r | apply Ext.drewN_r | refine Ext.trans ?_ ‹Ext _ _›))
  have zb2 := HZZ.out.2.ext (show Ext _ wq from (by with_reducible repeat' first | exact Ext.refl _ | assumption | apply Ext.alloc_r | apply Ext.drew_r | apply Ext.drewN_r | refine Ext.trans ?_ ‹Ext _ _›))
  clear HZZ
  obtain ⟨w7, hw⟩ : ∃ z : World, z = ((((((wq.setCell ⟨w.heap.size + 1, 0, none⟩ (.bool sza)).setCell ⟨w.heap.size + 1, 1, none⟩ (.slice Aza Lza cza)).setCell ⟨w.heap.size + 1, 2, none⟩ (.slice Bza Mza dza)).setCell ⟨w.heap.size + 1, 3, none⟩ (.bool szb)).setCell ⟨w.heap.size + 1, 4, none⟩ (.slice Azb Lzb czb)).setCell ⟨w.heap.size + 1, 5, none⟩ (.slice Bzb Mzb dzb)) := ⟨_, rfl⟩
  rw [← hw]
  have kw7 : Kept wq w7 := by rw [hw]; exact (Kept.set_ (Kept.set_ (Kept.set_ (Kept.set_ (Kept.set_ (Kept.set_ (Kept.refl _) bxr.isBox plain_iv) (IsBox.set_ bxr.isBox) plain_iv) (IsBox.set_ (IsBox.set_ bxr.isBox)) plain_iv) (IsBox.set_ (IsBox.set_ (IsBox.set_ bxr.isBox))) plain_iv) (IsBox.set_ (IsBox.set_ (IsBox.set_ (IsBox.set_ bxr.isBox)))) plain_iv) (IsBox.set_ (IsBox.set_ (IsBox.set_ (IsBox.set_ (IsBox.set_ bxr.isBox))))) plain_iv)
  have nbi : BK w7 (w.heap.size) 29 #[.bool s1, .slice A1 L1 c1, .slice B1 M1 d1, .bool s2, .slice A2 L2 c2, .slice B2 M2 d2] := by rw [hw]; exact (BK.far (BK.far (BK.far (BK.far (BK.far (BK.far bxi (show w.heap.size ≠ w.heap.size + 1 by omega) 0 _) (show w.heap.size ≠ w.heap.size + 1 by omega) 1 _) (show w.heap.size ≠ w.heap.size + 1 by omega) 2 _) (show w.heap.size ≠ w.heap.size + 1 by omega) 3 _) (show w.heap.size ≠ w.heap.size + 1 by omega) 4 _) (show w.heap.size ≠ w.heap.size + 1 by omega) 5 _)
  have nbr : BK w7 (w.heap.size + 1) 29 #[.bool sza, .slice Aza Lza cza, .slice Bza Mza dza, .bool szb, .slice Azb Lzb czb, .slice Bzb Mzb dzb] := by rw [hw]; exact (BK.set (i := 5) (u := .slice Bzb Mzb dzb) (vs' := #[.bool sza, .slice Aza Lza cza, .slice Bza Mza dza, .bool szb, .slice Azb Lzb czb, .slice Bzb Mzb dzb]) (BK.set (i := 4) (u := .slice Azb Lzb czb) (vs' := #[.bool sza, .slice Aza Lza cza, .slice Bza Mza dza, .bool szb, .slice Azb Lzb czb, .slice none 0 0]) (BK.set (i := 3) (u := .bool szb) (vs' := #[.bool sza, .slice Aza Lza cza, .slice Bza Mza dza, .bool szb, .slice none 0 0, .slice none 0 0]) (BK.set (i := 2) (u := .slice Bza Mza dza) (vs' := #[.bool sza, .slice Aza Lza cza, .slice Bza Mza dza, .bool false, .slice none 0 0, .slice none 0 0]) (BK.set (i := 1) (u := .slice Aza Lza cza) (vs' := #[.bool sza, .slice Aza Lza cza, .slice none 0 0, .bool false, .slice none 0 0, .slice none 0 0]) (BK.set (i := 0) (u := .bool sza) (vs' := #[.bool sza, .slice none 0 0, .slice none 0 0, .bool false, .slice none 0 0, .slice none 0 0]) bxr rfl) rfl) rfl) rfl) rfl) rfl)
  have nbf : BK w7 (w1.heap.size) 27 #[.bool su, .slice Au Lu cu, .slice Bu Mu du] := by rw [hw]; exact (BK.far (BK.far (BK.far (BK.far (BK.far (BK.far bxf (show w1.heap.size ≠ w.heap.size + 1 by omega) 0 _) (show w1.heap.size ≠ w.heap.size + 1 by omega) 1 _) (show w1.heap.size ≠ w.heap.size + 1 by omega) 2 _) (show w1.heap.size ≠ w.heap.size + 1 by omega) 3 _) (show w1.heap.size ≠ w.heap.size + 1 by omega) 4 _) (show w1.heap.size ≠ w.heap.size + 1 by omega) 5 _)
  have nbs : BK w7 (w3.heap.size) 27 #[.bool sv, .slice Av Lv cv, .slice Bv Mv dv] := by rw [hw]; exact (BK.far (BK.far (BK.far (BK.far (BK.far (BK.far bxs (show w3.heap.size ≠ w.heap.size + 1 by omega) 0 _) (show w3.heap.size ≠ w.heap.size + 1 by omega) 1 _) (show w3.heap.size ≠ w.heap.size + 1 by omega) 2 _) (show w3.heap.size ≠ w.heap.size + 1 by omega) 3 _) (show w3.heap.size ≠ w.heap.size + 1 by omega) 4 _) (show w3.heap.size ≠ w.heap.size + 1 by omega) 5 _)
  have nbp : BK w7 (w5.heap.size) 29 #[.bool sza, .slice Aza Lza cza, .slice Bza Mza dza, .bool szb, .slice Azb Lzb czb, .slice Bzb Mzb dzb] := by rw [hw]; exact (BK.far (BK.far (BK.far (BK.far (BK.far (BK.far bxp (show w5.heap.size ≠ w.heap.size + 1 by omega) 0 _) (show w5.heap.size ≠ w.heap.size + 1 by omega) 1 _) (show w5.heap.size ≠ w.heap.size + 1 by omega) 2 _) (show w5.heap.size ≠ w.heap.size + 1 by omega) 3 _) (show w5.heap.size ≠ w.heap.size + 1 by omega) 4 _) (show w5.heap.size ≠ w.heap.size + 1 by omega) 5 _)
  have x7 : Ext w w7 := by rw [hw]; have hxp : Ext w wq := (by with_reducible repeat' first | exact Ext.refl _ | assumption | apply Ext.alloc_r | apply Ext.drew_r | apply Ext.drewN_r | refine Ext.trans ?_ ‹Ext _ _›); exact (Ext.set_ (Ext.set_ (Ext.set_ (Ext.set_ (Ext.set_ (Ext.set_ hxp (show _ ≤ w.heap.size + 1 by omega)) (show _ ≤ w.heap.size + 1 by omega)) (show _ ≤ w.heap.size + 1 by omega)) (show _ ≤ w.heap.size + 1 by omega)) (show _ ≤ w.heap.size + 1 by omega)) (show _ ≤ w.heap.size + 1 by omega))
  clear bxi
  clear bxr
  clear bxf
  clear bxs
  clear bxp
  have bxi := nbi
  clear nbi
  have bxr := nbr
  clear nbr
  have bxf := nbf
  clear nbf
  have bxs := nbs
  clear nbs
  have bxp := nbp
  clear nbp
  have szw7 : w7.heap.size = wq.heap.size := by rw [hw]; simp
  replace za2 := (za2.ext (by with_reducible repeat' first | exact Ext.refl _ | assumption | apply Ext.alloc_r | apply Ext.drew_r | apply Ext.drewN_r | refine Ext.trans ?_ ‹Ext _ _›)).kept kw7
  replace zb2 := (zb2.ext (by with_reducible repeat' first | exact Ext.refl _ | assumption | apply Ext.alloc_r | apply Ext.drew_r | apply Ext.drewN_r | refine Ext.trans ?_ ‹Ext _ _›)).kept kw7
  clear hw kw7
  have HU := Lib.hid za2
  have HV := Lib.hid zb2
  clear za2 zb2
  have kr_0 := bxr.c 0 (.bool sza) rfl
  have kr_1 := bxr.c 1 (.slice Aza Lza cza) rfl
  have kr_2 := bxr.c 2 (.slice Bza Mza dza) rfl
  have kr_3 := bxr.c 3 (.bool szb) rfl
  have kr_4 := bxr.c 4 (.slice Azb Lzb czb) rfl
  have kr_5 := bxr.c 5 (.slice Bzb Mzb dzb) rfl
  refine bodyPost_ret (v := .tuple #[Value.agg #[Value.bool sza, Value.slice Aza Lza cza, Value.slice Bza Mza dza, Value.bool szb, Value.slice Azb Lzb czb, Value.slice Bzb Mzb dzb], .int .i64 0]) (by simp [results, Tryz.results43, go_sem, kr_0, kr_1, kr_2, kr_3, kr_4, kr_5]) rfl ?_
  exact ⟨_, _, _, _, _, _, _, _, _, _, _, _, _, _, rfl, by rw [HP.out]; exact HU.out, HV.out, x7⟩
set_option maxHeartbeats 4000000 in
set_option maxRecDepth 100000 in
theorem ipow_lt {w : World} {N k : Nat} {s1 s2 : Bool} {A1 B1 A2 B2 : Option Addr} {c1 d1 L1 M1 c2 d2 L2 M2 : Nat} {q1 q2 : Rat} (h1 : RV w s1 A1 c1 L1 B1 d1 M1 N q1) (h2 : RV w s2 A2 c2 L2 B2 d2 M2 N q2) (hN : N * k ≤ 40) (hN1 : N ≤ 40) (hk : k ≤ 40) (hk0 : 0 < k) (hk2 : k % 2 = 0) (hs : q1 * q2 < 0) :
    Calls Tryz.prog 43 #[Value.agg #[Value.bool s1, Value.slice A1 L1 c1, Value.slice B1 M1 d1, Value.bool s2, Value.slice A2 L2 c2, Value.slice B2 M2 d2], .int .i64 k] w (RetIE w 41 (plo q1 q2 k) (phi q1 q2 k)) := by
  have HP : Hid (plo q1 q2 k = 0) := by show _ = _; unfold plo; rw [if_pos ⟨hk0, hk2, hs⟩]
  have hd1 : decide ((k : Int) > 0) = true := decide_eq_true (by omega)
  have hd2 : decide (0 < k) = true := decide_eq_true (by omega)
  have hm : (k : Int).tmod 2 = 0 := by rw [Int.tmod_eq_emod_of_nonneg (by omega)]; omega
  have hm2 : ((k : Int).tmod 2 == 0) = true := by rw [hm]; rfl
  have HM := Lib.hid hm2
  clear hk0 hk2 hm hm2
  obtain ⟨z1, hz1⟩ : ∃ z : Int, z = q1.num.sign := ⟨_, rfl⟩
  obtain ⟨z2, hz2⟩ : ∃ z : Int, z = q2.num.sign := ⟨_, rfl⟩
  have hb1 := sign_bd q1.num
  have hb2 := sign_bd q2.num
  have hsg := sgn_mul_lt q1 q2
  rw [← hz1] at hb1 hsg
  rw [← hz2] at hb2 hsg
  have HZ := Lib.hid (And.intro hz1.symm hz2.symm)
  have hzz : -1 ≤ z1 * z2 ∧ z1 * z2 ≤ 1 := sgn_bd2 hb1 hb2
  obtain ⟨PP, hPP⟩ : ∃ P : Int, P = z1 * z2 := ⟨_, rfl⟩
  have hw1 : IntKind.i64.wrap (z1 * z2) = PP := by rw [hPP]; exact IntWalk.i64_in _ (by omega)
  have hw2 : PP < 0 := by rw [hPP]; exact hsg.2 hs
  have hw3 : decide (PP < 0) = true := decide_eq_true hw2
  clear hz1 hz2 hb1 hb2 hsg hzz hPP hs
  go_enter Tryz.func43, Tryz.ntmps43
  go_wp2_with fail
  obtain ⟨w0, hw0⟩ : ∃ z : World, z = ((w.alloc (.cells #[.bool s1, .slice A1 L1 c1, .slice B1 M1 d1, .bool s2, .slice A2 L2 c2, .slice B2 M2 d2] 29)).alloc (.cells #[.bool false, .slice none 0 0, .slice none 0 0, .bool false, .slice none 0 0, .slice none 0 0] 29)) := ⟨_, rfl⟩
  rw [← hw0]
  have bxi : BK w0 (w.heap.size) 29 #[.bool s1, .slice A1 L1 c1, .slice B1 M1 d1, .bool s2, .slice A2 L2 c2, .slice B2 M2 d2] := by rw [hw0]; have h5 := (BK.ext (BK.new w #[.bool s1, .slice A1 L1 c1, .slice B1 M1 d1, .bool s2, .slice A2 L2 c2, .slice B2 M2 d2] 29) (Ext.alloc _ (.cells #[.bool false, .slice none 0 0, .slice none 0 0, .bool false, .slice none 0 0, .slice none 0 0] 29))); simpa only [World.size_alloc] using h5
  have bxr : BK w0 (w.heap.size + 1) 29 #[.bool false, .slice none 0 0, .slice none 0 0, .bool false, .slice none 0 0, .slice none 0 0] := by rw [hw0]; have h5 := (BK.new (w.alloc (.cells #[.bool s1, .slice A1 L1 c1, .slice B1 M1 d1, .bool s2, .slice A2 L2 c2, .slice B2 M2 d2] 29)) #[.bool false, .slice none 0 0, .slice none 0 0, .bool false, .slice none 0 0, .slice none 0 0] 29); simpa only [World.size_alloc] using h5
  have hszw0 : w0.heap.size = w.heap.size + 1 + 1 := by rw [hw0]; simp only [World.size_alloc]
  have xw0 : Ext w w0 := by rw [hw0]; exact ((Ext.alloc _ _).trans (Ext.alloc _ _))
  clear hw0
  refine (rpow_r (h1.ext (by with_reducible repeat' first | exact Ext.refl _ | assumption | apply Ext.alloc_r | apply Ext.drew_r | apply Ext.drewN_r | refine Ext.trans ?_ ‹Ext _ _›)) hN hN1 hk).mono ?_
  rintro e w1 ⟨su, Au, cu, Lu, Bu, du, Mu, rfl, u, x1⟩
  have szw1 : w0.heap.size ≤ w1.heap.size := x1.size
  replace bxi := bxi.ext x1
  replace bxr := bxr.ext x1
  have HU := Lib.hid u.rv
  clear u
  have ki_0 := bxi.c 0 (.bool s1) rfl
  have ki_1 := bxi.c 1 (.slice A1 L1 c1) rfl
  have ki_2 := bxi.c 2 (.slice B1 M1 d1) rfl
  have ki_3 := bxi.c 3 (.bool s2) rfl
  have ki_4 := bxi.c 4 (.slice A2 L2 c2) rfl
  have ki_5 := bxi.c 5 (.slice B2 M2 d2) rfl
  have kr_0 := bxr.c 0 (.bool false) rfl
  have kr_1 := bxr.c 1 (.slice none 0 0) rfl
  have kr_2 := bxr.c 2 (.slice none 0 0) rfl
  have kr_3 := bxr.c 3 (.bool false) rfl
  have kr_4 := bxr.c 4 (.slice none 0 0) rfl
  have kr_5 := bxr.c 5 (.slice none 0 0) rfl
  have t1i_0 := fun (o0 : Obj) => ((Ext.alloc w1 o0).cell (bxi.c 0 (.bool s1) rfl))
  have t1i_1 := fun (o0 : Obj) => ((Ext.alloc w1 o0).cell (bxi.c 1 (.slice A1 L1 c1) rfl))
  have t1i_2 := fun (o0 : Obj) => ((Ext.alloc w1 o0).cell (bxi.c 2 (.slice B1 M1 d1) rfl))
  have t1i_3 := fun (o0 : Obj) => ((Ext.alloc w1 o0).cell (bxi.c 3 (.bool s2) rfl))
  have t1i_4 := fun (o0 : Obj) => ((Ext.alloc w1 o0).cell (bxi.c 4 (.slice A2 L2 c2) rfl))
  have t1i_5 := fun (o0 : Obj) => ((Ext.alloc w1 o0).cell (bxi.c 5 (.slice B2 M2 d2) rfl))
  have t1r_0 := fun (o0 : Obj) => ((Ext.alloc w1 o0).cell (bxr.c 0 (.bool false) rfl))
  have t1r_1 := fun (o0 : Obj) => ((Ext.alloc w1 o0).cell (bxr.c 1 (.slice none 0 0) rfl))
  have t1r_2 := fun (o0 : Obj) => ((Ext.alloc w1 o0).cell (bxr.c 2 (.slice none 0 0) rfl))
  have t1r_3 := fun (o0 : Obj) => ((Ext.alloc w1 o0).cell (bxr.c 3 (.bool false) rfl))
  have t1r_4 := fun (o0 : Obj) => ((Ext.alloc w1 o0).cell (bxr.c 4 (.slice none 0 0) rfl))
  have t1r_5 := fun (o0 : Obj) => ((Ext.alloc w1 o0).cell (bxr.c 5 (.slice none 0 0) rfl))
  go_wp2_with fail
  clear ki_0 ki_1 ki_2 ki_3 ki_4 ki_5 kr_0 kr_1 kr_2 kr_3 kr_4 kr_5 t1i_0 t1i_1 t1i_2 t1i_3 t1i_4 t1i_5 t1r_0 t1r_1 t1r_2 t1r_3 t1r_4 t1r_5
  obtain ⟨w2, hw⟩ : ∃ z : World, z = (w1.alloc (.cells #[.bool su, .slice Au Lu cu, .slice Bu Mu du] 27)) := ⟨_, rfl⟩
  rw [← hw]
  have x2 : Ext w1 w2 := by rw [hw]; exact (Ext.alloc _ _)
  replace bxi := bxi.ext x2
  replace bxr := bxr.ext x2
  have bxf : BK w2 (w1.heap.size) 27 #[.bool su, .slice Au Lu cu, .slice Bu Mu du] := by rw [hw]; have h5 := (BK.new w1 #[.bool su, .slice Au Lu cu, .slice Bu Mu du] 27); simpa only [World.size_alloc] using h5
  have szw2 : w2.heap.size = w1.heap.size + 1 := by rw [hw]; simp only [World.size_alloc]
  clear hw
  refine (rpow_r (h2.ext (by with_reducible repeat' first | exact Ext.refl _ | assumption | apply Ext.alloc_r | apply Ext.drew_r | apply Ext.drewN_r | refine Ext.trans ?_ ‹Ext _ _›)) hN hN1 hk).mono ?_
  rintro e w3 ⟨sv, Av, cv, Lv, Bv, dv, Mv, rfl, v, x3⟩
  have szw3 : w2.heap.size ≤ w3.heap.size := x3.size
  replace bxi := bxi.ext x3
  replace bxr := bxr.ext x3
  replace bxf := bxf.ext x3
  have HV := Lib.hid v.rv
  clear v
  have ki_0 := bxi.c 0 (.bool s1) rfl
  have ki_1 := bxi.c 1 (.slice A1 L1 c1) rfl
  have ki_2 := bxi.c 2 (.slice B1 M1 d1) rfl
  have ki_3 := bxi.c 3 (.bool s2) rfl
  have ki_4 := bxi.c 4 (.slice A2 L2 c2) rfl
  have ki_5 := bxi.c 5 (.slice B2 M2 d2) rfl
  have kr_0 := bxr.c 0 (.bool false) rfl
  have kr_1 := bxr.c 1 (.slice none 0 0) rfl
  have kr_2 := bxr.c 2 (.slice none 0 0) rfl
  have kr_3 := bxr.c 3 (.bool false) rfl
  have kr_4 := bxr.c 4 (.slice none 0 0) rfl
  have kr_5 := bxr.c 5 (.slice none 0 0) rfl
  have kf_0 := bxf.c 0 (.bool su) rfl
  have kf_1 := bxf.c 1 (.slice Au Lu cu) rfl
  have kf_2 := bxf.c 2 (.slice Bu Mu du) rfl
  have t1i_0 := fun (o0 : Obj) => ((Ext.alloc w3 o0).cell (bxi.c 0 (.bool s1) rfl))
  have t1i_1 := fun (o0 : Obj) => ((Ext.alloc w3 o0).cell (bxi.c 1 (.slice A1 L1 c1) rfl))
  have t1i_2 := fun (o0 : Obj) => ((Ext.alloc w3 o0).cell (bxi.c 2 (.slice B1 M1 d1) rfl))
  have t1i_3 := fun (o0 : Obj) => ((Ext.alloc w3 o0).cell (bxi.c 3 (.bool s2) rfl))
  have t1i_4 := fun (o0 : Obj) => ((Ext.alloc w3 o0).cell (bxi.c 4 (.slice A2 L2 c2) rfl))
  have t1i_5 := fun (o0 : Obj) => ((Ext.alloc w3 o0).cell (bxi.c 5 (.slice B2 M2 d2) rfl))
  have t1r_0 := fun (o0 : Obj) => ((Ext.alloc w3 o0).cell (bxr.c 0 (.bool false) rfl))
  have t1r_1 := fun (o0 : Obj) => ((Ext.alloc w3 o0).cell (bxr.c 1 (.slice none 0 0) rfl))
  have t1r_2 := fun (o0 : Obj) => ((Ext.alloc w3 o0).cell (bxr.c 2 (.slice none 0 0) rfl))
  have t1r_3 := fun (o0 : Obj) => ((Ext.alloc w3 o0).cell (bxr.c 3 (.bool false) rfl))
  have t1r_4 := fun (o0 : Obj) => ((Ext.alloc w3 o0).cell (bxr.c 4 (.slice none 0 0) rfl))
  have t1r_5 := fun (o0 : Obj) => ((Ext.alloc w3 o0).cell (bxr.c 5 (.slice none 0 0) rfl))
  have t1f_0 := fun (o0 : Obj) => ((Ext.alloc w3 o0).cell (bxf.c 0 (.bool su) rfl))
  have t1f_1 := fun (o0 : Obj) => ((Ext.alloc w3 o0).cell (bxf.c 1 (.slice Au Lu cu) rfl))
  have t1f_2 := fun (o0 : Obj) => ((Ext.alloc w3 o0).cell (bxf.c 2 (.slice Bu Mu du) rfl))
  go_wp2_with fail
  clear ki_0 ki_1 ki_2 ki_3 ki_4 ki_5 kr_0 kr_1 kr_2 kr_3 kr_4 kr_5 kf_0 kf_1 kf_2 t1i_0 t1i_1 t1i_2 t1i_3 t1i_4 t1i_5 t1r_0 t1r_1 t1r_2 t1r_3 t1r_4 t1r_5 t1f_0 t1f_1 t1f_2
  obtain ⟨w4, hw⟩ : ∃ z : World, z = (w3.alloc (.cells #[.bool sv, .slice Av Lv cv, .slice Bv Mv dv] 27)) := ⟨_, rfl⟩
  rw [← hw]
  have x4 : Ext w3 w4 := by rw [hw]; exact (Ext.alloc _ _)
  replace bxi := bxi.ext x4
  replace bxr := bxr.ext x4
  replace bxf := bxf.ext x4
  have bxs : BK w4 (w3.heap.size) 27 #[.bool sv, .slice Av Lv cv, .slice Bv Mv dv] := by rw [hw]; have h5 := (BK.new w3 #[.bool sv, .slice Av Lv cv, .slice Bv Mv dv] 27); simpa only [World.size_alloc] using h5
  have szw4 : w4.heap.size = w3.heap.size + 1 := by rw [hw]; simp only [World.size_alloc]
  clear hw
  refine (inormal_r (HU.out.ext (by with_reducible repeat' first | exact Ext.refl _ | assumption | apply Ext.alloc_r | apply Ext.drew_r | apply Ext.drewN_r | refine Ext.trans ?_ ‹Ext _ _›)) (HV.out.ext (by with_reducible repeat' first | exact Ext.refl _ | assumption | apply Ext.alloc_r | apply Ext.drew_r | apply Ext.drewN_r | refine Ext.trans ?_ ‹Ext _ _›)) (by omega)).mono ?_
  rintro e w5 ⟨sza, Aza, cza, Lza, Bza, dza, Mza, szb, Azb, czb, Lzb, Bzb, dzb, Mzb, rfl, za, zb, x5⟩
  have szw5 : w4.heap.size ≤ w5.heap.size := x5.size
  replace bxi := bxi.ext x5
  replace bxr := bxr.ext x5
  replace bxf := bxf.ext x5
  replace bxs := bxs.ext x5
  have HZZ := Lib.hid (And.intro (za.mono (show w.heap.size ≤ _ by omega)) (zb.mono (show w.heap.size ≤ _ by omega)))
  clear za zb HU HV
  have ki_0 := bxi.c 0 (.bool s1) rfl
  have ki_1 := bxi.c 1 (.slice A1 L1 c1) rfl
  have ki_2 := bxi.c 2 (.slice B1 M1 d1) rfl
  have ki_3 := bxi.c 3 (.bool s2) rfl
  have ki_4 := bxi.c 4 (.slice A2 L2 c2) rfl
  have ki_5 := bxi.c 5 (.slice B2 M2 d2) rfl
  have kr_0 := bxr.c 0 (.bool false) rfl
  have kr_1 := bxr.c 1 (.slice none 0 0) rfl
  have kr_2 := bxr.c 2 (.slice none 0 0) rfl
  have kr_3 := bxr.c 3 (.bool false) rfl
  have kr_4 := bxr.c 4 (.slice none 0 0) rfl
  have kr_5 := bxr.c 5 (.slice none 0 0) rfl
  have kf_0 := bxf.c 0 (.bool su) rfl
  have kf_1 := bxf.c 1 (.slice Au Lu cu) rfl
  have kf_2 := bxf.c 2 (.slice Bu Mu du) rfl
  have ks_0 := bxs.c 0 (.bool sv) rfl
  have ks_1 := bxs.c 1 (.slice Av Lv cv) rfl
  have ks_2 := bxs.c 2 (.slice Bv Mv dv) rfl
  have t1i_0 := fun (o0 : Obj) => ((Ext.alloc w5 o0).cell (bxi.c 0 (.bool s1) rfl))
  have t1i_1 := fun (o0 : Obj) => ((Ext.alloc w5 o0).cell (bxi.c 1 (.slice A1 L1 c1) rfl))
  have t1i_2 := fun (o0 : Obj) => ((Ext.alloc w5 o0).cell (bxi.c 2 (.slice B1 M1 d1) rfl))
  have t1i_3 := fun (o0 : Obj) => ((Ext.alloc w5 o0).cell (bxi.c 3 (.bool s2) rfl))
  have t1i_4 := fun (o0 : Obj) => ((Ext.alloc w5 o0).cell (bxi.c 4 (.slice A2 L2 c2) rfl))
  have t1i_5 := fun (o0 : Obj) => ((Ext.alloc w5 o0).cell (bxi.c 5 (.slice B2 M2 d2) rfl))
  have t1r_0 := fun (o0 : Obj) => ((Ext.alloc w5 o0).cell (bxr.c 0 (.bool false) rfl))
  have t1r_1 := fun (o0 : Obj) => ((Ext.alloc w5 o0).cell (bxr.c 1 (.slice none 0 0) rfl))
  have t1r_2 := fun (o0 : Obj) => ((Ext.alloc w5 o0).cell (bxr.c 2 (.slice none 0 0) rfl))
  have t1r_3 := fun (o0 : Obj) => ((Ext.alloc w5 o0).cell (bxr.c 3 (.bool false) rfl))
  have t1r_4 := fun (o0 : Obj) => ((Ext.alloc w5 o0).cell (bxr.c 4 (.slice none 0 0) rfl))
  have t1r_5 := fun (o0 : Obj) => ((Ext.alloc w5 o0).cell (bxr.c 5 (.slice none 0 0) rfl))
  have t1f_0 := fun (o0 : Obj) => ((Ext.alloc w5 o0).cell (bxf.c 0 (.bool su) rfl))
  have t1f_1 := fun (o0 : Obj) => ((Ext.alloc w5 o0).cell (bxf.c 1 (.slice Au Lu cu) rfl))
  have t1f_2 := fun (o0 : Obj) => ((Ext.alloc w5 o0).cell (bxf.c 2 (.slice Bu Mu du) rfl))
  have t1s_0 := fun (o0 : Obj) => ((Ext.alloc w5 o0).cell (bxs.c 0 (.bool sv) rfl))
  have t1s_1 := fun (o0 : Obj) => ((Ext.alloc w5 o0).cell (bxs.c 1 (.slice Av Lv cv) rfl))
  have t1s_2 := fun (o0 : Obj) => ((Ext.alloc w5 o0).cell (bxs.c 2 (.slice Bv Mv dv) rfl))
  go_wp2_with fail
  clear ki_0 ki_1 ki_2 ki_3 ki_4 ki_5 kr_0 kr_1 kr_2 kr_3 kr_4 kr_5 kf_0 kf_1 kf_2 ks_0 ks_1 ks_2 t1i_0 t1i_1 t1i_2 t1i_3 t1i_4 t1i_5 t1r_0 t1r_1 t1r_2 t1r_3 t1r_4 t1r_5 t1f_0 t1f_1 t1f_2 t1s_0 t1s_1 t1s_2
  obtain ⟨w6, hw⟩ : ∃ z : World, z = (w5.alloc (.cells #[.bool sza, .slice Aza Lza cza, .slice Bza Mza dza, .bool szb, .slice Azb Lzb czb, .slice Bzb Mzb dzb] 29)) := ⟨_, rfl⟩
  rw [← hw]
  have x6 : Ext w5 w6 := by rw [hw]; exact (Ext.alloc _ _)
  replace bxi := bxi.ext x6
  replace bxr := bxr.ext x6
  replace bxf := bxf.ext x6
  replace bxs := bxs.ext x6
  have bxp : BK w6 (w5.heap.size) 29 #[.bool sza, .slice Aza Lza cza, .slice Bza Mza dza, .bool szb, .slice Azb Lzb czb, .slice Bzb Mzb dzb] := by rw [hw]; have h5 := (BK.new w5 #[.bool sza, .slice Aza Lza cza, .slice Bza Mza dza, .bool szb, .slice Azb Lzb czb, .slice Bzb Mzb dzb] 29); simpa only [World.size_alloc] using h5
  have szw6 : w6.heap.size = w5.heap.size + 1 := by rw [hw]; simp only [World.size_alloc]
  clear hw
  have hm2 := HM.out
  have ki_0 := bxi.c 0 (.bool s1) rfl
  have ki_1 := bxi.c 1 (.slice A1 L1 c1) rfl
  have ki_2 := bxi.c 2 (.slice B1 M1 d1) rfl
  have ki_3 := bxi.c 3 (.bool s2) rfl
  have ki_4 := bxi.c 4 (.slice A2 L2 c2) rfl
  have ki_5 := bxi.c 5 (.slice B2 M2 d2) rfl
  have kr_0 := bxr.c 0 (.bool false) rfl
  have kr_1 := bxr.c 1 (.slice none 0 0) rfl
  have kr_2 := bxr.c 2 (.slice none 0 0) rfl
  have kr_3 := bxr.c 3 (.bool false) rfl
  have kr_4 := bxr.c 4 (.slice none 0 0) rfl
  have kr_5 := bxr.c 5 (.slice none 0 0) rfl
  have kf_0 := bxf.c 0 (.bool su) rfl
  have kf_1 := bxf.c 1 (.slice Au Lu cu) rfl
  have kf_2 := bxf.c 2 (.slice Bu Mu du) rfl
  have ks_0 := bxs.c 0 (.bool sv) rfl
  have ks_1 := bxs.c 1 (.slice Av Lv cv) rfl
  have ks_2 := bxs.c 2 (.slice Bv Mv dv) rfl
  have kp_0 := bxp.c 0 (.bool sza) rfl
  have kp_1 := bxp.c 1 (.slice Aza Lza cza) rfl
  have kp_2 := bxp.c 2 (.slice Bza Mza dza) rfl
  have kp_3 := bxp.c 3 (.bool szb) rfl
  have kp_4 := bxp.c 4 (.slice Azb Lzb czb) rfl
  have kp_5 := bxp.c 5 (.slice Bzb Mzb dzb) rfl
  go_wp2_with fail
  have HK : Hid (∀ w', Ext w6 w' → (w'.cell? ⟨w.heap.size, 0, none⟩ = some (.bool s1) ∧ w'.cell? ⟨w.heap.size, 1, none⟩ = some (.slice A1 L1 c1) ∧ w'.cell? ⟨w.heap.size, 2, none⟩ = some (.slice B1 M1 d1) ∧ w'.cell? ⟨w.heap.size, 3, none⟩ = some (.bool s2) ∧ w'.cell? ⟨w.heap.size, 4, none⟩ = some (.slice A2 L2 c2) ∧ w'.cell? ⟨w.heap.size, 5, none⟩ = some (.slice B2 M2 d2))) := fun w' hk => ⟨hk.cell ki_0, hk.cell ki_1, hk.cell ki_2, hk.cell ki_3, hk.cell ki_4, hk.cell ki_5⟩
  go_region_held3 (fun w' => w'.cell? ⟨w.heap.size, 0, none⟩ = some (.bool s1) ∧ w'.cell? ⟨w.heap.size, 1, none⟩ = some (.slice A1 L1 c1) ∧ w'.cell? ⟨w.heap.size, 2, none⟩ = some (.slice B1 M1 d1) ∧ w'.cell? ⟨w.heap.size, 3, none⟩ = some (.bool s2) ∧ w'.cell? ⟨w.heap.size, 4, none⟩ = some (.slice A2 L2 c2) ∧ w'.cell? ⟨w.heap.size, 5, none⟩ = some (.slice B2 M2 d2))
    ((with_reducible refine HK.out _ ?_; (with_reducible repeat' first | exact Ext.refl _ | assumption | apply Ext.alloc_r | apply Ext.drew_r | apply Ext.drewN_r | refine Ext.trans ?_ ‹Ext _ _›)))
    (first
      | (go_at_call_of 48 (#[Value.agg #[Value.bool s2, Value.slice A2 L2 c2, Value.slice B2 M2 d2]]); refine (rsign_k (h2.ext (by with_reducible repeat' first | exact Ext.refl _ | assumption | apply Ext.alloc_r | apply Ext.drew_r | apply Ext.drewN_r | refine Ext.trans ?_ ‹Ext _ _›)) HZ.out.2).mono ?_; rintro e w8 ⟨rfl, x8⟩)
      | (go_at_call_of 48 (#[Value.agg #[Value.bool s1, Value.slice A1 L1 c1, Value.slice B1 M1 d1]]); refine (rsign_k (h1.ext (by with_reducible repeat' first | exact Ext.refl _ | assumption | apply Ext.alloc_r | apply Ext.drew_r | apply Ext.drewN_r | refine Ext.trans ?_ ‹Ext _ _›)) HZ.out.1).mono ?_; rintro e w7 ⟨rfl, x7⟩))
  clear ki_0 ki_1 ki_2 ki_3 ki_4 ki_5 kr_0 kr_1 kr_2 kr_3 kr_4 kr_5 kf_0 kf_1 kf_2 ks_0 ks_1 ks_2 kp_0 kp_1 kp_2 kp_3 kp_4 kp_5
  clear HK
  have szw7 : w6.heap.size ≤ w7.heap.size := (show Ext w6 w7 from (by with_reducible repeat' first | exact Ext.refl _ | assumption | apply Ext.alloc_r | apply Ext.drew_r | apply Ext.drewN_r | refine Ext.trans ?_ ‹Ext _ _›)).size
  have xhw8 : Ext w6 w8 := (by with_reducible repeat' first | exact Ext.refl _ | assumption | apply Ext.alloc_r | apply Ext.drew_r | apply Ext.drewN_r | refine Ext.trans ?_ ‹Ext _ _›)
  have szw8 : w6.heap.size ≤ w8.heap.size := xhw8.size
  replace bxi := bxi.ext xhw8
  replace bxr := bxr.ext xhw8
  replace bxf := bxf.ext xhw8
  replace bxs := bxs.ext xhw8
  replace bxp := bxp.ext xhw8
  clear hm2
  have ki_0 := bxi.c 0 (.bool s1) rfl
  have ki_1 := bxi.c 1 (.slice A1 L1 c1) rfl
  have ki_2 := bxi.c 2 (.slice B1 M1 d1) rfl
  have ki_3 := bxi.c 3 (.bool s2) rfl
  have ki_4 := bxi.c 4 (.slice A2 L2 c2) rfl
  have ki_5 := bxi.c 5 (.slice B2 M2 d2) rfl
  have kr_0 := bxr.c 0 (.bool false) rfl
  have kr_1 := bxr.c 1 (.slice none 0 0) rfl
  have kr_2 := bxr.c 2 (.slice none 0 0) rfl
  have kr_3 := bxr.c 3 (.bool false) rfl
  have kr_4 := bxr.c 4 (.slice none 0 0) rfl
  have kr_5 := bxr.c 5 (.slice none 0 0) rfl
  have kf_0 := bxf.c 0 (.bool su) rfl
  have kf_1 := bxf.c 1 (.slice Au Lu cu) rfl
  have kf_2 := bxf.c 2 (.slice Bu Mu du) rfl
  have ks_0 := bxs.c 0 (.bool sv) rfl
  have ks_1 := bxs.c 1 (.slice Av Lv cv) rfl
  have ks_2 := bxs.c 2 (.slice Bv Mv dv) rfl
  have kp_0 := bxp.c 0 (.bool sza) rfl
  have kp_1 := bxp.c 1 (.slice Aza Lza cza) rfl
  have kp_2 := bxp.c 2 (.slice Bza Mza dza) rfl
  have kp_3 := bxp.c 3 (.bool szb) rfl
  have kp_4 := bxp.c 4 (.slice Azb Lzb czb) rfl
  have kp_5 := bxp.c 5 (.slice Bzb Mzb dzb) rfl
  go_wp2_with fail
  clear ki_0 ki_1 ki_2 ki_3 ki_4 ki_5 kr_0 kr_1 kr_2 kr_3 kr_4 kr_5 kf_0 kf_1 kf_2 ks_0 ks_1 ks_2 kp_0 kp_1 kp_2 kp_3 kp_4 kp_5
  refine (rof_r (n := 0) (by omega)).mono ?_
  rintro e w9 ⟨sy, Ay, cy, Ly, By, dy, My, rfl, y, x9⟩
  have szw9 : w8.heap.size ≤ w9.heap.size := x9.size
  replace bxi := bxi.ext x9
  replace bxr := bxr.ext x9
  replace bxf := bxf.ext x9
  replace bxs := bxs.ext x9
  replace bxp := bxp.ext x9
  have HY := Lib.hid ((y.mono (show w.heap.size ≤ _ by omega)).wide (N' := 41) (by omega))
  clear y
  have ki_0 := bxi.c 0 (.bool s1) rfl
  have ki_1 := bxi.c 1 (.slice A1 L1 c1) rfl
  have ki_2 := bxi.c 2 (.slice B1 M1 d1) rfl
  have ki_3 := bxi.c 3 (.bool s2) rfl
  have ki_4 := bxi.c 4 (.slice A2 L2 c2) rfl
  have ki_5 := bxi.c 5 (.slice B2 M2 d2) rfl
  have kr_0 := bxr.c 0 (.bool false) rfl
  have fr_0 := bxr.f 0
  have kr_1 := bxr.c 1 (.slice none 0 0) rfl
  have fr_1 := bxr.f 1
  have kr_2 := bxr.c 2 (.slice none 0 0) rfl
  have fr_2 := bxr.f 2
  have kr_3 := bxr.c 3 (.bool false) rfl
  have fr_3 := bxr.f 3
  have kr_4 := bxr.c 4 (.slice none 0 0) rfl
  have fr_4 := bxr.f 4
  have kr_5 := bxr.c 5 (.slice none 0 0) rfl
  have fr_5 := bxr.f 5
  have kf_0 := bxf.c 0 (.bool su) rfl
  have kf_1 := bxf.c 1 (.slice Au Lu cu) rfl
  have kf_2 := bxf.c 2 (.slice Bu Mu du) rfl
  have ks_0 := bxs.c 0 (.bool sv) rfl
  have ks_1 := bxs.c 1 (.slice Av Lv cv) rfl
  have ks_2 := bxs.c 2 (.slice Bv Mv dv) rfl
  have kp_0 := bxp.c 0 (.bool sza) rfl
  have fp_0 := bxp.f 0
  have kp_1 := bxp.c 1 (.slice Aza Lza cza) rfl
  have fp_1 := bxp.f 1
  have kp_2 := bxp.c 2 (.slice Bza Mza dza) rfl
  have fp_2 := bxp.f 2
  have kp_3 := bxp.c 3 (.bool szb) rfl
  have fp_3 := bxp.f 3
  have kp_4 := bxp.c 4 (.slice Azb Lzb czb) rfl
  have fp_4 := bxp.f 4
  have kp_5 := bxp.c 5 (.slice Bzb Mzb dzb) rfl
  have fp_5 := bxp.f 5
  go_wp2_with fail
  clear ki_0 ki_1 ki_2 ki_3 ki_4 ki_5 kr_0 fr_0 kr_1 fr_1 kr_2 fr_2 kr_3 fr_3 kr_4 fr_4 kr_5 fr_5 kf_0 kf_1 kf_2 ks_0 ks_1 ks_2 kp_0 fp_0 kp_1 fp_1 kp_2 fp_2 kp_3 fp_3 kp_4 fp_4 kp_5 fp_5
  have y2 := HY.out
  have zb2 := HZZ.out.2.ext (show Ext _ w9 from (by with_reducible repeat' first | exact Ext.refl _ | assumption | apply Ext.alloc_r | apply Ext.drew_r | apply Ext.drewN_r | refine Ext.trans ?_ ‹Ext _ _›))
  clear HY HZZ
  obtain ⟨w10, hw⟩ : ∃ z : World, z = (((((((((w9.setCell ⟨w5.heap.size, 0, none⟩ (.bool sy)).setCell ⟨w5.heap.size, 1, none⟩ (.slice Ay Ly cy)).setCell ⟨w5.heap.size, 2, none⟩ (.slice By My dy)).setCell ⟨w.heap.size + 1, 0, none⟩ (.bool sy)).setCell ⟨w.heap.size + 1, 1, none⟩ (.slice Ay Ly cy)).setCell ⟨w.heap.size + 1, 2, none⟩ (.slice By My dy)).setCell ⟨w.heap.size + 1, 3, none⟩ (.bool szb)).setCell ⟨w.heap.size + 1, 4, none⟩ (.slice Azb Lzb czb)).setCell ⟨w.heap.size + 1, 5, none⟩ (.slice Bzb Mzb dzb)) := ⟨_, rfl⟩
  rw [← hw]
  have kw10 : Kept w9 w10 := by rw [hw]; exact (Kept.set_ (Kept.set_ (Kept.set_ (Kept.set_ (Kept.set_ (Kept.set_ (Kept.set_ (Kept.set_ (Kept.set_ (Kept.refl _) bxp.isBox plain_iv) (IsBox.set_ bxp.isBox) plain_iv) (IsBox.set_ (IsBox.set_ bxp.isBox)) plain_iv) (IsBox.set_ (IsBox.set_ (IsBox.set_ bxr.isBox))) plain_iv) (IsBox.set_ (IsBox.set_ (IsBox.set_ (IsBox.set_ bxr.isBox)))) plain_iv) (IsBox.set_ (IsBox.set_ (IsBox.set_ (IsBox.set_ (IsBox.set_ bxr.isBox))))) plain_iv) (IsBox.set_ (IsBox.set_ (IsBox.set_ (IsBox.set_ (IsBox.set_ (IsBox.set_ bxr.isBox)))))) plain_iv) (IsBox.set_ (IsBox.set_ (IsBox.set_ (IsBox.set_ (IsBox.set_ (IsBox.set_ (IsBox.set_ bxr.isBox))))))) plain_iv) (IsBox.set_ (IsBox.set_ (IsBox.set_ (IsBox.set_ (IsBox.set_ (IsBox.set_ (IsBox.set_ (IsBox.set_ bxr.isBox)))))))) plain_iv)
  have nbi : BK w10 (w.heap.size) 29 #[.bool s1, .slice A1 L1 c1, .slice B1 M1 d1, .bool s2, .slice A2 L2 c2, .slice B2 M2 d2] := by rw [hw]; exact (BK.far (BK.far (BK.far (BK.far (BK.far (BK.far (BK.far (BK.far (BK.far bxi (show w.heap.size ≠ w5.heap.size by omega) 0 _) (show w.heap.size ≠ w5.heap.size by omega) 1 _) (show w.heap.size ≠ w5.heap.size by omega) 2 _) (show w.heap.size ≠ w.heap.size + 1 by omega) 0 _) (show w.heap.size ≠ w.heap.size + 1 by omega) 1 _) (show w.heap.size ≠ w.heap.size + 1 by omega) 2 _) (show w.heap.size ≠ w.heap.size + 1 by omega) 3 _) (show w.heap.size ≠ w.heap.size + 1 by omega) 4 _) (show w.heap.size ≠ w.heap.size + 1 by omega) 5 _)
  have nbr : BK w10 (w.heap.size + 1) 29 #[.bool sy, .slice Ay Ly cy, .slice By My dy, .bool szb, .slice Azb Lzb czb, .slice Bzb Mzb dzb] := by rw [hw]; exact (BK.set (i := 5) (u := .slice Bzb Mzb dzb) (vs' := #[.bool sy, .slice Ay Ly cy, .slice By My dy, .bool szb, .slice Azb Lzb czb, .slice Bzb Mzb dzb]) (BK.set (i := 4) (u := .slice Azb Lzb czb) (vs' := #[.bool sy, .slice Ay Ly cy, .slice By My dy, .bool szb, .slice Azb Lzb czb, .slice none 0 0]) (BK.set (i := 3) (u := .bool szb) (vs' := #[.bool sy, .slice Ay Ly cy, .slice By My dy, .bool szb, .slice none 0 0, .slice none 0 0]) (BK.set (i := 2) (u := .slice By My dy) (vs' := #[.bool sy, .slice Ay Ly cy, .slice By My dy, .bool false, .slice none 0 0, .slice none 0 0]) (BK.set (i := 1) (u := .slice Ay Ly cy) (vs' := #[.bool sy, .slice Ay Ly cy, .slice none 0 0, .bool false, .slice none 0 0, .slice none 0 0]) (BK.set (i := 0) (u := .bool sy) (vs' := #[.bool sy, .slice none 0 0, .slice none 0 0, .bool false, .slice none 0 0, .slice none 0 0]) (BK.far (BK.far (BK.far bxr (show w.heap.size + 1 ≠ w5.heap.size by omega) 0 _) (show w.heap.size + 1 ≠ w5.heap.size by omega) 1 _) (show w.heap.size + 1 ≠ w5.heap.size by omega) 2 _) rfl) rfl) rfl) rfl) rfl) rfl)
  have nbf : BK w10 (w1.heap.size) 27 #[.bool su, .slice Au Lu cu, .slice Bu Mu du] := by rw [hw]; exact (BK.far (BK.far (BK.far (BK.far (BK.far (BK.far (BK.far (BK.far (BK.far bxf (show w1.heap.size ≠ w5.heap.size by omega) 0 _) (show w1.heap.size ≠ w5.heap.size by omega) 1 _) (show w1.heap.size ≠ w5.heap.size by omega) 2 _) (show w1.heap.size ≠ w.heap.size + 1 by omega) 0 _) (show w1.heap.size ≠ w.heap.size + 1 by omega) 1 _) (show w1.heap.size ≠ w.heap.size + 1 by omega) 2 _) (show w1.heap.size ≠ w.heap.size + 1 by omega) 3 _) (show w1.heap.size ≠ w.heap.size + 1 by omega) 4 _) (show w1.heap.size ≠ w.heap.size + 1 by omega) 5 _)
  have nbs : BK w10 (w3.heap.size) 27 #[.bool sv, .slice Av Lv cv, .slice Bv Mv dv] := by rw [hw]; exact (BK.far (BK.far (BK.far (BK.far (BK.far (BK.far (BK.far (BK.far (BK.far bxs (show w3.heap.size ≠ w5.heap.size by omega) 0 _) (show w3.heap.size ≠ w5.heap.size by omega) 1 _) (show w3.heap.size ≠ w5.heap.size by omega) 2 _) (show w3.heap.size ≠ w.heap.size + 1 by omega) 0 _) (show w3.heap.size ≠ w.heap.size + 1 by omega) 1 _) (show w3.heap.size ≠ w.heap.size + 1 by omega) 2 _) (show w3.heap.size ≠ w.heap.size + 1 by omega) 3 _) (show w3.heap.size ≠ w.heap.size + 1 by omega) 4 _) (show w3.heap.size ≠ w.heap.size + 1 by omega) 5 _)
  have nbp : BK w10 (w5.heap.size) 29 #[.bool sy, .slice Ay Ly cy, .slice By My dy, .bool szb, .slice Azb Lzb czb, .slice Bzb Mzb dzb] := by rw [hw]; exact (BK.far (BK.far (BK.far (BK.far (BK.far (BK.far (BK.set (i := 2) (u := .slice By My dy) (vs' := #[.bool sy, .slice Ay Ly cy, .slice By My dy, .bool szb, .slice Azb Lzb czb, .slice Bzb Mzb dzb]) (BK.set (i := 1) (u := .slice Ay Ly cy) (vs' := #[.bool sy, .slice Ay Ly cy, .slice Bza Mza dza, .bool szb, .slice Azb Lzb czb, .slice Bzb Mzb dzb]) (BK.set (i := 0) (u := .bool sy) (vs' := #[.bool sy, .slice Aza Lza cza, .slice Bza Mza dza, .bool szb, .slice Azb Lzb czb, .slice Bzb Mzb dzb]) bxp rfl) rfl) rfl) (show w5.heap.size ≠ w.heap.size + 1 by omega) 0 _) (show w5.heap.size ≠ w.heap.size + 1 by omega) 1 _) (show w5.heap.size ≠ w.heap.size + 1 by omega) 2 _) (show w5.heap.size ≠ w.heap.size + 1 by omega) 3 _) (show w5.heap.size ≠ w.heap.size + 1 by omega) 4 _) (show w5.heap.size ≠ w.heap.size + 1 by omega) 5 _)
  have x10 : Ext w w10 := by rw [hw]; have hxp : Ext w w9 := (by with_reducible repeat' first | exact Ext.refl _ | assumption | apply Ext.alloc_r | apply Ext.drew_r | apply Ext.drewN_r | refine Ext.trans ?_ ‹Ext _ _›); exact (Ext.set_ (Ext.set_ (Ext.set_ (Ext.set_ (Ext.set_ (Ext.set_ (Ext.set_ (Ext.set_ (Ext.set_ hxp (show _ ≤ w5.heap.size by omega)) (show _ ≤ w5.heap.size by omega)) (show _ ≤ w5.heap.size by omega)) (show _ ≤ w.heap.size + 1 by omega)) (show _ ≤ w.heap.size + 1 by omega)) (show _ ≤ w.heap.size + 1 by omega)) (show _ ≤ w.heap.size + 1 by omega)) (show _ ≤ w.heap.size + 1 by omega)) (show _ ≤ w.heap.size + 1 by omega))
  clear bxi
  clear bxr
  clear bxf
  clear bxs
  clear bxp
  have bxi := nbi
  clear nbi
  have bxr := nbr
  clear nbr
  have bxf := nbf
  clear nbf
  have bxs := nbs
  clear nbs
  have bxp := nbp
  clear nbp
  have szw10 : w10.heap.size = w9.heap.size := by rw [hw]; simp
  replace y2 := (y2.ext (by with_reducible repeat' first | exact Ext.refl _ | assumption | apply Ext.alloc_r | apply Ext.drew_r | apply Ext.drewN_r | refine Ext.trans ?_ ‹Ext _ _›)).kept kw10
  replace zb2 := (zb2.ext (by with_reducible repeat' first | exact Ext.refl _ | assumption | apply Ext.alloc_r | apply Ext.drew_r | apply Ext.drewN_r | refine Ext.trans ?_ ‹Ext _ _›)).kept kw10
  clear hw kw10
  have HU := Lib.hid y2
  have HV := Lib.hid zb2
  clear y2 zb2
  have kr_0 := bxr.c 0 (.bool sy) rfl
  have kr_1 := bxr.c 1 (.slice Ay Ly cy) rfl
  have kr_2 := bxr.c 2 (.slice By My dy) rfl
  have kr_3 := bxr.c 3 (.bool szb) rfl
  have kr_4 := bxr.c 4 (.slice Azb Lzb czb) rfl
  have kr_5 := bxr.c 5 (.slice Bzb Mzb dzb) rfl
  refine bodyPost_ret (v := .tuple #[Value.agg #[Value.bool sy, Value.slice Ay Ly cy, Value.slice By My dy, Value.bool szb, Value.slice Azb Lzb czb, Value.slice Bzb Mzb dzb], .int .i64 0]) (by simp [results, Tryz.results43, go_sem, kr_0, kr_1, kr_2, kr_3, kr_4, kr_5]) rfl ?_
  exact ⟨_, _, _, _, _, _, _, _, _, _, _, _, _, _, rfl, by rw [HP.out]; exact HU.out, HV.out, x10⟩
set_option maxHeartbeats 4000000 in
set_option maxRecDepth 100000 in
theorem ipow_ge {w : World} {N k : Nat} {s1 s2 : Bool} {A1 B1 A2 B2 : Option Addr} {c1 d1 L1 M1 c2 d2 L2 M2 : Nat} {q1 q2 : Rat} (h1 : RV w s1 A1 c1 L1 B1 d1 M1 N q1) (h2 : RV w s2 A2 c2 L2 B2 d2 M2 N q2) (hN : N * k ≤ 40) (hN1 : N ≤ 40) (hk : k ≤ 40) (hk0 : 0 < k) (hk2 : k % 2 = 0) (hs : ¬ q1 * q2 < 0) :
    Calls Tryz.prog 43 #[Value.agg #[Value.bool s1, Value.slice A1 L1 c1, Value.slice B1 M1 d1, Value.bool s2, Value.slice A2 L2 c2, Value.slice B2 M2 d2], .int .i64 k] w (RetIE w 41 (plo q1 q2 k) (phi q1 q2 k)) := by
  have HP : Hid (plo q1 q2 k = minQ (q1 ^ k) (q2 ^ k)) := by show _ = _; unfold plo; rw [if_neg (fun h => hs h.2.2)]
  have hd1 : decide ((k : Int) > 0) = true := decide_eq_true (by omega)
  have hd2 : decide (0 < k) = true := decide_eq_true (by omega)
  have hm : (k : Int).tmod 2 = 0 := by rw [Int.tmod_eq_emod_of_nonneg (by omega)]; omega
  have hm2 : ((k : Int).tmod 2 == 0) = true := by rw [hm]; rfl
  have HM := Lib.hid hm2
  clear hk0 hk2 hm hm2
  obtain ⟨z1, hz1⟩ : ∃ z : Int, z = q1.num.sign := ⟨_, rfl⟩
  obtain ⟨z2, hz2⟩ : ∃ z : Int, z = q2.num.sign := ⟨_, rfl⟩
  have hb1 := sign_bd q1.num
  have hb2 := sign_bd q2.num
  have hsg := sgn_mul_lt q1 q2
  rw [← hz1] at hb1 hsg
  rw [← hz2] at hb2 hsg
  have HZ := Lib.hid (And.intro hz1.symm hz2.symm)
  have hzz : -1 ≤ z1 * z2 ∧ z1 * z2 ≤ 1 := sgn_bd2 hb1 hb2
  obtain ⟨PP, hPP⟩ : ∃ P : Int, P = z1 * z2 := ⟨_, rfl⟩
  have hw1 : IntKind.i64.wrap (z1 * z2) = PP := by rw [hPP]; exact IntWalk.i64_in _ (by omega)
  have hw2 : ¬ PP < 0 := by rw [hPP]; exact fun h => hs (hsg.1 h)
  have hw3 : decide (PP < 0) = false := decide_eq_false hw2
  clear hz1 hz2 hb1 hb2 hsg hzz hPP hs
  go_enter Tryz.func43, Tryz.ntmps43
  go_wp2_with fail
  obtain ⟨w0, hw0⟩ : ∃ z : World, z = ((w.alloc (.cells #[.bool s1, .slice A1 L1 c1, .slice B1 M1 d1, .bool s2, .slice A2 L2 c2, .slice B2 M2 d2] 29)).alloc (.cells #[.bool false, .slice none 0 0, .slice none 0 0, .bool false, .slice none 0 0, .slice none 0 0] 29)) := ⟨_, rfl⟩
  rw [← hw0]
  have bxi : BK w0 (w.heap.size) 29 #[.bool s1, .slice A1 L1 c1, .slice B1 M1 d1, .bool s2, .slice A2 L2 c2, .slice B2 M2 d2] := by rw [hw0]; have h5 := (BK.ext (BK.new w #[.bool s1, .slice A1 L1 c1, .slice B1 M1 d1, .bool s2, .slice A2 L2 c2, .slice B2 M2 d2] 29) (Ext.alloc _ (.cells #[.bool false, .slice none 0 0, .slice none 0 0, .bool false, .slice none 0 0, .slice none 0 0] 29))); simpa only [World.size_alloc] using h5
  have bxr : BK w0 (w.heap.size + 1) 29 #[.bool false, .slice none 0 0, .slice none 0 0, .bool false, .slice none 0 0, .slice none 0 0] := by rw [hw0]; have h5 := (BK.new (w.alloc (.cells #[.bool s1, .slice A1 L1 c1, .slice B1 M1 d1, .bool s2, .slice A2 L2 c2, .slice B2 M2 d2] 29)) #[.bool false, .slice none 0 0, .slice none 0 0, .bool false, .slice none 0 0, .slice none 0 0] 29); simpa only [World.size_alloc] using h5
  have hszw0 : w0.heap.size = w.heap.size + 1 + 1 := by rw [hw0]; simp only [World.size_alloc]
  have xw0 : Ext w w0 := by rw [hw0]; exact ((Ext.alloc _ _).trans (Ext.alloc _ _))
  clear hw0
  refine (rpow_r (h1.ext (by with_reducible repeat' first | exact Ext.refl _ | assumption | apply Ext.alloc_r | apply Ext.drew_r | apply Ext.drewN_r | refine Ext.trans ?_ ‹Ext _ _›)) hN hN1 hk).mono ?_
  rintro e w1 ⟨su, Au, cu, Lu, Bu, du, Mu, rfl, u, x1⟩
  have szw1 : w0.heap.size ≤ w1.heap.size := x1.size
  replace bxi := bxi.ext x1
  replace bxr := bxr.ext x1
  have HU := Lib.hid u.rv
  clear u
  have ki_0 := bxi.c 0 (.bool s1) rfl
  have ki_1 := bxi.c 1 (.slice A1 L1 c1) rfl
  have ki_2 := bxi.c 2 (.slice B1 M1 d1) rfl
  have ki_3 := bxi.c 3 (.bool s2) rfl
  have ki_4 := bxi.c 4 (.slice A2 L2 c2) rfl
  have ki_5 := bxi.c 5 (.slice B2 M2 d2) rfl
  have kr_0 := bxr.c 0 (.bool false) rfl
  have kr_1 := bxr.c 1 (.slice none 0 0) rfl
  have kr_2 := bxr.c 2 (.slice none 0 0) rfl
  have kr_3 := bxr.c 3 (.bool false) rfl
  have kr_4 := bxr.c 4 (.slice none 0 0) rfl
  have kr_5 := bxr.c 5 (.slice none 0 0) rfl
  have t1i_0 := fun (o0 : Obj) => ((Ext.alloc w1 o0).cell (bxi.c 0 (.bool s1) rfl))
  have t1i_1 := fun (o0 : Obj) => ((Ext.alloc w1 o0).cell (bxi.c 1 (.slice A1 L1 c1) rfl))
  have t1i_2 := fun (o0 : Obj) => ((Ext.alloc w1 o0).cell (bxi.c 2 (.slice B1 M1 d1) rfl))
  have t1i_3 := fun (o0 : Obj) => ((Ext.alloc w1 o0).cell (bxi.c 3 (.bool s2) rfl))
  have t1i_4 := fun (o0 : Obj) => ((Ext.alloc w1 o0).cell (bxi.c 4 (.slice A2 L2 c2) rfl))
  have t1i_5 := fun (o0 : Obj) => ((Ext.alloc w1 o0).cell (bxi.c 5 (.slice B2 M2 d2) rfl))
  have t1r_0 := fun (o0 : Obj) => ((Ext.alloc w1 o0).cell (bxr.c 0 (.bool false) rfl))
  have t1r_1 := fun (o0 : Obj) => ((Ext.alloc w1 o0).cell (bxr.c 1 (.slice none 0 0) rfl))
  have t1r_2 := fun (o0 : Obj) => ((Ext.alloc w1 o0).cell (bxr.c 2 (.slice none 0 0) rfl))
  have t1r_3 := fun (o0 : Obj) => ((Ext.alloc w1 o0).cell (bxr.c 3 (.bool false) rfl))
  have t1r_4 := fun (o0 : Obj) => ((Ext.alloc w1 o0).cell (bxr.c 4 (.slice none 0 0) rfl))
  have t1r_5 := fun (o0 : Obj) => ((Ext.alloc w1 o0).cell (bxr.c 5 (.slice none 0 0) rfl))
  go_wp2_with fail
  clear ki_0 ki_1 ki_2 ki_3 ki_4 ki_5 kr_0 kr_1 kr_2 kr_3 kr_4 kr_5 t1i_0 t1i_1 t1i_2 t1i_3 t1i_4 t1i_5 t1r_0 t1r_1 t1r_2 t1r_3 t1r_4 t1r_5
  obtain ⟨w2, hw⟩ : ∃ z : World, z = (w1.alloc (.cells #[.bool su, .slice Au Lu cu, .slice Bu Mu du] 27)) := ⟨_, rfl⟩
  rw [← hw]
  have x2 : Ext w1 w2 := by rw [hw]; exact (Ext.alloc _ _)
  replace bxi := bxi.ext x2
  replace bxr := bxr.ext x2
  have bxf : BK w2 (w1.heap.size) 27 #[.bool su, .slice Au Lu cu, .slice Bu Mu du] := by rw [hw]; have h5 := (BK.new w1 #[.bool su, .slice Au Lu cu, .slice Bu Mu du] 27); simpa only [World.size_alloc] using h5
  have szw2 : w2.heap.size = w1.heap.size + 1 := by rw [hw]; simp only [World.size_alloc]
  clear hw
  refine (rpow_r (h2.ext (by with_reducible repeat' first | exact Ext.refl _ | assumption | apply Ext.alloc_r | apply Ext.drew_r | apply Ext.drewN_r | refine Ext.trans ?_ ‹Ext _ _›)) hN hN1 hk).mono ?_
  rintro e w3 ⟨sv, Av, cv, Lv, Bv, dv, Mv, rfl, v, x3⟩
  have szw3 : w2.heap.size ≤ w3.heap.size := x3.size
  replace bxi := bxi.ext x3
  replace bxr := bxr.ext x3
  replace bxf := bxf.ext x3
  have HV := Lib.hid v.rv
  clear v
  have ki_0 := bxi.c 0 (.bool s1) rfl
  have ki_1 := bxi.c 1 (.slice A1 L1 c1) rfl
  have ki_2 := bxi.c 2 (.slice B1 M1 d1) rfl
  have ki_3 := bxi.c 3 (.bool s2) rfl
  have ki_4 := bxi.c 4 (.slice A2 L2 c2) rfl
  have ki_5 := bxi.c 5 (.slice B2 M2 d2) rfl
  have kr_0 := bxr.c 0 (.bool false) rfl
  have kr_1 := bxr.c 1 (.slice none 0 0) rfl
  have kr_2 := bxr.c 2 (.slice none 0 0) rfl
  have kr_3 := bxr.c 3 (.bool false) rfl
  have kr_4 := bxr.c 4 (.slice none 0 0) rfl
  have kr_5 := bxr.c 5 (.slice none 0 0) rfl
  have kf_0 := bxf.c 0 (.bool su) rfl
  have kf_1 := bxf.c 1 (.slice Au Lu cu) rfl
  have kf_2 := bxf.c 2 (.slice Bu Mu du) rfl
  have t1i_0 := fun (o0 : Obj) => ((Ext.alloc w3 o0).cell (bxi.c 0 (.bool s1) rfl))
  have t1i_1 := fun (o0 : Obj) => ((Ext.alloc w3 o0).cell (bxi.c 1 (.slice A1 L1 c1) rfl))
  have t1i_2 := fun (o0 : Obj) => ((Ext.alloc w3 o0).cell (bxi.c 2 (.slice B1 M1 d1) rfl))
  have t1i_3 := fun (o0 : Obj) => ((Ext.alloc w3 o0).cell (bxi.c 3 (.bool s2) rfl))
  have t1i_4 := fun (o0 : Obj) => ((Ext.alloc w3 o0).cell (bxi.c 4 (.slice A2 L2 c2) rfl))
  have t1i_5 := fun (o0 : Obj) => ((Ext.alloc w3 o0).cell (bxi.c 5 (.slice B2 M2 d2) rfl))
  have t1r_0 := fun (o0 : Obj) => ((Ext.alloc w3 o0).cell (bxr.c 0 (.bool false) rfl))
  have t1r_1 := fun (o0 : Obj) => ((Ext.alloc w3 o0).cell (bxr.c 1 (.slice none 0 0) rfl))
  have t1r_2 := fun (o0 : Obj) => ((Ext.alloc w3 o0).cell (bxr.c 2 (.slice none 0 0) rfl))
  have t1r_3 := fun (o0 : Obj) => ((Ext.alloc w3 o0).cell (bxr.c 3 (.bool false) rfl))
  have t1r_4 := fun (o0 : Obj) => ((Ext.alloc w3 o0).cell (bxr.c 4 (.slice none 0 0) rfl))
  have t1r_5 := fun (o0 : Obj) => ((Ext.alloc w3 o0).cell (bxr.c 5 (.slice none 0 0) rfl))
  have t1f_0 := fun (o0 : Obj) => ((Ext.alloc w3 o0).cell (bxf.c 0 (.bool su) rfl))
  have t1f_1 := fun (o0 : Obj) => ((Ext.alloc w3 o0).cell (bxf.c 1 (.slice Au Lu cu) rfl))
  have t1f_2 := fun (o0 : Obj) => ((Ext.alloc w3 o0).cell (bxf.c 2 (.slice Bu Mu du) rfl))
  go_wp2_with fail
  clear ki_0 ki_1 ki_2 ki_3 ki_4 ki_5 kr_0 kr_1 kr_2 kr_3 kr_4 kr_5 kf_0 kf_1 kf_2 t1i_0 t1i_1 t1i_2 t1i_3 t1i_4 t1i_5 t1r_0 t1r_1 t1r_2 t1r_3 t1r_4 t1r_5 t1f_0 t1f_1 t1f_2
  obtain ⟨w4, hw⟩ : ∃ z : World, z = (w3.alloc (.cells #[.bool sv, .slice Av Lv cv, .slice Bv Mv dv] 27)) := ⟨_, rfl⟩
  rw [← hw]
  have x4 : Ext w3 w4 := by rw [hw]; exact (Ext.alloc _ _)
  replace bxi := bxi.ext x4
  replace bxr := bxr.ext x4
  replace bxf := bxf.ext x4
  have bxs : BK w4 (w3.heap.size) 27 #[.bool sv, .slice Av Lv cv, .slice Bv Mv dv] := by rw [hw]; have h5 := (BK.new w3 #[.bool sv, .slice Av Lv cv, .slice Bv Mv dv] 27); simpa only [World.size_alloc] using h5
  have szw4 : w4.heap.size = w3.heap.size + 1 := by rw [hw]; simp only [World.size_alloc]
  clear hw
  refine (inormal_r (HU.out.ext (by with_reducible repeat' first | exact Ext.refl _ | assumption | apply Ext.alloc_r | apply Ext.drew_r | apply Ext.drewN_r | refine Ext.trans ?_ ‹Ext _ _›)) (HV.out.ext (by with_reducible repeat' first | exact Ext.refl _ | assumption | apply Ext.alloc_r | apply Ext.drew_r | apply Ext.drewN_r | refine Ext.trans ?_ ‹Ext _ _›)) (by omega)).mono ?_
  rintro e w5 ⟨sza, Aza, cza, Lza, Bza, dza, Mza, szb, Azb, czb, Lzb, Bzb, dzb, Mzb, rfl, za, zb, x5⟩
  have szw5 : w4.heap.size ≤ w5.heap.size := x5.size
  replace bxi := bxi.ext x5
  replace bxr := bxr.ext x5
  replace bxf := bxf.ext x5
  replace bxs := bxs.ext x5
  have HZZ := Lib.hid (And.intro (za.mono (show w.heap.size ≤ _ by omega)) (zb.mono (show w.heap.size ≤ _ by omega)))
  clear za zb HU HV
  have ki_0 := bxi.c 0 (.bool s1) rfl
  have ki_1 := bxi.c 1 (.slice A1 L1 c1) rfl
  have ki_2 := bxi.c 2 (.slice B1 M1 d1) rfl
  have ki_3 := bxi.c 3 (.bool s2) rfl
  have ki_4 := bxi.c 4 (.slice A2 L2 c2) rfl
  have ki_5 := bxi.c 5 (.slice B2 M2 d2) rfl
  have kr_0 := bxr.c 0 (.bool false) rfl
  have kr_1 := bxr.c 1 (.slice none 0 0) rfl
  have kr_2 := bxr.c 2 (.slice none 0 0) rfl
  have kr_3 := bxr.c 3 (.bool false) rfl
  have kr_4 := bxr.c 4 (.slice none 0 0) rfl
  have kr_5 := bxr.c 5 (.slice none 0 0) rfl
  have kf_0 := bxf.c 0 (.bool su) rfl
  have kf_1 := bxf.c 1 (.slice Au Lu cu) rfl
  have kf_2 := bxf.c 2 (.slice Bu Mu du) rfl
  have ks_0 := bxs.c 0 (.bool sv) rfl
  have ks_1 := bxs.c 1 (.slice Av Lv cv) rfl
  have ks_2 := bxs.c 2 (.slice Bv Mv dv) rfl
  have t1i_0 := fun (o0 : Obj) => ((Ext.alloc w5 o0).cell (bxi.c 0 (.bool s1) rfl))
  have t1i_1 := fun (o0 : Obj) => ((Ext.alloc w5 o0).cell (bxi.c 1 (.slice A1 L1 c1) rfl))
  have t1i_2 := fun (o0 : Obj) => ((Ext.alloc w5 o0).cell (bxi.c 2 (.slice B1 M1 d1) rfl))
  have t1i_3 := fun (o0 : Obj) => ((Ext.alloc w5 o0).cell (bxi.c 3 (.bool s2) rfl))
  have t1i_4 := fun (o0 : Obj) => ((Ext.alloc w5 o0).cell (bxi.c 4 (.slice A2 L2 c2) rfl))
  have t1i_5 := fun (o0 : Obj) => ((Ext.alloc w5 o0).cell (bxi.c 5 (.slice B2 M2 d2) rfl))
  have t1r_0 := fun (o0 : Obj) => ((Ext.alloc w5 o0).cell (bxr.c 0 (.bool false) rfl))
  have t1r_1 := fun (o0 : Obj) => ((Ext.alloc w5 o0).cell (bxr.c 1 (.slice none 0 0) rfl))
  have t1r_2 := fun (o0 : Obj) => ((Ext.alloc w5 o0).cell (bxr.c 2 (.slice none 0 0) rfl))
  have t1r_3 := fun (o0 : Obj) => ((Ext.alloc w5 o0).cell (bxr.c 3 (.bool false) rfl))
  have t1r_4 := fun (o0 : Obj) => ((Ext.alloc w5 o0).cell (bxr.c 4 (.slice none 0 0) rfl))
  have t1r_5 := fun (o0 : Obj) => ((Ext.alloc w5 o0).cell (bxr.c 5 (.slice none 0 0) rfl))
  have t1f_0 := fun (o0 : Obj) => ((Ext.alloc w5 o0).cell (bxf.c 0 (.bool su) rfl))
  have t1f_1 := fun (o0 : Obj) => ((Ext.alloc w5 o0).cell (bxf.c 1 (.slice Au Lu cu) rfl))
  have t1f_2 := fun (o0 : Obj) => ((Ext.alloc w5 o0).cell (bxf.c 2 (.slice Bu Mu du) rfl))
  have t1s_0 := fun (o0 : Obj) => ((Ext.alloc w5 o0).cell (bxs.c 0 (.bool sv) rfl))
  have t1s_1 := fun (o0 : Obj) => ((Ext.alloc w5 o0).cell (bxs.c 1 (.slice Av Lv cv) rfl))
  have t1s_2 := fun (o0 : Obj) => ((Ext.alloc w5 o0).cell (bxs.c 2 (.slice Bv Mv dv) rfl))
  go_wp2_with fail
  clear ki_0 ki_1 ki_2 ki_3 ki_4 ki_5 kr_0 kr_1 kr_2 kr_3 kr_4 kr_5 kf_0 kf_1 kf_2 ks_0 ks_1 ks_2 t1i_0 t1i_1 t1i_2 t1i_3 t1i_4 t1i_5 t1r_0 t1r_1 t1r_2 t1r_3 t1r_4 t1r_5 t1f_0 t1f_1 t1f_2 t1s_0 t1s_1 t1s_2
  obtain ⟨w6, hw⟩ : ∃ z : World, z = (w5.alloc (.cells #[.bool sza, .slice Aza Lza cza, .slice Bza Mza dza, .bool szb, .slice Azb Lzb czb, .slice Bzb Mzb dzb] 29)) := ⟨_, rfl⟩
  rw [← hw]
  have x6 : Ext w5 w6 := by rw [hw]; exact (Ext.alloc _ _)
  replace bxi := bxi.ext x6
  replace bxr := bxr.ext x6
  replace bxf := bxf.ext x6
  replace bxs := bxs.ext x6
  have bxp : BK w6 (w5.heap.size) 29 #[.bool sza, .slice Aza Lza cza, .slice Bza Mza dza, .bool szb, .slice Azb Lzb czb, .slice Bzb Mzb dzb] := by rw [hw]; have h5 := (BK.new w5 #[.bool sza, .slice Aza Lza cza, .slice Bza Mza dza, .bool szb, .slice Azb Lzb czb, .slice Bzb Mzb dzb] 29); simpa only [World.size_alloc] using h5
  have szw6 : w6.heap.size = w5.heap.size + 1 := by rw [hw]; simp only [World.size_alloc]
  clear hw
  have hm2 := HM.out
  have ki_0 := bxi.c 0 (.bool s1) rfl
  have ki_1 := bxi.c 1 (.slice A1 L1 c1) rfl
  have ki_2 := bxi.c 2 (.slice B1 M1 d1) rfl
  have ki_3 := bxi.c 3 (.bool s2) rfl
  have ki_4 := bxi.c 4 (.slice A2 L2 c2) rfl
  have ki_5 := bxi.c 5 (.slice B2 M2 d2) rfl
  have kr_0 := bxr.c 0 (.bool false) rfl
  have kr_1 := bxr.c 1 (.slice none 0 0) rfl
  have kr_2 := bxr.c 2 (.slice none 0 0) rfl
  have kr_3 := bxr.c 3 (.bool false) rfl
  have kr_4 := bxr.c 4 (.slice none 0 0) rfl
  have kr_5 := bxr.c 5 (.slice none 0 0) rfl
  have kf_0 := bxf.c 0 (.bool su) rfl
  have kf_1 := bxf.c 1 (.slice Au Lu cu) rfl
  have kf_2 := bxf.c 2 (.slice Bu Mu du) rfl
  have ks_0 := bxs.c 0 (.bool sv) rfl
  have ks_1 := bxs.c 1 (.slice Av Lv cv) rfl
  have ks_2 := bxs.c 2 (.slice Bv Mv dv) rfl
  have kp_0 := bxp.c 0 (.bool sza) rfl
  have kp_1 := bxp.c 1 (.slice Aza Lza cza) rfl
  have kp_2 := bxp.c 2 (.slice Bza Mza dza) rfl
  have kp_3 := bxp.c 3 (.bool szb) rfl
  have kp_4 := bxp.c 4 (.slice Azb Lzb czb) rfl
  have kp_5 := bxp.c 5 (.slice Bzb Mzb dzb) rfl
  go_wp2_with fail
  have HK : Hid (∀ w', Ext w6 w' → (w'.cell? ⟨w.heap.size, 0, none⟩ = some (.bool s1) ∧ w'.cell? ⟨w.heap.size, 1, none⟩ = some (.slice A1 L1 c1) ∧ w'.cell? ⟨w.heap.size, 2, none⟩ = some (.slice B1 M1 d1) ∧ w'.cell? ⟨w.heap.size, 3, none⟩ = some (.bool s2) ∧ w'.cell? ⟨w.heap.size, 4, none⟩ = some (.slice A2 L2 c2) ∧ w'.cell? ⟨w.heap.size, 5, none⟩ = some (.slice B2 M2 d2))) := fun w' hk => ⟨hk.cell ki_0, hk.cell ki_1, hk.cell ki_2, hk.cell ki_3, hk.cell ki_4, hk.cell ki_5⟩
  go_region_held3 (fun w' => w'.cell? ⟨w.heap.size, 0, none⟩ = some (.bool s1) ∧ w'.cell? ⟨w.heap.size, 1, none⟩ = some (.slice A1 L1 c1) ∧ w'.cell? ⟨w.heap.size, 2, none⟩ = some (.slice B1 M1 d1) ∧ w'.cell? ⟨w.heap.size, 3, none⟩ = some (.bool s2) ∧ w'.cell? ⟨w.heap.size, 4, none⟩ = some (.slice A2 L2 c2) ∧ w'.cell? ⟨w.heap.size, 5, none⟩ = some (.slice B2 M2 d2))
    ((with_reducible refine HK.out _ ?_; (with_reducible repeat' first | exact Ext.refl _ | assumption | apply Ext.alloc_r | apply Ext.drew_r | apply Ext.drewN_r | refine Ext.trans ?_ ‹Ext _ _›)))
    (first
      | (go_at_call_of 48 (#[Value.agg #[Value.bool s2, Value.slice A2 L2 c2, Value.slice B2 M2 d2]]); refine (rsign_k (h2.ext (by with_reducible repeat' first | exact Ext.refl _ | assumption | apply Ext.alloc_r | apply Ext.drew_r | apply Ext.drewN_r | refine Ext.trans ?_ ‹Ext _ _›)) HZ.out.2).mono ?_; rintro e w8 ⟨rfl, x8⟩)
      | (go_at_call_of 48 (#[Value.agg #[Value.bool s1, Value.slice A1 L1 c1, Value.slice B1 M1 d1]]); refine (rsign_k (h1.ext (by with_reducible repeat' first | exact Ext.refl _ | assumption | apply Ext.alloc_r | apply Ext.drew_r | apply Ext.drewN_r | refine Ext.trans ?_ ‹Ext _ _›)) HZ.out.1).mono ?_; rintro e w7 ⟨rfl, x7⟩))
  clear ki_0 ki_1 ki_2 ki_3 ki_4 ki_5 kr_0 kr_1 kr_2 kr_3 kr_4 kr_5 kf_0 kf_1 kf_2 ks_0 ks_1 ks_2 kp_0 kp_1 kp_2 kp_3 kp_4 kp_5
  clear HK
  have szw7 : w6.heap.size ≤ w7.heap.size := (show Ext w6 w7 from (by with_reducible repeat' first | exact Ext.refl _ | assumption | apply Ext.alloc_r | apply Ext.drew_r | apply Ext.drewN_r | refine Ext.trans ?_ ‹Ext _ _›)).size
  have xhw8 : Ext w6 w8 := (by with_reducible repeat' first | exact Ext.refl _ | assumption | apply Ext.alloc_r | apply Ext.drew_r | apply Ext.drewN_r | refine Ext.trans ?_ ‹Ext _ _›)
  have szw8 : w6.heap.size ≤ w8.heap.size := xhw8.size
  replace bxi := bxi.ext xhw8
  replace bxr := bxr.ext xhw8
  replace bxf := bxf.ext xhw8
  replace bxs := bxs.ext xhw8
  replace bxp := bxp.ext xhw8
  clear hm2
  have ki_0 := bxi.c 0 (.bool s1) rfl
  have ki_1 := bxi.c 1 (.slice A1 L1 c1) rfl
  have ki_2 := bxi.c 2 (.slice B1 M1 d1) rfl
  have ki_3 := bxi.c 3 (.bool s2) rfl
  have ki_4 := bxi.c 4 (.slice A2 L2 c2) rfl
  have ki_5 := bxi.c 5 (.slice B2 M2 d2) rfl
  have kr_0 := bxr.c 0 (.bool false) rfl
  have fr_0 := bxr.f 0
  have kr_1 := bxr.c 1 (.slice none 0 0) rfl
  have fr_1 := bxr.f 1
  have kr_2 := bxr.c 2 (.slice none 0 0) rfl
  have fr_2 := bxr.f 2
  have kr_3 := bxr.c 3 (.bool false) rfl
  have fr_3 := bxr.f 3
  have kr_4 := bxr.c 4 (.slice none 0 0) rfl
  have fr_4 := bxr.f 4
  have kr_5 := bxr.c 5 (.slice none 0 0) rfl
  have fr_5 := bxr.f 5
  have kf_0 := bxf.c 0 (.bool su) rfl
  have kf_1 := bxf.c 1 (.slice Au Lu cu) rfl
  have kf_2 := bxf.c 2 (.slice Bu Mu du) rfl
  have ks_0 := bxs.c 0 (.bool sv) rfl
  have ks_1 := bxs.c 1 (.slice Av Lv cv) rfl
  have ks_2 := bxs.c 2 (.slice Bv Mv dv) rfl
  have kp_0 := bxp.c 0 (.bool sza) rfl
  have kp_1 := bxp.c 1 (.slice Aza Lza cza) rfl
  have kp_2 := bxp.c 2 (.slice Bza Mza dza) rfl
  have kp_3 := bxp.c 3 (.bool szb) rfl
  have kp_4 := bxp.c 4 (.slice Azb Lzb czb) rfl
  have kp_5 := bxp.c 5 (.slice Bzb Mzb dzb) rfl
  go_wp2_with fail
  clear ki_0 ki_1 ki_2 ki_3 ki_4 ki_5 kr_0 fr_0 kr_1 fr_1 kr_2 fr_2 kr_3 fr_3 kr_4 fr_4 kr_5 fr_5 kf_0 kf_1 kf_2 ks_0 ks_1 ks_2 kp_0 kp_1 kp_2 kp_3 kp_4 kp_5
  have za2 := HZZ.out.1.ext (show Ext _ w8 from (by with_reducible repeat' first | exact Ext.refl _ | assumption | apply Ext.alloc_r | apply Ext.drew_r | apply Ext.drewN_r | refine Ext.trans ?_ ‹Ext _ _›))
  have zb2 := HZZ.out.2.ext (show Ext _ w8 from (by with_reducible repeat' first | exact Ext.refl _ | assumption | apply Ext.alloc_r | apply Ext.drew_r | apply Ext.drewN_r | refine Ext.trans ?_ ‹Ext _ _›))
  clear HZZ
  obtain ⟨w9, hw⟩ : ∃ z : World, z = ((((((w8.setCell ⟨w.heap.size + 1, 0, none⟩ (.bool sza)).setCell ⟨w.heap.size + 1, 1, none⟩ (.slice Aza Lza cza)).setCell ⟨w.heap.size + 1, 2, none⟩ (.slice Bza Mza dza)).setCell ⟨w.heap.size + 1, 3, none⟩ (.bool szb)).setCell ⟨w.heap.size + 1, 4, none⟩ (.slice Azb Lzb czb)).setCell ⟨w.heap.size + 1, 5, none⟩ (.slice Bzb Mzb dzb)) := ⟨_, rfl⟩
  rw [← hw]
  have kw9 : Kept w8 w9 := by rw [hw]; exact (Kept.set_ (Kept.set_ (Kept.set_ (Kept.set_ (Kept.set_ (Kept.set_ (Kept.refl _) bxr.isBox plain_iv) (IsBox.set_ bxr.isBox) plain_iv) (IsBox.set_ (IsBox.set_ bxr.isBox)) plain_iv) (IsBox.set_ (IsBox.set_ (IsBox.set_ bxr.isBox))) plain_iv) (IsBox.set_ (IsBox.set_ (IsBox.set_ (IsBox.set_ bxr.isBox)))) plain_iv) (IsBox.set_ (IsBox.set_ (IsBox.set_ (IsBox.set_ (IsBox.set_ bxr.isBox))))) plain_iv)
  have nbi : BK w9 (w.heap.size) 29 #[.bool s1, .slice A1 L1 c1, .slice B1 M1 d1, .bool s2, .slice A2 L2 c2, .slice B2 M2 d2] := by rw [hw]; exact (BK.far (BK.far (BK.far (BK.far (BK.far (BK.far bxi (show w.heap.size ≠ w.heap.size + 1 by omega) 0 _) (show w.heap.size ≠ w.heap.size + 1 by omega) 1 _) (show w.heap.size ≠ w.heap.size + 1 by omega) 2 _) (show w.heap.size ≠ w.heap.size + 1 by omega) 3 _) (show w.heap.size ≠ w.heap.size + 1 by omega) 4 _) (show w.heap.size ≠ w.heap.size + 1 by omega) 5 _)
  have nbr : BK w9 (w.heap.size + 1) 29 #[.bool sza, .slice Aza Lza cza, .slice Bza Mza dza, .bool szb, .slice Azb Lzb czb, .slice Bzb Mzb dzb] := by rw [hw]; exact (BK.set (i := 5) (u := .slice Bzb Mzb dzb) (vs' := #[.bool sza, .slice Aza Lza cza, .slice Bza Mza dza, .bool szb, .slice Azb Lzb czb, .slice Bzb Mzb dzb]) (BK.set (i := 4) (u := .slice Azb Lzb czb) (vs' := #[.bool sza, .slice Aza Lza cza, .slice Bza Mza dza, .bool szb, .slice Azb Lzb czb, .slice none 0 0]) (BK.set (i := 3) (u := .bool szb) (vs' := #[.bool sza, .slice Aza Lza cza, .slice Bza Mza dza, .bool szb, .slice none 0 0, .slice none 0 0]) (BK.set (i := 2) (u := .slice Bza Mza dza) (vs' := #[.bool sza, .slice Aza Lza cza, .slice Bza Mza dza, .bool false, .slice none 0 0, .slice none 0 0]) (BK.set (i := 1) (u := .slice Aza Lza cza) (vs' := #[.bool sza, .slice Aza Lza cza, .slice none 0 0, .bool false, .slice none 0 0, .slice none 0 0]) (BK.set (i := 0) (u := .bool sza) (vs' := #[.bool sza, .slice none 0 0, .slice none 0 0, .bool false, .slice none 0 0, .slice none 0 0]) bxr rfl) rfl) rfl) rfl) rfl) rfl)
  have nbf : BK w9 (w1.heap.size) 27 #[.bool su, .slice Au Lu cu, .slice Bu Mu du] := by rw [hw]; exact (BK.far (BK.far (BK.far (BK.far (BK.far (BK.far bxf (show w1.heap.size ≠ w.heap.size + 1 by omega) 0 _) (show w1.heap.size ≠ w.heap.size + 1 by omega) 1 _) (show w1.heap.size ≠ w.heap.size + 1 by omega) 2 _) (show w1.heap.size ≠ w.heap.size + 1 by omega) 3 _) (show w1.heap.size ≠ w.heap.size + 1 by omega) 4 _) (show w1.heap.size ≠ w.heap.size + 1 by omega) 5 _)
  have nbs : BK w9 (w3.heap.size) 27 #[.bool sv, .slice Av Lv cv, .slice Bv Mv dv] := by rw [hw]; exact (BK.far (BK.far (BK.far (BK.far (BK.far (BK.far bxs (show w3.heap.size ≠ w.heap.size + 1 by omega) 0 _) (show w3.heap.size ≠ w.heap.size + 1 by omega) 1 _) (show w3.heap.size ≠ w.heap.size + 1 by omega) 2 _) (show w3.heap.size ≠ w.heap.size + 1 by omega) 3 _) (show w3.heap.size ≠ w.heap.size + 1 by omega) 4 _) (show w3.heap.size ≠ w.heap.size + 1 by omega) 5 _)
  have nbp : BK w9 (w5.heap.size) 29 #[.bool sza, .slice Aza Lza cza, .slice Bza Mza dza, .bool szb, .slice Azb Lzb czb, .slice Bzb Mzb dzb] := by rw [hw]; exact (BK.far (BK.far (BK.far (BK.far (BK.far (BK.far bxp (show w5.heap.size ≠ w.heap.size + 1 by omega) 0 _) (show w5.heap.size ≠ w.heap.size + 1 by omega) 1 _) (show w5.heap.size ≠ w.heap.size + 1 by omega) 2 _) (show w5.heap.size ≠ w.heap.size + 1 by omega) 3 _) (show w5.heap.size ≠ w.heap.size + 1 by omega) 4 _) (show w5.heap.size ≠ w.heap.size + 1 by omega) 5 _)
  have x9 : Ext w w9 := by rw [hw]; have hxp : Ext w w8 := (by with_reducible repeat' first | exact Ext.refl _ | assumption | apply Ext.alloc_r | apply Ext.drew_r | apply Ext.drewN_r | refine Ext.trans ?_ ‹Ext _ _›); exact (Ext.set_ (Ext.set_ (Ext.set_ (Ext.set_ (Ext.set_ (Ext.set_ hxp (show _ ≤ w.heap.size + 1 by omega)) (show _ ≤ w.heap.size + 1 by omega)) (show _ ≤ w.heap.size + 1 by omega)) (show _ ≤ w.heap.size + 1 by omega)) (show _ ≤ w.heap.size + 1 by omega)) (show _ ≤ w.heap.size + 1 by omega))
  clear bxi
  clear bxr
  clear bxf
  clear bxs
  clear bxp
  have bxi := nbi
  clear nbi
  have bxr := nbr
  clear nbr
  have bxf := nbf
  clear nbf
  have bxs := nbs
  clear nbs
  have bxp := nbp
  clear nbp
  have szw9 : w9.heap.size = w8.heap.size := by rw [hw]; simp
  replace za2 := (za2.ext (by with_reducible repeat' first | exact Ext.refl _ | assumption | apply Ext.alloc_r | apply Ext.drew_r | apply Ext.drewN_r | refine Ext.trans ?_ ‹Ext _ _›)).kept kw9
  replace zb2 := (zb2.ext (by with_reducible repeat' first | exact Ext.refl _ | assumption | apply Ext.alloc_r | apply Ext.drew_r | apply Ext.drewN_r | refine Ext.trans ?_ ‹Ext _ _›)).kept kw9
  clear hw kw9
  have HU := Lib.hid za2
  have HV := Lib.hid zb2
  clear za2 zb2
  have kr_0 := bxr.c 0 (.bool sza) rfl
  have kr_1 := bxr.c 1 (.slice Aza Lza cza) rfl
  have kr_2 := bxr.c 2 (.slice Bza Mza dza) rfl
  have kr_3 := bxr.c 3 (.bool szb) rfl
  have kr_4 := bxr.c 4 (.slice Azb Lzb czb) rfl
  have kr_5 := bxr.c 5 (.slice Bzb Mzb dzb) rfl
  refine bodyPost_ret (v := .tuple #[Value.agg #[Value.bool sza, Value.slice Aza Lza cza, Value.slice Bza Mza dza, Value.bool szb, Value.slice Azb Lzb czb, Value.slice Bzb Mzb dzb], .int .i64 0]) (by simp [results, Tryz.results43, go_sem, kr_0, kr_1, kr_2, kr_3, kr_4, kr_5]) rfl ?_
  exact ⟨_, _, _, _, _, _, _, _, _, _, _, _, _, _, rfl, by rw [HP.out]; exact HU.out, HV.out, x9⟩
theorem ipow_r {w : World} {N k : Nat} {s1 s2 : Bool} {A1 B1 A2 B2 : Option Addr} {c1 d1 L1 M1 c2 d2 L2 M2 : Nat} {q1 q2 : Rat} (h1 : RV w s1 A1 c1 L1 B1 d1 M1 N q1) (h2 : RV w s2 A2 c2 L2 B2 d2 M2 N q2) (hN : N * k ≤ 40) (hN1 : N ≤ 40) (hk : k ≤ 40) :
    Calls Tryz.prog 43 #[Value.agg #[Value.bool s1, Value.slice A1 L1 c1, Value.slice B1 M1 d1, Value.bool s2, Value.slice A2 L2 c2, Value.slice B2 M2 d2], .int .i64 k] w (RetIE w 41 (plo q1 q2 k) (phi q1 q2 k)) := by
  rcases Nat.eq_zero_or_pos k with h | h
  · exact ipow_k0 h1 h2 hN hN1 hk h
  · rcases Nat.mod_two_eq_zero_or_one k with h3 | h3
    · by_cases hs : q1 * q2 < 0
      · exact ipow_lt h1 h2 hN hN1 hk h h3 hs
      · exact ipow_ge h1 h2 hN hN1 hk h h3 hs
    · exact ipow_odd h1 h2 hN hN1 hk h3
end Go.Proofs.YtehhkeenjlpikaaGreat
