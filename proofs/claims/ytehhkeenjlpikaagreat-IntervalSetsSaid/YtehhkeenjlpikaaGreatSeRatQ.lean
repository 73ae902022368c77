/- Contracts of package rational: Add, Sub, Mul, Normal, Neg, Abs, Sign, Cmp, Make, Quo, Format, Of. -/
import Derived.Test.YtehhkeenjlpikaaGreatSeRatX
import Derived.Deep.RegionHeldLaw
import Derived.Test.YtehhkeenjlpikaaGreatSeDecX
namespace Go.Proofs.YtehhkeenjlpikaaGreat
open Go.RowKit
set_option maxHeartbeats 4000000 in
set_option maxRecDepth 100000 in
theorem rsub_r {w : World} {s1 s2 : Bool} {A1 A2 B1 B2 : Option Addr} {c1 c2 d1 d2 L1 L2 M1 M2 N1 N2 : Nat} {q1 q2 : Rat} (h1 : RV w s1 A1 c1 L1 B1 d1 M1 N1 q1) (h2 : RV w s2 A2 c2 L2 B2 d2 M2 N2 q2) (hN : N1 + N2 + 1 ≤ 1000000) (hm : min N1 N2 < 48) :
    Calls Tryz.prog 58 #[Value.agg #[.bool s1, .slice A1 L1 c1, .slice B1 M1 d1], Value.agg #[.bool s2, .slice A2 L2 c2, .slice B2 M2 d2]] w (RetR w (N1 + N2 + 1) (q1 - q2)) := by
  go_enter Tryz.func58, Tryz.ntmps58
  go_wp2_with fail
  obtain ⟨w0, hw0⟩ : ∃ z : World, z = (((w.alloc (.cells #[.bool s1, .slice A1 L1 c1, .slice B1 M1 d1] 27)).alloc (.cells #[.bool s2, .slice A2 L2 c2, .slice B2 M2 d2] 27)).alloc (.cells #[.bool false, .slice none 0 0, .slice none 0 0] 27)) := ⟨_, rfl⟩
  rw [← hw0]
  have bxa : BK w0 (w.heap.size) 27 #[.bool s1, .slice A1 L1 c1, .slice B1 M1 d1] := by rw [hw0]; have h5 := (BK.ext (BK.ext (BK.new w #[.bool s1, .slice A1 L1 c1, .slice B1 M1 d1] 27) (Ext.alloc _ (.cells #[.bool s2, .slice A2 L2 c2, .slice B2 M2 d2] 27))) (Ext.alloc _ (.cells #[.bool false, .slice none 0 0, .slice none 0 0] 27))); simpa only [World.size_alloc] using h5
  have bxb : BK w0 (w.heap.size + 1) 27 #[.bool s2, .slice A2 L2 c2, .slice B2 M2 d2] := by rw [hw0]; have h5 := (BK.ext (BK.new (w.alloc (.cells #[.bool s1, .slice A1 L1 c1, .slice B1 M1 d1] 27)) #[.bool s2, .slice A2 L2 c2, .slice B2 M2 d2] 27) (Ext.alloc _ (.cells #[.bool false, .slice none 0 0, .slice none 0 0] 27))); simpa only [World.size_alloc] using h5
  have bxr : BK w0 (w.heap.size + 1 + 1) 27 #[.bool false, .slice none 0 0, .slice none 0 0] := by rw [hw0]; have h5 := (BK.new ((w.alloc (.cells #[.bool s1, .slice A1 L1 c1, .slice B1 M1 d1] 27)).alloc (.cells #[.bool s2, .slice A2 L2 c2, .slice B2 M2 d2] 27)) #[.bool false, .slice none 0 0, .slice none 0 0] 27); simpa only [World.size_alloc] using h5
  have hszw0 : w0.heap.size = w.heap.size + 1 + 1 + 1 := by rw [hw0]; simp only [World.size_alloc]
  have xw0 : Ext w w0 := by rw [hw0]; exact (((Ext.alloc _ _).trans (Ext.alloc _ _)).trans (Ext.alloc _ _))
  clear hw0
  have e1 := h1.ext xw0
  have e2 := h2.ext xw0
  clear h1 h2
  refine (parts_r (e1.ext (by with_reducible repeat' first | exact Ext.refl _ | assumption | apply Ext.alloc_r | apply Ext.drew_r | apply Ext.drewN_r | refine Ext.trans ?_ ‹Ext _ _›))).mono ?_
  rintro e w1 ⟨xp, yp, sp, Ap, cp, Lp, Bp, dp, Mp, rfl, p1, p2, p3, p4, p5, p6, x1⟩
  have szw1 : w0.heap.size ≤ w1.heap.size := x1.size
  replace bxa := bxa.ext x1
  replace bxb := bxb.ext x1
  replace bxr := bxr.ext x1
  have Hp := Lib.hid (And.intro p1 p2)
  clear p1 p2
  have ka_0 := bxa.c 0 (.bool s1) rfl
  have ka_1 := bxa.c 1 (.slice A1 L1 c1) rfl
  have ka_2 := bxa.c 2 (.slice B1 M1 d1) rfl
  have kb_0 := bxb.c 0 (.bool s2) rfl
  have kb_1 := bxb.c 1 (.slice A2 L2 c2) rfl
  have kb_2 := bxb.c 2 (.slice B2 M2 d2) rfl
  have kr_0 := bxr.c 0 (.bool false) rfl
  have kr_1 := bxr.c 1 (.slice none 0 0) rfl
  have kr_2 := bxr.c 2 (.slice none 0 0) rfl
  have t1a_0 := fun (o0 : Obj) => ((Ext.alloc w1 o0).cell (bxa.c 0 (.bool s1) rfl))
  have t2a_0 := fun (o0 : Obj) (o1 : Obj) => ((Ext.alloc (w1.alloc o0) o1).cell ((Ext.alloc w1 o0).cell (bxa.c 0 (.bool s1) rfl)))
  have t1a_1 := fun (o0 : Obj) => ((Ext.alloc w1 o0).cell (bxa.c 1 (.slice A1 L1 c1) rfl))
  have t2a_1 := fun (o0 : Obj) (o1 : Obj) => ((Ext.alloc (w1.alloc o0) o1).cell ((Ext.alloc w1 o0).cell (bxa.c 1 (.slice A1 L1 c1) rfl)))
  have t1a_2 := fun (o0 : Obj) => ((Ext.alloc w1 o0).cell (bxa.c 2 (.slice B1 M1 d1) rfl))
  have t2a_2 := fun (o0 : Obj) (o1 : Obj) => ((Ext.alloc (w1.alloc o0) o1).cell ((Ext.alloc w1 o0).cell (bxa.c 2 (.slice B1 M1 d1) rfl)))
  have t1b_0 := fun (o0 : Obj) => ((Ext.alloc w1 o0).cell (bxb.c 0 (.bool s2) rfl))
  have t2b_0 := fun (o0 : Obj) (o1 : Obj) => ((Ext.alloc (w1.alloc o0) o1).cell ((Ext.alloc w1 o0).cell (bxb.c 0 (.bool s2) rfl)))
  have t1b_1 := fun (o0 : Obj) => ((Ext.alloc w1 o0).cell (bxb.c 1 (.slice A2 L2 c2) rfl))
  have t2b_1 := fun (o0 : Obj) (o1 : Obj) => ((Ext.alloc (w1.alloc o0) o1).cell ((Ext.alloc w1 o0).cell (bxb.c 1 (.slice A2 L2 c2) rfl)))
  have t1b_2 := fun (o0 : Obj) => ((Ext.alloc w1 o0).cell (bxb.c 2 (.slice B2 M2 d2) rfl))
  have t2b_2 := fun (o0 : Obj) (o1 : Obj) => ((Ext.alloc (w1.alloc o0) o1).cell ((Ext.alloc w1 o0).cell (bxb.c 2 (.slice B2 M2 d2) rfl)))
  have t1r_0 := fun (o0 : Obj) => ((Ext.alloc w1 o0).cell (bxr.c 0 (.bool false) rfl))
  have t2r_0 := fun (o0 : Obj) (o1 : Obj) => ((Ext.alloc (w1.alloc o0) o1).cell ((Ext.alloc w1 o0).cell (bxr.c 0 (.bool false) rfl)))
  have t1r_1 := fun (o0 : Obj) => ((Ext.alloc w1 o0).cell (bxr.c 1 (.slice none 0 0) rfl))
  have t2r_1 := fun (o0 : Obj) (o1 : Obj) => ((Ext.alloc (w1.alloc o0) o1).cell ((Ext.alloc w1 o0).cell (bxr.c 1 (.slice none 0 0) rfl)))
  have t1r_2 := fun (o0 : Obj) => ((Ext.alloc w1 o0).cell (bxr.c 2 (.slice none 0 0) rfl))
  have t2r_2 := fun (o0 : Obj) (o1 : Obj) => ((Ext.alloc (w1.alloc o0) o1).cell ((Ext.alloc w1 o0).cell (bxr.c 2 (.slice none 0 0) rfl)))
  go_wp2_with fail
  clear ka_0 ka_1 ka_2 kb_0 kb_1 kb_2 kr_0 kr_1 kr_2 t1a_0 t2a_0 t1a_1 t2a_1 t1a_2 t2a_2 t1b_0 t2b_0 t1b_1 t2b_1 t1b_2 t2b_2 t1r_0 t2r_0 t1r_1 t2r_1 t1r_2 t2r_2
  obtain ⟨w2, hw⟩ : ∃ z : World, z = ((w1.alloc (.cells #[.bool sp, .slice Ap Lp cp] 25)).alloc (.cells #[.bool false, .slice Bp Mp dp] 25)) := ⟨_, rfl⟩
  rw [← hw]
  have x2 : Ext w1 w2 := by rw [hw]; exact ((Ext.alloc _ _).trans (Ext.alloc _ _))
  replace bxa := bxa.ext x2
  replace bxb := bxb.ext x2
  replace bxr := bxr.ext x2
  have bxn : BK w2 (w1.heap.size) 25 #[.bool sp, .slice Ap Lp cp] := by rw [hw]; have h5 := (BK.ext (BK.new w1 #[.bool sp, .slice Ap Lp cp] 25) (Ext.alloc _ (.cells #[.bool false, .slice Bp Mp dp] 25))); simpa only [World.size_alloc] using h5
  have bxd : BK w2 (w1.heap.size + 1) 25 #[.bool false, .slice Bp Mp dp] := by rw [hw]; have h5 := (BK.new (w1.alloc (.cells #[.bool sp, .slice Ap Lp cp] 25)) #[.bool false, .slice Bp Mp dp] 25); simpa only [World.size_alloc] using h5
  have szw2 : w2.heap.size = w1.heap.size + 1 + 1 := by rw [hw]; simp only [World.size_alloc]
  clear hw
  refine (parts_r (e2.ext (by with_reducible repeat' first | exact Ext.refl _ | assumption | apply Ext.alloc_r | apply Ext.drew_r | apply Ext.drewN_r | refine Ext.trans ?_ ‹Ext _ _›))).mono ?_
  rintro e w3 ⟨xq, yq, sq, Aq, cq, Lq, Bq, dq, Mq, rfl, q1, q2, q3, q4, q5, q6, x3⟩
  have szw3 : w2.heap.size ≤ w3.heap.size := x3.size
  replace bxa := bxa.ext x3
  replace bxb := bxb.ext x3
  replace bxr := bxr.ext x3
  replace bxn := bxn.ext x3
  replace bxd := bxd.ext x3
  have Hq := Lib.hid (And.intro q1 q2)
  clear q1 q2
  have ka_0 := bxa.c 0 (.bool s1) rfl
  have ka_1 := bxa.c 1 (.slice A1 L1 c1) rfl
  have ka_2 := bxa.c 2 (.slice B1 M1 d1) rfl
  have kb_0 := bxb.c 0 (.bool s2) rfl
  have kb_1 := bxb.c 1 (.slice A2 L2 c2) rfl
  have kb_2 := bxb.c 2 (.slice B2 M2 d2) rfl
  have kr_0 := bxr.c 0 (.bool false) rfl
  have kr_1 := bxr.c 1 (.slice none 0 0) rfl
  have kr_2 := bxr.c 2 (.slice none 0 0) rfl
  have kn_0 := bxn.c 0 (.bool sp) rfl
  have kn_1 := bxn.c 1 (.slice Ap Lp cp) rfl
  have kd_0 := bxd.c 0 (.bool false) rfl
  have kd_1 := bxd.c 1 (.slice Bp Mp dp) rfl
  have t1a_0 := fun (o0 : Obj) => ((Ext.alloc w3 o0).cell (bxa.c 0 (.bool s1) rfl))
  have t2a_0 := fun (o0 : Obj) (o1 : Obj) => ((Ext.alloc (w3.alloc o0) o1).cell ((Ext.alloc w3 o0).cell (bxa.c 0 (.bool s1) rfl)))
  have t1a_1 := fun (o0 : Obj) => ((Ext.alloc w3 o0).cell (bxa.c 1 (.slice A1 L1 c1) rfl))
  have t2a_1 := fun (o0 : Obj) (o1 : Obj) => ((Ext.alloc (w3.alloc o0) o1).cell ((Ext.alloc w3 o0).cell (bxa.c 1 (.slice A1 L1 c1) rfl)))
  have t1a_2 := fun (o0 : Obj) => ((Ext.alloc w3 o0).cell (bxa.c 2 (.slice B1 M1 d1) rfl))
  have t2a_2 := fun (o0 : Obj) (o1 : Obj) => ((Ext.alloc (w3.alloc o0) o1).cell ((Ext.alloc w3 o0).cell (bxa.c 2 (.slice B1 M1 d1) rfl)))
  have t1b_0 := fun (o0 : Obj) => ((Ext.alloc w3 o0).cell (bxb.c 0 (.bool s2) rfl))
  have t2b_0 := fun (o0 : Obj) (o1 : Obj) => ((Ext.alloc (w3.alloc o0) o1).cell ((Ext.alloc w3 o0).cell (bxb.c 0 (.bool s2) rfl)))
  have t1b_1 := fun (o0 : Obj) => ((Ext.alloc w3 o0).cell (bxb.c 1 (.slice A2 L2 c2) rfl))
  have t2b_1 := fun (o0 : Obj) (o1 : Obj) => ((Ext.alloc (w3.alloc o0) o1).cell ((Ext.alloc w3 o0).cell (bxb.c 1 (.slice A2 L2 c2) rfl)))
  have t1b_2 := fun (o0 : Obj) => ((Ext.alloc w3 o0).cell (bxb.c 2 (.slice B2 M2 d2) rfl))
  have t2b_2 := fun (o0 : Obj) (o1 : Obj) => ((Ext.alloc (w3.alloc o0) o1).cell ((Ext.alloc w3 o0).cell (bxb.c 2 (.slice B2 M2 d2) rfl)))
  have t1r_0 := fun (o0 : Obj) => ((Ext.alloc w3 o0).cell (bxr.c 0 (.bool false) rfl))
  have t2r_0 := fun (o0 : Obj) (o1 : Obj) => ((Ext.alloc (w3.alloc o0) o1).cell ((Ext.alloc w3 o0).cell (bxr.c 0 (.bool false) rfl)))
  have t1r_1 := fun (o0 : Obj) => ((Ext.alloc w3 o0).cell (bxr.c 1 (.slice none 0 0) rfl))
  have t2r_1 := fun (o0 : Obj) (o1 : Obj) => ((Ext.alloc (w3.alloc o0) o1).cell ((Ext.alloc w3 o0).cell (bxr.c 1 (.slice none 0 0) rfl)))
  have t1r_2 := fun (o0 : Obj) => ((Ext.alloc w3 o0).cell (bxr.c 2 (.slice none 0 0) rfl))
  have t2r_2 := fun (o0 : Obj) (o1 : Obj) => ((Ext.alloc (w3.alloc o0) o1).cell ((Ext.alloc w3 o0).cell (bxr.c 2 (.slice none 0 0) rfl)))
  have t1n_0 := fun (o0 : Obj) => ((Ext.alloc w3 o0).cell (bxn.c 0 (.bool sp) rfl))
  have t2n_0 := fun (o0 : Obj) (o1 : Obj) => ((Ext.alloc (w3.alloc o0) o1).cell ((Ext.alloc w3 o0).cell (bxn.c 0 (.bool sp) rfl)))
  have t1n_1 := fun (o0 : Obj) => ((Ext.alloc w3 o0).cell (bxn.c 1 (.slice Ap Lp cp) rfl))
  have t2n_1 := fun (o0 : Obj) (o1 : Obj) => ((Ext.alloc (w3.alloc o0) o1).cell ((Ext.alloc w3 o0).cell (bxn.c 1 (.slice Ap Lp cp) rfl)))
  have t1d_0 := fun (o0 : Obj) => ((Ext.alloc w3 o0).cell (bxd.c 0 (.bool false) rfl))
  have t2d_0 := fun (o0 : Obj) (o1 : Obj) => ((Ext.alloc (w3.alloc o0) o1).cell ((Ext.alloc w3 o0).cell (bxd.c 0 (.bool false) rfl)))
  have t1d_1 := fun (o0 : Obj) => ((Ext.alloc w3 o0).cell (bxd.c 1 (.slice Bp Mp dp) rfl))
  have t2d_1 := fun (o0 : Obj) (o1 : Obj) => ((Ext.alloc (w3.alloc o0) o1).cell ((Ext.alloc w3 o0).cell (bxd.c 1 (.slice Bp Mp dp) rfl)))
  go_wp2_with fail
  clear ka_0 ka_1 ka_2 kb_0 kb_1 kb_2 kr_0 kr_1 kr_2 kn_0 kn_1 kd_0 kd_1 t1a_0 t2a_0 t1a_1 t2a_1 t1a_2 t2a_2 t1b_0 t2b_0 t1b_1 t2b_1 t1b_2 t2b_2 t1r_0 t2r_0 t1r_1 t2r_1 t1r_2 t2r_2 t1n_0 t2n_0 t1n_1 t2n_1 t1d_0 t2d_0 t1d_1 t2d_1
  obtain ⟨w4, hw⟩ : ∃ z : World, z = ((w3.alloc (.cells #[.bool sq, .slice Aq Lq cq] 25)).alloc (.cells #[.bool false, .slice Bq Mq dq] 25)) := ⟨_, rfl⟩
  rw [← hw]
  have x4 : Ext w3 w4 := by rw [hw]; exact ((Ext.alloc _ _).trans (Ext.alloc _ _))
  replace bxa := bxa.ext x4
  replace bxb := bxb.ext x4
  replace bxr := bxr.ext x4
  replace bxn := bxn.ext x4
  replace bxd := bxd.ext x4
  have bxm : BK w4 (w3.heap.size) 25 #[.bool sq, .slice Aq Lq cq] := by rw [hw]; have h5 := (BK.ext (BK.new w3 #[.bool sq, .slice Aq Lq cq] 25) (Ext.alloc _ (.cells #[.bool false, .slice Bq Mq dq] 25))); simpa only [World.size_alloc] using h5
  have bxf : BK w4 (w3.heap.size + 1) 25 #[.bool false, .slice Bq Mq dq] := by rw [hw]; have h5 := (BK.new (w3.alloc (.cells #[.bool sq, .slice Aq Lq cq] 25)) #[.bool false, .slice Bq Mq dq] 25); simpa only [World.size_alloc] using h5
  have szw4 : w4.heap.size = w3.heap.size + 1 + 1 := by rw [hw]; simp only [World.size_alloc]
  clear hw
  have g1 := Hp.out.1
  have g2 := Hp.out.2
  have g3 := Hq.out.1
  have g4 := Hq.out.2
  clear e1 e2
  have hz1 := dlz_mul xp (yq : Int)
  have hz2 := dlz_mul xq (yp : Int)
  have hz3 := dl_mul yp yq
  rw [Int.natAbs_natCast] at hz1 hz2
  have k1 : dl ((yp : Int)).natAbs = dl yp := by rw [Int.natAbs_natCast]
  have k2 : dl ((yq : Int)).natAbs = dl yq := by rw [Int.natAbs_natCast]
  have hpos : 0 < yp * yq := Nat.mul_pos p3 q3
  have HQ : Hid (q1 - q2 = mkRat (xp * yq - xq * yp) (yp * yq)) := by show _ = _; rw [p4, q4]; exact rat_sub_mk p3 q3
  have hcast : ((yp : Int)) * (yq : Int) = ((yp * yq : Nat) : Int) := rfl
  have hz4 := dlz_add (xp * yq) (-(xq * yp))
  rw [Int.natAbs_neg, ← Int.sub_eq_add_neg] at hz4
  have HDN : dl (xp * (yq : Int) - xq * (yp : Int)).natAbs ≤ N1 + N2 + 1 := by omega
  have HDD : dl (yp * yq) ≤ N1 + N2 + 1 := by omega
  have ka_0 := bxa.c 0 (.bool s1) rfl
  have ka_1 := bxa.c 1 (.slice A1 L1 c1) rfl
  have ka_2 := bxa.c 2 (.slice B1 M1 d1) rfl
  have kb_0 := bxb.c 0 (.bool s2) rfl
  have kb_1 := bxb.c 1 (.slice A2 L2 c2) rfl
  have kb_2 := bxb.c 2 (.slice B2 M2 d2) rfl
  have kr_0 := bxr.c 0 (.bool false) rfl
  have fr_0 := bxr.f 0
  have kr_1 := bxr.c 1 (.slice none 0 0) rfl
  have fr_1 := bxr.f 1
  have kr_2 := bxr.c 2 (.slice none 0 0) rfl
  have fr_2 := bxr.f 2
  have kn_0 := bxn.c 0 (.bool sp) rfl
  have kn_1 := bxn.c 1 (.slice Ap Lp cp) rfl
  have kd_0 := bxd.c 0 (.bool false) rfl
  have kd_1 := bxd.c 1 (.slice Bp Mp dp) rfl
  have km_0 := bxm.c 0 (.bool sq) rfl
  have km_1 := bxm.c 1 (.slice Aq Lq cq) rfl
  have kf_0 := bxf.c 0 (.bool false) rfl
  have kf_1 := bxf.c 1 (.slice Bq Mq dq) rfl
  go_wp2_with fail
  have HK : Hid (∀ w', Ext w4 w' → (w'.cell? ⟨w1.heap.size, 0, none⟩ = some (.bool sp) ∧ w'.cell? ⟨w1.heap.size, 1, none⟩ = some (.slice Ap Lp cp) ∧ w'.cell? ⟨w1.heap.size + 1, 0, none⟩ = some (.bool false) ∧ w'.cell? ⟨w1.heap.size + 1, 1, none⟩ = some (.slice Bp Mp dp) ∧ w'.cell? ⟨w3.heap.size, 0, none⟩ = some (.bool sq) ∧ w'.cell? ⟨w3.heap.size, 1, none⟩ = some (.slice Aq Lq cq) ∧ w'.cell? ⟨w3.heap.size + 1, 0, none⟩ = some (.bool false) ∧ w'.cell? ⟨w3.heap.size + 1, 1, none⟩ = some (.slice Bq Mq dq))) := fun w' hk => ⟨hk.cell kn_0, hk.cell kn_1, hk.cell kd_0, hk.cell kd_1, hk.cell km_0, hk.cell km_1, hk.cell kf_0, hk.cell kf_1⟩
  have nern : w.heap.size + 1 + 1 ≠ w1.heap.size := by omega
  have nerd : w.heap.size + 1 + 1 ≠ w1.heap.size + 1 := by omega
  have nerm : w.heap.size + 1 + 1 ≠ w3.heap.size := by omega
  have nerf : w.heap.size + 1 + 1 ≠ w3.heap.size + 1 := by omega
  have HSr : Hid (∀ (w' : World) (i : Nat) (u : Value), (w'.cell? ⟨w1.heap.size, 0, none⟩ = some (.bool sp) ∧ w'.cell? ⟨w1.heap.size, 1, none⟩ = some (.slice Ap Lp cp) ∧ w'.cell? ⟨w1.heap.size + 1, 0, none⟩ = some (.bool false) ∧ w'.cell? ⟨w1.heap.size + 1, 1, none⟩ = some (.slice Bp Mp dp) ∧ w'.cell? ⟨w3.heap.size, 0, none⟩ = some (.bool sq) ∧ w'.cell? ⟨w3.heap.size, 1, none⟩ = some (.slice Aq Lq cq) ∧ w'.cell? ⟨w3.heap.size + 1, 0, none⟩ = some (.bool false) ∧ w'.cell? ⟨w3.heap.size + 1, 1, none⟩ = some (.slice Bq Mq dq)) → ((fun (w' : World) => (w'.cell? ⟨w1.heap.size, 0, none⟩ = some (.bool sp) ∧ w'.cell? ⟨w1.heap.size, 1, none⟩ = some (.slice Ap Lp cp) ∧ w'.cell? ⟨w1.heap.size + 1, 0, none⟩ = some (.bool false) ∧ w'.cell? ⟨w1.heap.size + 1, 1, none⟩ = some (.slice Bp Mp dp) ∧ w'.cell? ⟨w3.heap.size, 0, none⟩ = some (.bool sq) ∧ w'.cell? ⟨w3.heap.size, 1, none⟩ = some (.slice Aq Lq cq) ∧ w'.cell? ⟨w3.heap.size + 1, 0, none⟩ = some (.bool false) ∧ w'.cell? ⟨w3.heap.size + 1, 1, none⟩ = some (.slice Bq Mq dq))) (w'.setCell ⟨w.heap.size + 1 + 1, i, none⟩ u))) := fun w' i u hs => ⟨cell_far nern hs.1, cell_far nern hs.2.1, cell_far nerd hs.2.2.1, cell_far nerd hs.2.2.2.1, cell_far nerm hs.2.2.2.2.1, cell_far nerm hs.2.2.2.2.2.1, cell_far nerf hs.2.2.2.2.2.2.1, cell_far nerf hs.2.2.2.2.2.2.2⟩
  go_region_held3 (fun w' => w'.cell? ⟨w1.heap.size, 0, none⟩ = some (.bool sp) ∧ w'.cell? ⟨w1.heap.size, 1, none⟩ = some (.slice Ap Lp cp) ∧ w'.cell? ⟨w1.heap.size + 1, 0, none⟩ = some (.bool false) ∧ w'.cell? ⟨w1.heap.size + 1, 1, none⟩ = some (.slice Bp Mp dp) ∧ w'.cell? ⟨w3.heap.size, 0, none⟩ = some (.bool sq) ∧ w'.cell? ⟨w3.heap.size, 1, none⟩ = some (.slice Aq Lq cq) ∧ w'.cell? ⟨w3.heap.size + 1, 0, none⟩ = some (.bool false) ∧ w'.cell? ⟨w3.heap.size + 1, 1, none⟩ = some (.slice Bq Mq dq))
    (((repeat (first | (refine HSr.out _ _ _ ?_))); (refine HK.out _ ?_; (with_reducible repeat' first | exact Ext.refl _ | assumption | apply Ext.alloc_r | apply Ext.drew_r | apply Ext.drewN_r | refine Ext.trans ?_ ‹Ext _ _›))))
    (first
      | (go_at_call 82; have hgd := i; clear hgd; refine (reduce_r (t.zv.ext (by with_reducible repeat' first | exact Ext.refl _ | assumption | apply Ext.alloc_r | apply Ext.drew_r | apply Ext.drewN_r | refine Ext.trans ?_ ‹Ext _ _›)) (i.zv.ext (by with_reducible repeat' first | exact Ext.refl _ | assumption | apply Ext.alloc_r | apply Ext.drew_r | apply Ext.drewN_r | refine Ext.trans ?_ ‹Ext _ _›)) hpos HDN HDD hN).mono ?_; rintro e w9 ⟨sz, Az, cz, Lz, Bz, dz, Mz, rfl, z, x9⟩; have yl : Ext w4 w9 := (by with_reducible repeat' first | exact Ext.refl _ | assumption | apply Ext.alloc_r | apply Ext.drew_r | apply Ext.drewN_r | refine Ext.trans ?_ ‹Ext _ _›); have cr_0 := (bxr.ext yl).c 0 (.bool false) rfl; have gr_0 := (bxr.ext yl).f 0; have cr_1 := (bxr.ext yl).c 1 (.slice none 0 0) rfl; have gr_1 := (bxr.ext yl).f 1; have cr_2 := (bxr.ext yl).c 2 (.slice none 0 0) rfl; have gr_2 := (bxr.ext yl).f 2)
      | (go_at_call_of 78 (#[Value.agg #[Value.bool false, Value.slice Bp Mp dp], Value.agg #[Value.bool false, Value.slice Bq Mq dq]]); have hgd := t; clear hgd; refine (toP hcast (mul_z (g2.ext (by with_reducible repeat' first | exact Ext.refl _ | assumption | apply Ext.alloc_r | apply Ext.drew_r | apply Ext.drewN_r | refine Ext.trans ?_ ‹Ext _ _›)) (g4.ext (by with_reducible repeat' first | exact Ext.refl _ | assumption | apply Ext.alloc_r | apply Ext.drew_r | apply Ext.drewN_r | refine Ext.trans ?_ ‹Ext _ _›)) (by omega) (by omega))).mono ?_; rintro e w8 ⟨Ai, ci, Li, rfl, i, x8⟩)
      | (go_at_call 85; have hgd := v; clear hgd; refine (sub_z (u.zv.ext (by with_reducible repeat' first | exact Ext.refl _ | assumption | apply Ext.alloc_r | apply Ext.drew_r | apply Ext.drewN_r | refine Ext.trans ?_ ‹Ext _ _›)) (v.zv.ext (by with_reducible repeat' first | exact Ext.refl _ | assumption | apply Ext.alloc_r | apply Ext.drew_r | apply Ext.drewN_r | refine Ext.trans ?_ ‹Ext _ _›)) (by omega) (by omega)).mono ?_; rintro e w7 ⟨st, At, ct, Lt, rfl, t, x7⟩)
      | (go_at_call_of 78 (#[Value.agg #[Value.bool sq, Value.slice Aq Lq cq], Value.agg #[Value.bool false, Value.slice Bp Mp dp]]); have hgd := u; clear hgd; refine (mul_z (g3.ext (by with_reducible repeat' first | exact Ext.refl _ | assumption | apply Ext.alloc_r | apply Ext.drew_r | apply Ext.drewN_r | refine Ext.trans ?_ ‹Ext _ _›)) (g2.ext (by with_reducible repeat' first | exact Ext.refl _ | assumption | apply Ext.alloc_r | apply Ext.drew_r | apply Ext.drewN_r | refine Ext.trans ?_ ‹Ext _ _›)) (by omega) (by omega)).mono ?_; rintro e w6 ⟨sv, Av, cv, Lv, rfl, v, x6⟩)
      | (go_at_call_of 78 (#[Value.agg #[Value.bool sp, Value.slice Ap Lp cp], Value.agg #[Value.bool false, Value.slice Bq Mq dq]]); refine (mul_z (g1.ext (by with_reducible repeat' first | exact Ext.refl _ | assumption | apply Ext.alloc_r | apply Ext.drew_r | apply Ext.drewN_r | refine Ext.trans ?_ ‹Ext _ _›)) (g4.ext (by with_reducible repeat' first | exact Ext.refl _ | assumption | apply Ext.alloc_r | apply Ext.drew_r | apply Ext.drewN_r | refine Ext.trans ?_ ‹Ext _ _›)) (by omega) (by omega)).mono ?_; rintro e w5 ⟨su, Au, cu, Lu, rfl, u, x5⟩))
  clear ka_0 ka_1 ka_2 kb_0 kb_1 kb_2 kr_0 fr_0 kr_1 fr_1 kr_2 fr_2 kn_0 kn_1 kd_0 kd_1 km_0 km_1 kf_0 kf_1
  clear HK HSr nern nerd nerm nerf
  clear cr_0 gr_0
  clear cr_1 gr_1
  clear cr_2 gr_2
  clear yl
  have szw5 : w4.heap.size ≤ w5.heap.size := (show Ext w4 w5 from (by with_reducible repeat' first | exact Ext.refl _ | assumption | apply Ext.alloc_r | apply Ext.drew_r | apply Ext.drewN_r | refine Ext.trans ?_ ‹Ext _ _›)).size
  have szw6 : w4.heap.size ≤ w6.heap.size := (show Ext w4 w6 from (by with_reducible repeat' first | exact Ext.refl _ | assumption | apply Ext.alloc_r | apply Ext.drew_r | apply Ext.drewN_r | refine Ext.trans ?_ ‹Ext _ _›)).size
  have szw7 : w4.heap.size ≤ w7.heap.size := (show Ext w4 w7 from (by with_reducible repeat' first | exact Ext.refl _ | assumption | apply Ext.alloc_r | apply Ext.drew_r | apply Ext.drewN_r | refine Ext.trans ?_ ‹Ext _ _›)).size
  have szw8 : w4.heap.size ≤ w8.heap.size := (show Ext w4 w8 from (by with_reducible repeat' first | exact Ext.refl _ | assumption | apply Ext.alloc_r | apply Ext.drew_r | apply Ext.drewN_r | refine Ext.trans ?_ ‹Ext _ _›)).size
  have xhw9 : Ext w4 w9 := (by with_reducible repeat' first | exact Ext.refl _ | assumption | apply Ext.alloc_r | apply Ext.drew_r | apply Ext.drewN_r | refine Ext.trans ?_ ‹Ext _ _›)
  have szw9 : w4.heap.size ≤ w9.heap.size := xhw9.size
  replace bxa := bxa.ext xhw9
  replace bxb := bxb.ext xhw9
  replace bxr := bxr.ext xhw9
  replace bxn := bxn.ext xhw9
  replace bxd := bxd.ext xhw9
  replace bxm := bxm.ext xhw9
  replace bxf := bxf.ext xhw9
  have HR2 := z.mono (show w.heap.size ≤ _ by omega)
  clear z
  obtain ⟨w10, hw⟩ : ∃ z : World, z = (((w9.setCell ⟨w.heap.size + 1 + 1, 0, none⟩ (.bool sz)).setCell ⟨w.heap.size + 1 + 1, 1, none⟩ (.slice Az Lz cz)).setCell ⟨w.heap.size + 1 + 1, 2, none⟩ (.slice Bz Mz dz)) := ⟨_, rfl⟩
  rw [← hw]
  have kw10 : Kept w9 w10 := by rw [hw]; exact (Kept.set_ (Kept.set_ (Kept.set_ (Kept.refl _) bxr.isBox plain_rat) (IsBox.set_ bxr.isBox) plain_rat) (IsBox.set_ (IsBox.set_ bxr.isBox)) plain_rat)
  have nba : BK w10 (w.heap.size) 27 #[.bool s1, .slice A1 L1 c1, .slice B1 M1 d1] := by rw [hw]; exact (BK.far (BK.far (BK.far bxa (show w.heap.size ≠ w.heap.size + 1 + 1 by omega) 0 _) (show w.heap.size ≠ w.heap.size + 1 + 1 by omega) 1 _) (show w.heap.size ≠ w.heap.size + 1 + 1 by omega) 2 _)
  have nbb : BK w10 (w.heap.size + 1) 27 #[.bool s2, .slice A2 L2 c2, .slice B2 M2 d2] := by rw [hw]; exact (BK.far (BK.far (BK.far bxb (show w.heap.size + 1 ≠ w.heap.size + 1 + 1 by omega) 0 _) (show w.heap.size + 1 ≠ w.heap.size + 1 + 1 by omega) 1 _) (show w.heap.size + 1 ≠ w.heap.size + 1 + 1 by omega) 2 _)
  have nbr : BK w10 (w.heap.size + 1 + 1) 27 #[.bool sz, .slice Az Lz cz, .slice Bz Mz dz] := by rw [hw]; exact (BK.set (i := 2) (u := .slice Bz Mz dz) (vs' := #[.bool sz, .slice Az Lz cz, .slice Bz Mz dz]) (BK.set (i := 1) (u := .slice Az Lz cz) (vs' := #[.bool sz, .slice Az Lz cz, .slice none 0 0]) (BK.set (i := 0) (u := .bool sz) (vs' := #[.bool sz, .slice none 0 0, .slice none 0 0]) bxr rfl) rfl) rfl)
  have nbn : BK w10 (w1.heap.size) 25 #[.bool sp, .slice Ap Lp cp] := by rw [hw]; exact (BK.far (BK.far (BK.far bxn (show w1.heap.size ≠ w.heap.size + 1 + 1 by omega) 0 _) (show w1.heap.size ≠ w.heap.size + 1 + 1 by omega) 1 _) (show w1.heap.size ≠ w.heap.size + 1 + 1 by omega) 2 _)
  have nbd : BK w10 (w1.heap.size + 1) 25 #[.bool false, .slice Bp Mp dp] := by rw [hw]; exact (BK.far (BK.far (BK.far bxd (show w1.heap.size + 1 ≠ w.heap.size + 1 + 1 by omega) 0 _) (show w1.heap.size + 1 ≠ w.heap.size + 1 + 1 by omega) 1 _) (show w1.heap.size + 1 ≠ w.heap.size + 1 + 1 by omega) 2 _)
  have nbm : BK w10 (w3.heap.size) 25 #[.bool sq, .slice Aq Lq cq] := by rw [hw]; exact (BK.far (BK.far (BK.far bxm (show w3.heap.size ≠ w.heap.size + 1 + 1 by omega) 0 _) (show w3.heap.size ≠ w.heap.size + 1 + 1 by omega) 1 _) (show w3.heap.size ≠ w.heap.size + 1 + 1 by omega) 2 _)
  have nbf : BK w10 (w3.heap.size + 1) 25 #[.bool false, .slice Bq Mq dq] := by rw [hw]; exact (BK.far (BK.far (BK.far bxf (show w3.heap.size + 1 ≠ w.heap.size + 1 + 1 by omega) 0 _) (show w3.heap.size + 1 ≠ w.heap.size + 1 + 1 by omega) 1 _) (show w3.heap.size + 1 ≠ w.heap.size + 1 + 1 by omega) 2 _)
  have x10 : Ext w w10 := by rw [hw]; have hxp : Ext w w9 := (by with_reducible repeat' first | exact Ext.refl _ | assumption | apply Ext.alloc_r | apply Ext.drew_r | apply Ext.drewN_r | refine Ext.trans ?_ ‹Ext _ _›); exact (Ext.set_ (Ext.set_ (Ext.set_ hxp (show _ ≤ w.heap.size + 1 + 1 by omega)) (show _ ≤ w.heap.size + 1 + 1 by omega)) (show _ ≤ w.heap.size + 1 + 1 by omega))
  clear bxa
  clear bxb
  clear bxr
  clear bxn
  clear bxd
  clear bxm
  clear bxf
  have bxa := nba
  clear nba
  have bxb := nbb
  clear nbb
  have bxr := nbr
  clear nbr
  have bxn := nbn
  clear nbn
  have bxd := nbd
  clear nbd
  have bxm := nbm
  clear nbm
  have bxf := nbf
  clear nbf
  have szw10 : w10.heap.size = w9.heap.size := by rw [hw]; simp
  replace HR2 := (HR2.ext (by with_reducible repeat' first | exact Ext.refl _ | assumption | apply Ext.alloc_r | apply Ext.drew_r | apply Ext.drewN_r | refine Ext.trans ?_ ‹Ext _ _›)).kept kw10
  clear hw kw10
  have HRO := Lib.hid HR2
  clear HR2
  have ka_0 := bxa.c 0 (.bool s1) rfl
  have ka_1 := bxa.c 1 (.slice A1 L1 c1) rfl
  have ka_2 := bxa.c 2 (.slice B1 M1 d1) rfl
  have kb_0 := bxb.c 0 (.bool s2) rfl
  have kb_1 := bxb.c 1 (.slice A2 L2 c2) rfl
  have kb_2 := bxb.c 2 (.slice B2 M2 d2) rfl
  have kr_0 := bxr.c 0 (.bool sz) rfl
  have kr_1 := bxr.c 1 (.slice Az Lz cz) rfl
  have kr_2 := bxr.c 2 (.slice Bz Mz dz) rfl
  have kn_0 := bxn.c 0 (.bool sp) rfl
  have kn_1 := bxn.c 1 (.slice Ap Lp cp) rfl
  have kd_0 := bxd.c 0 (.bool false) rfl
  have kd_1 := bxd.c 1 (.slice Bp Mp dp) rfl
  have km_0 := bxm.c 0 (.bool sq) rfl
  have km_1 := bxm.c 1 (.slice Aq Lq cq) rfl
  have kf_0 := bxf.c 0 (.bool false) rfl
  have kf_1 := bxf.c 1 (.slice Bq Mq dq) rfl
  go_wp2_with fail
  clear ka_0 ka_1 ka_2 kb_0 kb_1 kb_2 kr_0 kr_1 kr_2 kn_0 kn_1 kd_0 kd_1 km_0 km_1 kf_0 kf_1
  have kr_0 := bxr.c 0 (.bool sz) rfl
  have kr_1 := bxr.c 1 (.slice Az Lz cz) rfl
  have kr_2 := bxr.c 2 (.slice Bz Mz dz) rfl
  refine bodyPost_ret (v := .agg #[.bool sz, .slice Az Lz cz, .slice Bz Mz dz]) (by simp [results, Tryz.results58, go_sem, kr_0, kr_1, kr_2]) rfl ?_
  exact ⟨_, _, _, _, _, _, _, rfl, (by rw [HQ.out]; exact HRO.out), x10⟩
set_option maxHeartbeats 4000000 in
set_option maxRecDepth 100000 in
theorem rmul_r {w : World} {s1 s2 : Bool} {A1 A2 B1 B2 : Option Addr} {c1 c2 d1 d2 L1 L2 M1 M2 N1 N2 : Nat} {q1 q2 : Rat} (h1 : RV w s1 A1 c1 L1 B1 d1 M1 N1 q1) (h2 : RV w s2 A2 c2 L2 B2 d2 M2 N2 q2) (hN : N1 + N2 + 1 ≤ 1000000) (hm : min N1 N2 < 48) :
    Calls Tryz.prog 59 #[Value.agg #[.bool s1, .slice A1 L1 c1, .slice B1 M1 d1], Value.agg #[.bool s2, .slice A2 L2 c2, .slice B2 M2 d2]] w (RetR w (N1 + N2) (q1 * q2)) := by
  go_enter Tryz.func59, Tryz.ntmps59
  go_wp2_with fail
  obtain ⟨w0, hw0⟩ : ∃ z : World, z = (((w.alloc (.cells #[.bool s1, .slice A1 L1 c1, .slice B1 M1 d1] 27)).alloc (.cells #[.bool s2, .slice A2 L2 c2, .slice B2 M2 d2] 27)).alloc (.cells #[.bool false, .slice none 0 0, .slice none 0 0] 27)) := ⟨_, rfl⟩
  rw [← hw0]
  have bxa : BK w0 (w.heap.size) 27 #[.bool s1, .slice A1 L1 c1, .slice B1 M1 d1] := by rw [hw0]; have h5 := (BK.ext (BK.ext (BK.new w #[.bool s1, .slice A1 L1 c1, .slice B1 M1 d1] 27) (Ext.alloc _ (.cells #[.bool s2, .slice A2 L2 c2, .slice B2 M2 d2] 27))) (Ext.alloc _ (.cells #[.bool false, .slice none 0 0, .slice none 0 0] 27))); simpa only [World.size_alloc] using h5
  have bxb : BK w0 (w.heap.size + 1) 27 #[.bool s2, .slice A2 L2 c2, .slice B2 M2 d2] := by rw [hw0]; have h5 := (BK.ext (BK.new (w.alloc (.cells #[.bool s1, .slice A1 L1 c1, .slice B1 M1 d1] 27)) #[.bool s2, .slice A2 L2 c2, .slice B2 M2 d2] 27) (Ext.alloc _ (.cells #[.bool false, .slice none 0 0, .slice none 0 0] 27))); simpa only [World.size_alloc] using h5
  have bxr : BK w0 (w.heap.size + 1 + 1) 27 #[.bool false, .slice none 0 0, .slice none 0 0] := by rw [hw0]; have h5 := (BK.new ((w.alloc (.cells #[.bool s1, .slice A1 L1 c1, .slice B1 M1 d1] 27)).alloc (.cells #[.bool s2, .slice A2 L2 c2, .slice B2 M2 d2] 27)) #[.bool false, .slice none 0 0, .slice none 0 0] 27); simpa only [World.size_alloc] using h5
  have hszw0 : w0.heap.size = w.heap.size + 1 + 1 + 1 := by rw [hw0]; simp only [World.size_alloc]
  have xw0 : Ext w w0 := by rw [hw0]; exact (((Ext.alloc _ _).trans (Ext.alloc _ _)).trans (Ext.alloc _ _))
  clear hw0
  have e1 := h1.ext xw0
  have e2 := h2.ext xw0
  clear h1 h2
  refine (parts_r (e1.ext (by with_reducible repeat' first | exact Ext.refl _ | assumption | apply Ext.alloc_r | apply Ext.drew_r | apply Ext.drewN_r | refine Ext.trans ?_ ‹Ext _ _›))).mono ?_
  rintro e w1 ⟨xp, yp, sp, Ap, cp, Lp, Bp, dp, Mp, rfl, p1, p2, p3, p4, p5, p6, x1⟩
  have szw1 : w0.heap.size ≤ w1.heap.size := x1.size
  replace bxa := bxa.ext x1
  replace bxb := bxb.ext x1
  replace bxr := bxr.ext x1
  have Hp := Lib.hid (And.intro p1 p2)
  clear p1 p2
  have ka_0 := bxa.c 0 (.bool s1) rfl
  have ka_1 := bxa.c 1 (.slice A1 L1 c1) rfl
  have ka_2 := bxa.c 2 (.slice B1 M1 d1) rfl
  have kb_0 := bxb.c 0 (.bool s2) rfl
  have kb_1 := bxb.c 1 (.slice A2 L2 c2) rfl
  have kb_2 := bxb.c 2 (.slice B2 M2 d2) rfl
  have kr_0 := bxr.c 0 (.bool false) rfl
  have kr_1 := bxr.c 1 (.slice none 0 0) rfl
  have kr_2 := bxr.c 2 (.slice none 0 0) rfl
  have t1a_0 := fun (o0 : Obj) => ((Ext.alloc w1 o0).cell (bxa.c 0 (.bool s1) rfl))
  have t2a_0 := fun (o0 : Obj) (o1 : Obj) => ((Ext.alloc (w1.alloc o0) o1).cell ((Ext.alloc w1 o0).cell (bxa.c 0 (.bool s1) rfl)))
  have t1a_1 := fun (o0 : Obj) => ((Ext.alloc w1 o0).cell (bxa.c 1 (.slice A1 L1 c1) rfl))
  have t2a_1 := fun (o0 : Obj) (o1 : Obj) => ((Ext.alloc (w1.alloc o0) o1).cell ((Ext.alloc w1 o0).cell (bxa.c 1 (.slice A1 L1 c1) rfl)))
  have t1a_2 := fun (o0 : Obj) => ((Ext.alloc w1 o0).cell (bxa.c 2 (.slice B1 M1 d1) rfl))
  have t2a_2 := fun (o0 : Obj) (o1 : Obj) => ((Ext.alloc (w1.alloc o0) o1).cell ((Ext.alloc w1 o0).cell (bxa.c 2 (.slice B1 M1 d1) rfl)))
  have t1b_0 := fun (o0 : Obj) => ((Ext.alloc w1 o0).cell (bxb.c 0 (.bool s2) rfl))
  have t2b_0 := fun (o0 : Obj) (o1 : Obj) => ((Ext.alloc (w1.alloc o0) o1).cell ((Ext.alloc w1 o0).cell (bxb.c 0 (.bool s2) rfl)))
  have t1b_1 := fun (o0 : Obj) => ((Ext.alloc w1 o0).cell (bxb.c 1 (.slice A2 L2 c2) rfl))
  have t2b_1 := fun (o0 : Obj) (o1 : Obj) => ((Ext.alloc (w1.alloc o0) o1).cell ((Ext.alloc w1 o0).cell (bxb.c 1 (.slice A2 L2 c2) rfl)))
  have t1b_2 := fun (o0 : Obj) => ((Ext.alloc w1 o0).cell (bxb.c 2 (.slice B2 M2 d2) rfl))
  have t2b_2 := fun (o0 : Obj) (o1 : Obj) => ((Ext.alloc (w1.alloc o0) o1).cell ((Ext.alloc w1 o0).cell (bxb.c 2 (.slice B2 M2 d2) rfl)))
  have t1r_0 := fun (o0 : Obj) => ((Ext.alloc w1 o0).cell (bxr.c 0 (.bool false) rfl))
  have t2r_0 := fun (o0 : Obj) (o1 : Obj) => ((Ext.alloc (w1.alloc o0) o1).cell ((Ext.alloc w1 o0).cell (bxr.c 0 (.bool false) rfl)))
  have t1r_1 := fun (o0 : Obj) => ((Ext.alloc w1 o0).cell (bxr.c 1 (.slice none 0 0) rfl))
  have t2r_1 := fun (o0 : Obj) (o1 : Obj) => ((Ext.alloc (w1.alloc o0) o1).cell ((Ext.alloc w1 o0).cell (bxr.c 1 (.slice none 0 0) rfl)))
  have t1r_2 := fun (o0 : Obj) => ((Ext.alloc w1 o0).cell (bxr.c 2 (.slice none 0 0) rfl))
  have t2r_2 := fun (o0 : Obj) (o1 : Obj) => ((Ext.alloc (w1.alloc o0) o1).cell ((Ext.alloc w1 o0).cell (bxr.c 2 (.slice none 0 0) rfl)))
  go_wp2_with fail
  clear ka_0 ka_1 ka_2 kb_0 kb_1 kb_2 kr_0 kr_1 kr_2 t1a_0 t2a_0 t1a_1 t2a_1 t1a_2 t2a_2 t1b_0 t2b_0 t1b_1 t2b_1 t1b_2 t2b_2 t1r_0 t2r_0 t1r_1 t2r_1 t1r_2 t2r_2
  obtain ⟨w2, hw⟩ : ∃ z : World, z = ((w1.alloc (.cells #[.bool sp, .slice Ap Lp cp] 25)).alloc (.cells #[.bool false, .slice Bp Mp dp] 25)) := ⟨_, rfl⟩
  rw [← hw]
  have x2 : Ext w1 w2 := by rw [hw]; exact ((Ext.alloc _ _).trans (Ext.alloc _ _))
  replace bxa := bxa.ext x2
  replace bxb := bxb.ext x2
  replace bxr := bxr.ext x2
  have bxn : BK w2 (w1.heap.size) 25 #[.bool sp, .slice Ap Lp cp] := by rw [hw]; have h5 := (BK.ext (BK.new w1 #[.bool sp, .slice Ap Lp cp] 25) (Ext.alloc _ (.cells #[.bool false, .slice Bp Mp dp] 25))); simpa only [World.size_alloc] using h5
  have bxd : BK w2 (w1.heap.size + 1) 25 #[.bool false, .slice Bp Mp dp] := by rw [hw]; have h5 := (BK.new (w1.alloc (.cells #[.bool sp, .slice Ap Lp cp] 25)) #[.bool false, .slice Bp Mp dp] 25); simpa only [World.size_alloc] using h5
  have szw2 : w2.heap.size = w1.heap.size + 1 + 1 := by rw [hw]; simp only [World.size_alloc]
  clear hw
  refine (parts_r (e2.ext (by with_reducible repeat' first | exact Ext.refl _ | assumption | apply Ext.alloc_r | apply Ext.drew_r | apply Ext.drewN_r | refine Ext.trans ?_ ‹Ext _ _›))).mono ?_
  rintro e w3 ⟨xq, yq, sq, Aq, cq, Lq, Bq, dq, Mq, rfl, q1, q2, q3, q4, q5, q6, x3⟩
  have szw3 : w2.heap.size ≤ w3.heap.size := x3.size
  replace bxa := bxa.ext x3
  replace bxb := bxb.ext x3
  replace bxr := bxr.ext x3
  replace bxn := bxn.ext x3
  replace bxd := bxd.ext x3
  have Hq := Lib.hid (And.intro q1 q2)
  clear q1 q2
  have ka_0 := bxa.c 0 (.bool s1) rfl
  have ka_1 := bxa.c 1 (.slice A1 L1 c1) rfl
  have ka_2 := bxa.c 2 (.slice B1 M1 d1) rfl
  have kb_0 := bxb.c 0 (.bool s2) rfl
  have kb_1 := bxb.c 1 (.slice A2 L2 c2) rfl
  have kb_2 := bxb.c 2 (.slice B2 M2 d2) rfl
  have kr_0 := bxr.c 0 (.bool false) rfl
  have kr_1 := bxr.c 1 (.slice none 0 0) rfl
  have kr_2 := bxr.c 2 (.slice none 0 0) rfl
  have kn_0 := bxn.c 0 (.bool sp) rfl
  have kn_1 := bxn.c 1 (.slice Ap Lp cp) rfl
  have kd_0 := bxd.c 0 (.bool false) rfl
  have kd_1 := bxd.c 1 (.slice Bp Mp dp) rfl
  have t1a_0 := fun (o0 : Obj) => ((Ext.alloc w3 o0).cell (bxa.c 0 (.bool s1) rfl))
  have t2a_0 := fun (o0 : Obj) (o1 : Obj) => ((Ext.alloc (w3.alloc o0) o1).cell ((Ext.alloc w3 o0).cell (bxa.c 0 (.bool s1) rfl)))
  have t1a_1 := fun (o0 : Obj) => ((Ext.alloc w3 o0).cell (bxa.c 1 (.slice A1 L1 c1) rfl))
  have t2a_1 := fun (o0 : Obj) (o1 : Obj) => ((Ext.alloc (w3.alloc o0) o1).cell ((Ext.alloc w3 o0).cell (bxa.c 1 (.slice A1 L1 c1) rfl)))
  have t1a_2 := fun (o0 : Obj) => ((Ext.alloc w3 o0).cell (bxa.c 2 (.slice B1 M1 d1) rfl))
  have t2a_2 := fun (o0 : Obj) (o1 : Obj) => ((Ext.alloc (w3.alloc o0) o1).cell ((Ext.alloc w3 o0).cell (bxa.c 2 (.slice B1 M1 d1) rfl)))
  have t1b_0 := fun (o0 : Obj) => ((Ext.alloc w3 o0).cell (bxb.c 0 (.bool s2) rfl))
  have t2b_0 := fun (o0 : Obj) (o1 : Obj) => ((Ext.alloc (w3.alloc o0) o1).cell ((Ext.alloc w3 o0).cell (bxb.c 0 (.bool s2) rfl)))
  have t1b_1 := fun (o0 : Obj) => ((Ext.alloc w3 o0).cell (bxb.c 1 (.slice A2 L2 c2) rfl))
  have t2b_1 := fun (o0 : Obj) (o1 : Obj) => ((Ext.alloc (w3.alloc o0) o1).cell ((Ext.alloc w3 o0).cell (bxb.c 1 (.slice A2 L2 c2) rfl)))
  have t1b_2 := fun (o0 : Obj) => ((Ext.alloc w3 o0).cell (bxb.c 2 (.slice B2 M2 d2) rfl))
  have t2b_2 := fun (o0 : Obj) (o1 : Obj) => ((Ext.alloc (w3.alloc o0) o1).cell ((Ext.alloc w3 o0).cell (bxb.c 2 (.slice B2 M2 d2) rfl)))
  have t1r_0 := fun (o0 : Obj) => ((Ext.alloc w3 o0).cell (bxr.c 0 (.bool false) rfl))
  have t2r_0 := fun (o0 : Obj) (o1 : Obj) => ((Ext.alloc (w3.alloc o0) o1).cell ((Ext.alloc w3 o0).cell (bxr.c 0 (.bool false) rfl)))
  have t1r_1 := fun (o0 : Obj) => ((Ext.alloc w3 o0).cell (bxr.c 1 (.slice none 0 0) rfl))
  have t2r_1 := fun (o0 : Obj) (o1 : Obj) => ((Ext.alloc (w3.alloc o0) o1).cell ((Ext.alloc w3 o0).cell (bxr.c 1 (.slice none 0 0) rfl)))
  have t1r_2 := fun (o0 : Obj) => ((Ext.alloc w3 o0).cell (bxr.c 2 (.slice none 0 0) rfl))
  have t2r_2 := fun (o0 : Obj) (o1 : Obj) => ((Ext.alloc (w3.alloc o0) o1).cell ((Ext.alloc w3 o0).cell (bxr.c 2 (.slice none 0 0) rfl)))
  have t1n_0 := fun (o0 : Obj) => ((Ext.alloc w3 o0).cell (bxn.c 0 (.bool sp) rfl))
  have t2n_0 := fun (o0 : Obj) (o1 : Obj) => ((Ext.alloc (w3.alloc o0) o1).cell ((Ext.alloc w3 o0).cell (bxn.c 0 (.bool sp) rfl)))
  have t1n_1 := fun (o0 : Obj) => ((Ext.alloc w3 o0).cell (bxn.c 1 (.slice Ap Lp cp) rfl))
  have t2n_1 := fun (o0 : Obj) (o1 : Obj) => ((Ext.alloc (w3.alloc o0) o1).cell ((Ext.alloc w3 o0).cell (bxn.c 1 (.slice Ap Lp cp) rfl)))
  have t1d_0 := fun (o0 : Obj) => ((Ext.alloc w3 o0).cell (bxd.c 0 (.bool false) rfl))
  have t2d_0 := fun (o0 : Obj) (o1 : Obj) => ((Ext.alloc (w3.alloc o0) o1).cell ((Ext.alloc w3 o0).cell (bxd.c 0 (.bool false) rfl)))
  have t1d_1 := fun (o0 : Obj) => ((Ext.alloc w3 o0).cell (bxd.c 1 (.slice Bp Mp dp) rfl))
  have t2d_1 := fun (o0 : Obj) (o1 : Obj) => ((Ext.alloc (w3.alloc o0) o1).cell ((Ext.alloc w3 o0).cell (bxd.c 1 (.slice Bp Mp dp) rfl)))
  go_wp2_with fail
  clear ka_0 ka_1 ka_2 kb_0 kb_1 kb_2 kr_0 kr_1 kr_2 kn_0 kn_1 kd_0 kd_1 t1a_0 t2a_0 t1a_1 t2a_1 t1a_2 t2a_2 t1b_0 t2b_0 t1b_1 t2b_1 t1b_2 t2b_2 t1r_0 t2r_0 t1r_1 t2r_1 t1r_2 t2r_2 t1n_0 t2n_0 t1n_1 t2n_1 t1d_0 t2d_0 t1d_1 t2d_1
  obtain ⟨w4, hw⟩ : ∃ z : World, z = ((w3.alloc (.cells #[.bool sq, .slice Aq Lq cq] 25)).alloc (.cells #[.bool false, .slice Bq Mq dq] 25)) := ⟨_, rfl⟩
  rw [← hw]
  have x4 : Ext w3 w4 := by rw [hw]; exact ((Ext.alloc _ _).trans (Ext.alloc _ _))
  replace bxa := bxa.ext x4
  replace bxb := bxb.ext x4
  replace bxr := bxr.ext x4
  replace bxn := bxn.ext x4
  replace bxd := bxd.ext x4
  have bxm : BK w4 (w3.heap.size) 25 #[.bool sq, .slice Aq Lq cq] := by rw [hw]; have h5 := (BK.ext (BK.new w3 #[.bool sq, .slice Aq Lq cq] 25) (Ext.alloc _ (.cells #[.bool false, .slice Bq Mq dq] 25))); simpa only [World.size_alloc] using h5
  have bxf : BK w4 (w3.heap.size + 1) 25 #[.bool false, .slice Bq Mq dq] := by rw [hw]; have h5 := (BK.new (w3.alloc (.cells #[.bool sq, .slice Aq Lq cq] 25)) #[.bool false, .slice Bq Mq dq] 25); simpa only [World.size_alloc] using h5
  have szw4 : w4.heap.size = w3.heap.size + 1 + 1 := by rw [hw]; simp only [World.size_alloc]
  clear hw
  have g1 := Hp.out.1
  have g2 := Hp.out.2
  have g3 := Hq.out.1
  have g4 := Hq.out.2
  clear e1 e2
  have hz1 := dlz_mul xp xq
  have hz2 := dlz_mul xq (yp : Int)
  have hz3 := dl_mul yp yq
  rw [Int.natAbs_natCast] at hz2
  have k1 : dl ((yp : Int)).natAbs = dl yp := by rw [Int.natAbs_natCast]
  have k2 : dl ((yq : Int)).natAbs = dl yq := by rw [Int.natAbs_natCast]
  have hpos : 0 < yp * yq := Nat.mul_pos p3 q3
  have HQ : Hid (q1 * q2 = mkRat (xp * xq) (yp * yq)) := by show _ = _; rw [p4, q4]; exact Rat.mkRat_mul_mkRat _ _ _ _
  have hcast : ((yp : Int)) * (yq : Int) = ((yp * yq : Nat) : Int) := rfl
  have HDN : dl (xp * xq).natAbs ≤ N1 + N2 := by omega
  have HDD : dl (yp * yq) ≤ N1 + N2 := by omega
  have hN2 : N1 + N2 ≤ 1000000 := by omega
  have ka_0 := bxa.c 0 (.bool s1) rfl
  have ka_1 := bxa.c 1 (.slice A1 L1 c1) rfl
  have ka_2 := bxa.c 2 (.slice B1 M1 d1) rfl
  have kb_0 := bxb.c 0 (.bool s2) rfl
  have kb_1 := bxb.c 1 (.slice A2 L2 c2) rfl
  have kb_2 := bxb.c 2 (.slice B2 M2 d2) rfl
  have kr_0 := bxr.c 0 (.bool false) rfl
  have fr_0 := bxr.f 0
  have kr_1 := bxr.c 1 (.slice none 0 0) rfl
  have fr_1 := bxr.f 1
  have kr_2 := bxr.c 2 (.slice none 0 0) rfl
  have fr_2 := bxr.f 2
  have kn_0 := bxn.c 0 (.bool sp) rfl
  have kn_1 := bxn.c 1 (.slice Ap Lp cp) rfl
  have kd_0 := bxd.c 0 (.bool false) rfl
  have kd_1 := bxd.c 1 (.slice Bp Mp dp) rfl
  have km_0 := bxm.c 0 (.bool sq) rfl
  have km_1 := bxm.c 1 (.slice Aq Lq cq) rfl
  have kf_0 := bxf.c 0 (.bool false) rfl
  have kf_1 := bxf.c 1 (.slice Bq Mq dq) rfl
  go_wp2_with fail
  have HK : Hid (∀ w', Ext w4 w' → (w'.cell? ⟨w1.heap.size, 0, none⟩ = some (.bool sp) ∧ w'.cell? ⟨w1.heap.size, 1, none⟩ = some (.slice Ap Lp cp) ∧ w'.cell? ⟨w1.heap.size + 1, 0, none⟩ = some (.bool false) ∧ w'.cell? ⟨w1.heap.size + 1, 1, none⟩ = some (.slice Bp Mp dp) ∧ w'.cell? ⟨w3.heap.size, 0, none⟩ = some (.bool sq) ∧ w'.cell? ⟨w3.heap.size, 1, none⟩ = some (.slice Aq Lq cq) ∧ w'.cell? ⟨w3.heap.size + 1, 0, none⟩ = some (.bool false) ∧ w'.cell? ⟨w3.heap.size + 1, 1, none⟩ = some (.slice Bq Mq dq))) := fun w' hk => ⟨hk.cell kn_0, hk.cell kn_1, hk.cell kd_0, hk.cell kd_1, hk.cell km_0, hk.cell km_1, hk.cell kf_0, hk.cell kf_1⟩
  have nern : w.heap.size + 1 + 1 ≠ w1.heap.size := by omega
  have nerd : w.heap.size + 1 + 1 ≠ w1.heap.size + 1 := by omega
  have nerm : w.heap.size + 1 + 1 ≠ w3.heap.size := by omega
  have nerf : w.heap.size + 1 + 1 ≠ w3.heap.size + 1 := by omega
  have HSr : Hid (∀ (w' : World) (i : Nat) (u : Value), (w'.cell? ⟨w1.heap.size, 0, none⟩ = some (.bool sp) ∧ w'.cell? ⟨w1.heap.size, 1, none⟩ = some (.slice Ap Lp cp) ∧ w'.cell? ⟨w1.heap.size + 1, 0, none⟩ = some (.bool false) ∧ w'.cell? ⟨w1.heap.size + 1, 1, none⟩ = some (.slice Bp Mp dp) ∧ w'.cell? ⟨w3.heap.size, 0, none⟩ = some (.bool sq) ∧ w'.cell? ⟨w3.heap.size, 1, none⟩ = some (.slice Aq Lq cq) ∧ w'.cell? ⟨w3.heap.size + 1, 0, none⟩ = some (.bool false) ∧ w'.cell? ⟨w3.heap.size + 1, 1, none⟩ = some (.slice Bq Mq dq)) → ((fun (w' : World) => (w'.cell? ⟨w1.heap.size, 0, none⟩ = some (.bool sp) ∧ w'.cell? ⟨w1.heap.size, 1, none⟩ = some (.slice Ap Lp cp) ∧ w'.cell? ⟨w1.heap.size + 1, 0, none⟩ = some (.bool false) ∧ w'.cell? ⟨w1.heap.size + 1, 1, none⟩ = some (.slice Bp Mp dp) ∧ w'.cell? ⟨w3.heap.size, 0, none⟩ = some (.bool sq) ∧ w'.cell? ⟨w3.heap.size, 1, none⟩ = some (.slice Aq Lq cq) ∧ w'.cell? ⟨w3.heap.size + 1, 0, none⟩ = some (.bool false) ∧ w'.cell? ⟨w3.heap.size + 1, 1, none⟩ = some (.slice Bq Mq dq))) (w'.setCell ⟨w.heap.size + 1 + 1, i, none⟩ u))) := fun w' i u hs => ⟨cell_far nern hs.1, cell_far nern hs.2.1, cell_far nerd hs.2.2.1, cell_far nerd hs.2.2.2.1, cell_far nerm hs.2.2.2.2.1, cell_far nerm hs.2.2.2.2.2.1, cell_far nerf hs.2.2.2.2.2.2.1, cell_far nerf hs.2.2.2.2.2.2.2⟩
  go_region_held3 (fun w' => w'.cell? ⟨w1.heap.size, 0, none⟩ = some (.bool sp) ∧ w'.cell? ⟨w1.heap.size, 1, none⟩ = some (.slice Ap Lp cp) ∧ w'.cell? ⟨w1.heap.size + 1, 0, none⟩ = some (.bool false) ∧ w'.cell? ⟨w1.heap.size + 1, 1, none⟩ = some (.slice Bp Mp dp) ∧ w'.cell? ⟨w3.heap.size, 0, none⟩ = some (.bool sq) ∧ w'.cell? ⟨w3.heap.size, 1, none⟩ = some (.slice Aq Lq cq) ∧ w'.cell? ⟨w3.heap.size + 1, 0, none⟩ = some (.bool false) ∧ w'.cell? ⟨w3.heap.size + 1, 1, none⟩ = some (.slice Bq Mq dq))
    (((repeat (first | (refine HSr.out _ _ _ ?_))); (refine HK.out _ ?_; (with_reducible repeat' first | exact Ext.refl _ | assumption | apply Ext.alloc_r | apply Ext.drew_r | apply Ext.drewN_r | refine Ext.trans ?_ ‹Ext _ _›))))
    (first
      | (go_at_call 82; have hgd := i; clear hgd; refine (reduce_r (u.zv.ext (by with_reducible repeat' first | exact Ext.refl _ | assumption | apply Ext.alloc_r | apply Ext.drew_r | apply Ext.drewN_r | refine Ext.trans ?_ ‹Ext _ _›)) (i.zv.ext (by with_reducible repeat' first | exact Ext.refl _ | assumption | apply Ext.alloc_r | apply Ext.drew_r | apply Ext.drewN_r | refine Ext.trans ?_ ‹Ext _ _›)) hpos HDN HDD hN2).mono ?_; rintro e w7 ⟨sz, Az, cz, Lz, Bz, dz, Mz, rfl, z, x7⟩; have yl : Ext w4 w7 := (by with_reducible repeat' first | exact Ext.refl _ | assumption | apply Ext.alloc_r | apply Ext.drew_r | apply Ext.drewN_r | refine Ext.trans ?_ ‹Ext _ _›); have cr_0 := (bxr.ext yl).c 0 (.bool false) rfl; have gr_0 := (bxr.ext yl).f 0; have cr_1 := (bxr.ext yl).c 1 (.slice none 0 0) rfl; have gr_1 := (bxr.ext yl).f 1; have cr_2 := (bxr.ext yl).c 2 (.slice none 0 0) rfl; have gr_2 := (bxr.ext yl).f 2)
      | (go_at_call_of 78 (#[Value.agg #[Value.bool false, Value.slice Bp Mp dp], Value.agg #[Value.bool false, Value.slice Bq Mq dq]]); have hgd := u; clear hgd; refine (toP hcast (mul_z (g2.ext (by with_reducible repeat' first | exact Ext.refl _ | assumption | apply Ext.alloc_r | apply Ext.drew_r | apply Ext.drewN_r | refine Ext.trans ?_ ‹Ext _ _›)) (g4.ext (by with_reducible repeat' first | exact Ext.refl _ | assumption | apply Ext.alloc_r | apply Ext.drew_r | apply Ext.drewN_r | refine Ext.trans ?_ ‹Ext _ _›)) (by omega) (by omega))).mono ?_; rintro e w6 ⟨Ai, ci, Li, rfl, i, x6⟩)
      | (go_at_call_of 78 (#[Value.agg #[Value.bool sp, Value.slice Ap Lp cp], Value.agg #[Value.bool sq, Value.slice Aq Lq cq]]); refine (mul_z (g1.ext (by with_reducible repeat' first | exact Ext.refl _ | assumption | apply Ext.alloc_r | apply Ext.drew_r | apply Ext.drewN_r | refine Ext.trans ?_ ‹Ext _ _›)) (g3.ext (by with_reducible repeat' first | exact Ext.refl _ | assumption | apply Ext.alloc_r | apply Ext.drew_r | apply Ext.drewN_r | refine Ext.trans ?_ ‹Ext _ _›)) (by omega) (by omega)).mono ?_; rintro e w5 ⟨su, Au, cu, Lu, rfl, u, x5⟩))
  clear ka_0 ka_1 ka_2 kb_0 kb_1 kb_2 kr_0 fr_0 kr_1 fr_1 kr_2 fr_2 kn_0 kn_1 kd_0 kd_1 km_0 km_1 kf_0 kf_1
  clear HK HSr nern nerd nerm nerf
  clear cr_0 gr_0
  clear cr_1 gr_1
  clear cr_2 gr_2
  clear yl
  have szw5 : w4.heap.size ≤ w5.heap.size := (show Ext w4 w5 from (by with_reducible repeat' first | exact Ext.refl _ | assumption | apply Ext.alloc_r | apply Ext.drew_r | apply Ext.drewN_r | refine Ext.trans ?_ ‹Ext _ _›)).size
  have szw6 : w4.heap.size ≤ w6.heap.size := (show Ext w4 w6 from (by with_reducible repeat' first | exact Ext.refl _ | assumption | apply Ext.alloc_r | apply Ext.drew_r | apply Ext.drewN_r | refine Ext.trans ?_ ‹Ext _ _›)).size
  have xhw7 : Ext w4 w7 := (by with_reducible repeat' first | exact Ext.refl _ | assumption | apply Ext.alloc_r | apply Ext.drew_r | apply Ext.drewN_r | refine Ext.trans ?_ ‹Ext _ _›)
  have szw7 : w4.heap.size ≤ w7.heap.size := xhw7.size
  replace bxa := bxa.ext xhw7
  replace bxb := bxb.ext xhw7
  replace bxr := bxr.ext xhw7
  replace bxn := bxn.ext xhw7
  replace bxd := bxd.ext xhw7
  replace bxm := bxm.ext xhw7
  replace bxf := bxf.ext xhw7
  have HR2 := z.mono (show w.heap.size ≤ _ by omega)
  clear z
  obtain ⟨w8, hw⟩ : ∃ z : World, z = (((w7.setCell ⟨w.heap.size + 1 + 1, 0, none⟩ (.bool sz)).setCell ⟨w.heap.size + 1 + 1, 1, none⟩ (.slice Az Lz cz)).setCell ⟨w.heap.size + 1 + 1, 2, none⟩ (.slice Bz Mz dz)) := ⟨_, rfl⟩
  rw [← hw]
  have kw8 : Kept w7 w8 := by rw [hw]; exact (Kept.set_ (Kept.set_ (Kept.set_ (Kept.refl _) bxr.isBox plain_rat) (IsBox.set_ bxr.isBox) plain_rat) (IsBox.set_ (IsBox.set_ bxr.isBox)) plain_rat)
  have nba : BK w8 (w.heap.size) 27 #[.bool s1, .slice A1 L1 c1, .slice B1 M1 d1] := by rw [hw]; exact (BK.far (BK.far (BK.far bxa (show w.heap.size ≠ w.heap.size + 1 + 1 by omega) 0 _) (show w.heap.size ≠ w.heap.size + 1 + 1 by omega) 1 _) (show w.heap.size ≠ w.heap.size + 1 + 1 by omega) 2 _)
  have nbb : BK w8 (w.heap.size + 1) 27 #[.bool s2, .slice A2 L2 c2, .slice B2 M2 d2] := by rw [hw]; exact (BK.far (BK.far (BK.far bxb (show w.heap.size + 1 ≠ w.heap.size + 1 + 1 by omega) 0 _) (show w.heap.size + 1 ≠ w.heap.size + 1 + 1 by omega) 1 _) (show w.heap.size + 1 ≠ w.heap.size + 1 + 1 by omega) 2 _)
  have nbr : BK w8 (w.heap.size + 1 + 1) 27 #[.bool sz, .slice Az Lz cz, .slice Bz Mz dz] := by rw [hw]; exact (BK.set (i := 2) (u := .slice Bz Mz dz) (vs' := #[.bool sz, .slice Az Lz cz, .slice Bz Mz dz]) (BK.set (i := 1) (u := .slice Az Lz cz) (vs' := #[.bool sz, .slice Az Lz cz, .slice none 0 0]) (BK.set (i := 0) (u := .bool sz) (vs' := #[.bool sz, .slice none 0 0, .slice none 0 0]) bxr rfl) rfl) rfl)
  have nbn : BK w8 (w1.heap.size) 25 #[.bool sp, .slice Ap Lp cp] := by rw [hw]; exact (BK.far (BK.far (BK.far bxn (show w1.heap.size ≠ w.heap.size + 1 + 1 by omega) 0 _) (show w1.heap.size ≠ w.heap.size + 1 + 1 by omega) 1 _) (show w1.heap.size ≠ w.heap.size + 1 + 1 by omega) 2 _)
  have nbd : BK w8 (w1.heap.size + 1) 25 #[.bool false, .slice Bp Mp dp] := by rw [hw]; exact (BK.far (BK.far (BK.far bxd (show w1.heap.size + 1 ≠ w.heap.size + 1 + 1 by omega) 0 _) (show w1.heap.size + 1 ≠ w.heap.size + 1 + 1 by omega) 1 _) (show w1.heap.size + 1 ≠ w.heap.size + 1 + 1 by omega) 2 _)
  have nbm : BK w8 (w3.heap.size) 25 #[.bool sq, .slice Aq Lq cq] := by rw [hw]; exact (BK.far (BK.far (BK.far bxm (show w3.heap.size ≠ w.heap.size + 1 + 1 by omega) 0 _) (show w3.heap.size ≠ w.heap.size + 1 + 1 by omega) 1 _) (show w3.heap.size ≠ w.heap.size + 1 + 1 by omega) 2 _)
  have nbf : BK w8 (w3.heap.size + 1) 25 #[.bool false, .slice Bq Mq dq] := by rw [hw]; exact (BK.far (BK.far (BK.far bxf (show w3.heap.size + 1 ≠ w.heap.size + 1 + 1 by omega) 0 _) (show w3.heap.size + 1 ≠ w.heap.size + 1 + 1 by omega) 1 _) (show w3.heap.size + 1 ≠ w.heap.size + 1 + 1 by omega) 2 _)
  have x8 : Ext w w8 := by rw [hw]; have hxp : Ext w w7 := (by with_reducible repeat' first | exact Ext.refl _ | assumption | apply Ext.alloc_r | apply Ext.drew_r | apply Ext.drewN_r | refine Ext.trans ?_ ‹Ext _ _›); exact (Ext.set_ (Ext.set_ (Ext.set_ hxp (show _ ≤ w.heap.size + 1 + 1 by omega)) (show _ ≤ w.heap.size + 1 + 1 by omega)) (show _ ≤ w.heap.size + 1 + 1 by omega))
  clear bxa
  clear bxb
  clear bxr
  clear bxn
  clear bxd
  clear bxm
  clear bxf
  have bxa := nba
  clear nba
  have bxb := nbb
  clear nbb
  have bxr := nbr
  clear nbr
  have bxn := nbn
  clear nbn
  have bxd := nbd
  clear nbd
  have bxm := nbm
  clear nbm
  have bxf := nbf
  clear nbf
  have szw8 : w8.heap.size = w7.heap.size := by rw [hw]; simp
  replace HR2 := (HR2.ext (by with_reducible repeat' first | exact Ext.refl _ | assumption | apply Ext.alloc_r | apply Ext.drew_r | apply Ext.drewN_r | refine Ext.trans ?_ ‹Ext _ _›)).kept kw8
  clear hw kw8
  have HRO := Lib.hid HR2
  clear HR2
  have ka_0 := bxa.c 0 (.bool s1) rfl
  have ka_1 := bxa.c 1 (.slice A1 L1 c1) rfl
  have ka_2 := bxa.c 2 (.slice B1 M1 d1) rfl
  have kb_0 := bxb.c 0 (.bool s2) rfl
  have kb_1 := bxb.c 1 (.slice A2 L2 c2) rfl
  have kb_2 := bxb.c 2 (.slice B2 M2 d2) rfl
  have kr_0 := bxr.c 0 (.bool sz) rfl
  have kr_1 := bxr.c 1 (.slice Az Lz cz) rfl
  have kr_2 := bxr.c 2 (.slice Bz Mz dz) rfl
  have kn_0 := bxn.c 0 (.bool sp) rfl
  have kn_1 := bxn.c 1 (.slice Ap Lp cp) rfl
  have kd_0 := bxd.c 0 (.bool false) rfl
  have kd_1 := bxd.c 1 (.slice Bp Mp dp) rfl
  have km_0 := bxm.c 0 (.bool sq) rfl
  have km_1 := bxm.c 1 (.slice Aq Lq cq) rfl
  have kf_0 := bxf.c 0 (.bool false) rfl
  have kf_1 := bxf.c 1 (.slice Bq Mq dq) rfl
  go_wp2_with fail
  clear ka_0 ka_1 ka_2 kb_0 kb_1 kb_2 kr_0 kr_1 kr_2 kn_0 kn_1 kd_0 kd_1 km_0 km_1 kf_0 kf_1
  have kr_0 := bxr.c 0 (.bool sz) rfl
  have kr_1 := bxr.c 1 (.slice Az Lz cz) rfl
  have kr_2 := bxr.c 2 (.slice Bz Mz dz) rfl
  refine bodyPost_ret (v := .agg #[.bool sz, .slice Az Lz cz, .slice Bz Mz dz]) (by simp [results, Tryz.results59, go_sem, kr_0, kr_1, kr_2]) rfl ?_
  exact ⟨_, _, _, _, _, _, _, rfl, (by rw [HQ.out]; exact HRO.out), x8⟩
set_option maxHeartbeats 4000000 in
set_option maxRecDepth 100000 in
theorem rnormal_r {w : World} {s1 : Bool} {A1 B1 : Option Addr} {c1 d1 L1 M1 N1 : Nat} {q1 : Rat} (h1 : RV w s1 A1 c1 L1 B1 d1 M1 N1 q1) (hN : N1 ≤ 1000000) :
    Calls Tryz.prog 62 #[Value.agg #[.bool s1, .slice A1 L1 c1, .slice B1 M1 d1]] w (RetR w N1 q1) := by
  go_enter Tryz.func62, Tryz.ntmps62
  go_wp2_with fail
  obtain ⟨w0, hw0⟩ : ∃ z : World, z = ((w.alloc (.cells #[.bool s1, .slice A1 L1 c1, .slice B1 M1 d1] 27)).alloc (.cells #[.bool false, .slice none 0 0, .slice none 0 0] 27)) := ⟨_, rfl⟩
  rw [← hw0]
  have bxa : BK w0 (w.heap.size) 27 #[.bool s1, .slice A1 L1 c1, .slice B1 M1 d1] := by rw [hw0]; have h5 := (BK.ext (BK.new w #[.bool s1, .slice A1 L1 c1, .slice B1 M1 d1] 27) (Ext.alloc _ (.cells #[.bool false, .slice none 0 0, .slice none 0 0] 27))); simpa only [World.size_alloc] using h5
  have bxr : BK w0 (w.heap.size + 1) 27 #[.bool false, .slice none 0 0, .slice none 0 0] := by rw [hw0]; have h5 := (BK.new (w.alloc (.cells #[.bool s1, .slice A1 L1 c1, .slice B1 M1 d1] 27)) #[.bool false, .slice none 0 0, .slice none 0 0] 27); simpa only [World.size_alloc] using h5
  have hszw0 : w0.heap.size = w.heap.size + 1 + 1 := by rw [hw0]; simp only [World.size_alloc]
  have xw0 : Ext w w0 := by rw [hw0]; exact ((Ext.alloc _ _).trans (Ext.alloc _ _))
  clear hw0
  refine (parts_r (h1.ext (by with_reducible repeat' first | exact Ext.refl _ | assumption | apply Ext.alloc_r | apply Ext.drew_r | apply Ext.drewN_r | refine Ext.trans ?_ ‹Ext _ _›))).mono ?_
  rintro e w1 ⟨xp, yp, sp, Ap, cp, Lp, Bp, dp, Mp, rfl, p1, p2, p3, p4, p5, p6, x1⟩
  have szw1 : w0.heap.size ≤ w1.heap.size := x1.size
  replace bxa := bxa.ext x1
  replace bxr := bxr.ext x1
  have HQ := Lib.hid p4
  have hred := reduce_r (w := w1) p1 p2 p3 p5 p6 hN
  clear p1 p2 p4
  have ka_0 := bxa.c 0 (.bool s1) rfl
  have ka_1 := bxa.c 1 (.slice A1 L1 c1) rfl
  have ka_2 := bxa.c 2 (.slice B1 M1 d1) rfl
  have kr_0 := bxr.c 0 (.bool false) rfl
  have kr_1 := bxr.c 1 (.slice none 0 0) rfl
  have kr_2 := bxr.c 2 (.slice none 0 0) rfl
  go_wp2_with fail
  clear ka_0 ka_1 ka_2 kr_0 kr_1 kr_2
  refine (hred).mono ?_
  rintro e w2 ⟨sz, Az, cz, Lz, Bz, dz, Mz, rfl, z, x2⟩
  have szw2 : w1.heap.size ≤ w2.heap.size := x2.size
  replace bxa := bxa.ext x2
  replace bxr := bxr.ext x2
  clear hred
  have ka_0 := bxa.c 0 (.bool s1) rfl
  have ka_1 := bxa.c 1 (.slice A1 L1 c1) rfl
  have ka_2 := bxa.c 2 (.slice B1 M1 d1) rfl
  have kr_0 := bxr.c 0 (.bool false) rfl
  have fr_0 := bxr.f 0
  have kr_1 := bxr.c 1 (.slice none 0 0) rfl
  have fr_1 := bxr.f 1
  have kr_2 := bxr.c 2 (.slice none 0 0) rfl
  have fr_2 := bxr.f 2
  go_wp2_with fail
  clear ka_0 ka_1 ka_2 kr_0 fr_0 kr_1 fr_1 kr_2 fr_2
  have HR2 := z.mono (show w.heap.size ≤ _ by omega)
  clear z
  obtain ⟨w3, hw⟩ : ∃ z : World, z = (((w2.setCell ⟨w.heap.size + 1, 0, none⟩ (.bool sz)).setCell ⟨w.heap.size + 1, 1, none⟩ (.slice Az Lz cz)).setCell ⟨w.heap.size + 1, 2, none⟩ (.slice Bz Mz dz)) := ⟨_, rfl⟩
  rw [← hw]
  have kw3 : Kept w2 w3 := by rw [hw]; exact (Kept.set_ (Kept.set_ (Kept.set_ (Kept.refl _) bxr.isBox plain_rat) (IsBox.set_ bxr.isBox) plain_rat) (IsBox.set_ (IsBox.set_ bxr.isBox)) plain_rat)
  have nba : BK w3 (w.heap.size) 27 #[.bool s1, .slice A1 L1 c1, .slice B1 M1 d1] := by rw [hw]; exact (BK.far (BK.far (BK.far bxa (show w.heap.size ≠ w.heap.size + 1 by omega) 0 _) (show w.heap.size ≠ w.heap.size + 1 by omega) 1 _) (show w.heap.size ≠ w.heap.size + 1 by omega) 2 _)
  have nbr : BK w3 (w.heap.size + 1) 27 #[.bool sz, .slice Az Lz cz, .slice Bz Mz dz] := by rw [hw]; exact (BK.set (i := 2) (u := .slice Bz Mz dz) (vs' := #[.bool sz, .slice Az Lz cz, .slice Bz Mz dz]) (BK.set (i := 1) (u := .slice Az Lz cz) (vs' := #[.bool sz, .slice Az Lz cz, .slice none 0 0]) (BK.set (i := 0) (u := .bool sz) (vs' := #[.bool sz, .slice none 0 0, .slice none 0 0]) bxr rfl) rfl) rfl)
  have x3 : Ext w w3 := by rw [hw]; have hxp : Ext w w2 := (by with_reducible repeat' first | exact Ext.refl _ | assumption | apply Ext.alloc_r | apply Ext.drew_r | apply Ext.drewN_r | refine Ext.trans ?_ ‹Ext _ _›); exact (Ext.set_ (Ext.set_ (Ext.set_ hxp (show _ ≤ w.heap.size + 1 by omega)) (show _ ≤ w.heap.size + 1 by omega)) (show _ ≤ w.heap.size + 1 by omega))
  clear bxa
  clear bxr
  have bxa := nba
  clear nba
  have bxr := nbr
  clear nbr
  have szw3 : w3.heap.size = w2.heap.size := by rw [hw]; simp
  replace HR2 := (HR2.ext (by with_reducible repeat' first | exact Ext.refl _ | assumption | apply Ext.alloc_r | apply Ext.drew_r | apply Ext.drewN_r | refine Ext.trans ?_ ‹Ext _ _›)).kept kw3
  clear hw kw3
  have HRO := Lib.hid HR2
  clear HR2
  have ka_0 := bxa.c 0 (.bool s1) rfl
  have ka_1 := bxa.c 1 (.slice A1 L1 c1) rfl
  have ka_2 := bxa.c 2 (.slice B1 M1 d1) rfl
  have kr_0 := bxr.c 0 (.bool sz) rfl
  have kr_1 := bxr.c 1 (.slice Az Lz cz) rfl
  have kr_2 := bxr.c 2 (.slice Bz Mz dz) rfl
  go_wp2_with fail
  clear ka_0 ka_1 ka_2 kr_0 kr_1 kr_2
  have kr_0 := bxr.c 0 (.bool sz) rfl
  have kr_1 := bxr.c 1 (.slice Az Lz cz) rfl
  have kr_2 := bxr.c 2 (.slice Bz Mz dz) rfl
  refine bodyPost_ret (v := .agg #[.bool sz, .slice Az Lz cz, .slice Bz Mz dz]) (by simp [results, Tryz.results62, go_sem, kr_0, kr_1, kr_2]) rfl ?_
  exact ⟨_, _, _, _, _, _, _, rfl, (by rw [HQ.out]; exact HRO.out), x3⟩
set_option maxHeartbeats 4000000 in
set_option maxRecDepth 100000 in
theorem rsign_r {w : World} {s1 : Bool} {A1 B1 : Option Addr} {c1 d1 L1 M1 N1 : Nat} {q1 : Rat} (h1 : RV w s1 A1 c1 L1 B1 d1 M1 N1 q1) :
    Calls Tryz.prog 48 #[Value.agg #[.bool s1, .slice A1 L1 c1, .slice B1 M1 d1]] w fun e w' => e = .returned (.int .i64 q1.num.sign) ∧ Ext w w' := by
  go_enter Tryz.func48, Tryz.ntmps48
  go_wp2_with fail
  obtain ⟨w0, hw0⟩ : ∃ z : World, z = (w.alloc (.cells #[.bool s1, .slice A1 L1 c1, .slice B1 M1 d1] 27)) := ⟨_, rfl⟩
  rw [← hw0]
  have bxa : BK w0 (w.heap.size) 27 #[.bool s1, .slice A1 L1 c1, .slice B1 M1 d1] := by rw [hw0]; have h5 := (BK.new w #[.bool s1, .slice A1 L1 c1, .slice B1 M1 d1] 27); simpa only [World.size_alloc] using h5
  have hszw0 : w0.heap.size = w.heap.size + 1 := by rw [hw0]; simp only [World.size_alloc]
  have xw0 : Ext w w0 := by rw [hw0]; exact (Ext.alloc _ _)
  clear hw0
  refine (parts_r (h1.ext (by with_reducible repeat' first | exact Ext.refl _ | assumption | apply Ext.alloc_r | apply Ext.drew_r | apply Ext.drewN_r | refine Ext.trans ?_ ‹Ext _ _›))).mono ?_
  rintro e w1 ⟨xp, yp, sp, Ap, cp, Lp, Bp, dp, Mp, rfl, p1, p2, p3, p4, p5, p6, x1⟩
  have szw1 : w0.heap.size ≤ w1.heap.size := x1.size
  replace bxa := bxa.ext x1
  have HP := Lib.hid p1
  have HS : Hid (q1.num.sign = xp.sign) := by show _ = _; rw [p4]; exact rat_sign p3
  clear p1 p2 p4
  have ka_0 := bxa.c 0 (.bool s1) rfl
  have ka_1 := bxa.c 1 (.slice A1 L1 c1) rfl
  have ka_2 := bxa.c 2 (.slice B1 M1 d1) rfl
  have t1a_0 := fun (o0 : Obj) => ((Ext.alloc w1 o0).cell (bxa.c 0 (.bool s1) rfl))
  have t2a_0 := fun (o0 : Obj) (o1 : Obj) => ((Ext.alloc (w1.alloc o0) o1).cell ((Ext.alloc w1 o0).cell (bxa.c 0 (.bool s1) rfl)))
  have t1a_1 := fun (o0 : Obj) => ((Ext.alloc w1 o0).cell (bxa.c 1 (.slice A1 L1 c1) rfl))
  have t2a_1 := fun (o0 : Obj) (o1 : Obj) => ((Ext.alloc (w1.alloc o0) o1).cell ((Ext.alloc w1 o0).cell (bxa.c 1 (.slice A1 L1 c1) rfl)))
  have t1a_2 := fun (o0 : Obj) => ((Ext.alloc w1 o0).cell (bxa.c 2 (.slice B1 M1 d1) rfl))
  have t2a_2 := fun (o0 : Obj) (o1 : Obj) => ((Ext.alloc (w1.alloc o0) o1).cell ((Ext.alloc w1 o0).cell (bxa.c 2 (.slice B1 M1 d1) rfl)))
  go_wp2_with fail
  clear ka_0 ka_1 ka_2 t1a_0 t2a_0 t1a_1 t2a_1 t1a_2 t2a_2
  obtain ⟨w2, hw⟩ : ∃ z : World, z = ((w1.alloc (.cells #[.bool sp, .slice Ap Lp cp] 25)).alloc (.cells #[.bool false, .slice Bp Mp dp] 25)) := ⟨_, rfl⟩
  rw [← hw]
  have x2 : Ext w1 w2 := by rw [hw]; exact ((Ext.alloc _ _).trans (Ext.alloc _ _))
  replace bxa := bxa.ext x2
  have bxn : BK w2 (w1.heap.size) 25 #[.bool sp, .slice Ap Lp cp] := by rw [hw]; have h5 := (BK.ext (BK.new w1 #[.bool sp, .slice Ap Lp cp] 25) (Ext.alloc _ (.cells #[.bool false, .slice Bp Mp dp] 25))); simpa only [World.size_alloc] using h5
  have bxd : BK w2 (w1.heap.size + 1) 25 #[.bool false, .slice Bp Mp dp] := by rw [hw]; have h5 := (BK.new (w1.alloc (.cells #[.bool sp, .slice Ap Lp cp] 25)) #[.bool false, .slice Bp Mp dp] 25); simpa only [World.size_alloc] using h5
  have szw2 : w2.heap.size = w1.heap.size + 1 + 1 := by rw [hw]; simp only [World.size_alloc]
  clear hw
  refine (sign_is (HP.out.ext (by with_reducible repeat' first | exact Ext.refl _ | assumption | apply Ext.alloc_r | apply Ext.drew_r | apply Ext.drewN_r | refine Ext.trans ?_ ‹Ext _ _›)) HS.out.symm).mono ?_
  rintro e w3 ⟨rfl, x3⟩
  have szw3 : w2.heap.size ≤ w3.heap.size := x3.size
  replace bxa := bxa.ext x3
  replace bxn := bxn.ext x3
  replace bxd := bxd.ext x3
  have x0w : Ext w w3 := (by with_reducible repeat' first | exact Ext.refl _ | assumption | apply Ext.alloc_r | apply Ext.drew_r | apply Ext.drewN_r | refine Ext.trans ?_ ‹Ext _ _›)
  clear h1 HP HS
  have ka_0 := bxa.c 0 (.bool s1) rfl
  have ka_1 := bxa.c 1 (.slice A1 L1 c1) rfl
  have ka_2 := bxa.c 2 (.slice B1 M1 d1) rfl
  have kn_0 := bxn.c 0 (.bool sp) rfl
  have kn_1 := bxn.c 1 (.slice Ap Lp cp) rfl
  have kd_0 := bxd.c 0 (.bool false) rfl
  have kd_1 := bxd.c 1 (.slice Bp Mp dp) rfl
  go_wp2_with fail
  clear ka_0 ka_1 ka_2 kn_0 kn_1 kd_0 kd_1
  go_ret
  exact ⟨rfl, x0w⟩
set_option maxHeartbeats 4000000 in
set_option maxRecDepth 100000 in
theorem rcmp_r {w : World} {s1 s2 : Bool} {A1 A2 B1 B2 : Option Addr} {c1 c2 d1 d2 L1 L2 M1 M2 N1 N2 : Nat} {q1 q2 : Rat} (h1 : RV w s1 A1 c1 L1 B1 d1 M1 N1 q1) (h2 : RV w s2 A2 c2 L2 B2 d2 M2 N2 q2) (hN : N1 + N2 + 1 ≤ 1000000) (hm : min N1 N2 < 48) :
    Calls Tryz.prog 66 #[Value.agg #[.bool s1, .slice A1 L1 c1, .slice B1 M1 d1], Value.agg #[.bool s2, .slice A2 L2 c2, .slice B2 M2 d2]] w fun e w' => e = .returned (.int .i64 (cmpQ q1 q2)) ∧ Ext w w' := by
  go_enter Tryz.func66, Tryz.ntmps66
  go_wp2_with fail
  obtain ⟨w0, hw0⟩ : ∃ z : World, z = ((w.alloc (.cells #[.bool s1, .slice A1 L1 c1, .slice B1 M1 d1] 27)).alloc (.cells #[.bool s2, .slice A2 L2 c2, .slice B2 M2 d2] 27)) := ⟨_, rfl⟩
  rw [← hw0]
  have bxa : BK w0 (w.heap.size) 27 #[.bool s1, .slice A1 L1 c1, .slice B1 M1 d1] := by rw [hw0]; have h5 := (BK.ext (BK.new w #[.bool s1, .slice A1 L1 c1, .slice B1 M1 d1] 27) (Ext.alloc _ (.cells #[.bool s2, .slice A2 L2 c2, .slice B2 M2 d2] 27))); simpa only [World.size_alloc] using h5
  have bxb : BK w0 (w.heap.size + 1) 27 #[.bool s2, .slice A2 L2 c2, .slice B2 M2 d2] := by rw [hw0]; have h5 := (BK.new (w.alloc (.cells #[.bool s1, .slice A1 L1 c1, .slice B1 M1 d1] 27)) #[.bool s2, .slice A2 L2 c2, .slice B2 M2 d2] 27); simpa only [World.size_alloc] using h5
  have hszw0 : w0.heap.size = w.heap.size + 1 + 1 := by rw [hw0]; simp only [World.size_alloc]
  have xw0 : Ext w w0 := by rw [hw0]; exact ((Ext.alloc _ _).trans (Ext.alloc _ _))
  clear hw0
  have e1 := h1.ext xw0
  have e2 := h2.ext xw0
  clear h1 h2
  refine (parts_r (e1.ext (by with_reducible repeat' first | exact Ext.refl _ | assumption | apply Ext.alloc_r | apply Ext.drew_r | apply Ext.drewN_r | refine Ext.trans ?_ ‹Ext _ _›))).mono ?_
  rintro e w1 ⟨xp, yp, sp, Ap, cp, Lp, Bp, dp, Mp, rfl, p1, p2, p3, p4, p5, p6, x1⟩
  have szw1 : w0.heap.size ≤ w1.heap.size := x1.size
  replace bxa := bxa.ext x1
  replace bxb := bxb.ext x1
  have Hp := Lib.hid (And.intro p1 p2)
  clear p1 p2
  have ka_0 := bxa.c 0 (.bool s1) rfl
  have ka_1 := bxa.c 1 (.slice A1 L1 c1) rfl
  have ka_2 := bxa.c 2 (.slice B1 M1 d1) rfl
  have kb_0 := bxb.c 0 (.bool s2) rfl
  have kb_1 := bxb.c 1 (.slice A2 L2 c2) rfl
  have kb_2 := bxb.c 2 (.slice B2 M2 d2) rfl
  have t1a_0 := fun (o0 : Obj) => ((Ext.alloc w1 o0).cell (bxa.c 0 (.bool s1) rfl))
  have t2a_0 := fun (o0 : Obj) (o1 : Obj) => ((Ext.alloc (w1.alloc o0) o1).cell ((Ext.alloc w1 o0).cell (bxa.c 0 (.bool s1) rfl)))
  have t1a_1 := fun (o0 : Obj) => ((Ext.alloc w1 o0).cell (bxa.c 1 (.slice A1 L1 c1) rfl))
  have t2a_1 := fun (o0 : Obj) (o1 : Obj) => ((Ext.alloc (w1.alloc o0) o1).cell ((Ext.alloc w1 o0).cell (bxa.c 1 (.slice A1 L1 c1) rfl)))
  have t1a_2 := fun (o0 : Obj) => ((Ext.alloc w1 o0).cell (bxa.c 2 (.slice B1 M1 d1) rfl))
  have t2a_2 := fun (o0 : Obj) (o1 : Obj) => ((Ext.alloc (w1.alloc o0) o1).cell ((Ext.alloc w1 o0).cell (bxa.c 2 (.slice B1 M1 d1) rfl)))
  have t1b_0 := fun (o0 : Obj) => ((Ext.alloc w1 o0).cell (bxb.c 0 (.bool s2) rfl))
  have t2b_0 := fun (o0 : Obj) (o1 : Obj) => ((Ext.alloc (w1.alloc o0) o1).cell ((Ext.alloc w1 o0).cell (bxb.c 0 (.bool s2) rfl)))
  have t1b_1 := fun (o0 : Obj) => ((Ext.alloc w1 o0).cell (bxb.c 1 (.slice A2 L2 c2) rfl))
  have t2b_1 := fun (o0 : Obj) (o1 : Obj) => ((Ext.alloc (w1.alloc o0) o1).cell ((Ext.alloc w1 o0).cell (bxb.c 1 (.slice A2 L2 c2) rfl)))
  have t1b_2 := fun (o0 : Obj) => ((Ext.alloc w1 o0).cell (bxb.c 2 (.slice B2 M2 d2) rfl))
  have t2b_2 := fun (o0 : Obj) (o1 : Obj) => ((Ext.alloc (w1.alloc o0) o1).cell ((Ext.alloc w1 o0).cell (bxb.c 2 (.slice B2 M2 d2) rfl)))
  go_wp2_with fail
  clear ka_0 ka_1 ka_2 kb_0 kb_1 kb_2 t1a_0 t2a_0 t1a_1 t2a_1 t1a_2 t2a_2 t1b_0 t2b_0 t1b_1 t2b_1 t1b_2 t2b_2
  obtain ⟨w2, hw⟩ : ∃ z : World, z = ((w1.alloc (.cells #[.bool sp, .slice Ap Lp cp] 25)).alloc (.cells #[.bool false, .slice Bp Mp dp] 25)) := ⟨_, rfl⟩
  rw [← hw]
  have x2 : Ext w1 w2 := by rw [hw]; exact ((Ext.alloc _ _).trans (Ext.alloc _ _))
  replace bxa := bxa.ext x2
  replace bxb := bxb.ext x2
  have bxn : BK w2 (w1.heap.size) 25 #[.bool sp, .slice Ap Lp cp] := by rw [hw]; have h5 := (BK.ext (BK.new w1 #[.bool sp, .slice Ap Lp cp] 25) (Ext.alloc _ (.cells #[.bool false, .slice Bp Mp dp] 25))); simpa only [World.size_alloc] using h5
  have bxd : BK w2 (w1.heap.size + 1) 25 #[.bool false, .slice Bp Mp dp] := by rw [hw]; have h5 := (BK.new (w1.alloc (.cells #[.bool sp, .slice Ap Lp cp] 25)) #[.bool false, .slice Bp Mp dp] 25); simpa only [World.size_alloc] using h5
  have szw2 : w2.heap.size = w1.heap.size + 1 + 1 := by rw [hw]; simp only [World.size_alloc]
  clear hw
  refine (parts_r (e2.ext (by with_reducible repeat' first | exact Ext.refl _ | assumption | apply Ext.alloc_r | apply Ext.drew_r | apply Ext.drewN_r | refine Ext.trans ?_ ‹Ext _ _›))).mono ?_
  rintro e w3 ⟨xq, yq, sq, Aq, cq, Lq, Bq, dq, Mq, rfl, q1, q2, q3, q4, q5, q6, x3⟩
  have szw3 : w2.heap.size ≤ w3.heap.size := x3.size
  replace bxa := bxa.ext x3
  replace bxb := bxb.ext x3
  replace bxn := bxn.ext x3
  replace bxd := bxd.ext x3
  have Hq := Lib.hid (And.intro q1 q2)
  clear q1 q2
  have ka_0 := bxa.c 0 (.bool s1) rfl
  have ka_1 := bxa.c 1 (.slice A1 L1 c1) rfl
  have ka_2 := bxa.c 2 (.slice B1 M1 d1) rfl
  have kb_0 := bxb.c 0 (.bool s2) rfl
  have kb_1 := bxb.c 1 (.slice A2 L2 c2) rfl
  have kb_2 := bxb.c 2 (.slice B2 M2 d2) rfl
  have kn_0 := bxn.c 0 (.bool sp) rfl
  have kn_1 := bxn.c 1 (.slice Ap Lp cp) rfl
  have kd_0 := bxd.c 0 (.bool false) rfl
  have kd_1 := bxd.c 1 (.slice Bp Mp dp) rfl
  have t1a_0 := fun (o0 : Obj) => ((Ext.alloc w3 o0).cell (bxa.c 0 (.bool s1) rfl))
  have t2a_0 := fun (o0 : Obj) (o1 : Obj) => ((Ext.alloc (w3.alloc o0) o1).cell ((Ext.alloc w3 o0).cell (bxa.c 0 (.bool s1) rfl)))
  have t1a_1 := fun (o0 : Obj) => ((Ext.alloc w3 o0).cell (bxa.c 1 (.slice A1 L1 c1) rfl))
  have t2a_1 := fun (o0 : Obj) (o1 : Obj) => ((Ext.alloc (w3.alloc o0) o1).cell ((Ext.alloc w3 o0).cell (bxa.c 1 (.slice A1 L1 c1) rfl)))
  have t1a_2 := fun (o0 : Obj) => ((Ext.alloc w3 o0).cell (bxa.c 2 (.slice B1 M1 d1) rfl))
  have t2a_2 := fun (o0 : Obj) (o1 : Obj) => ((Ext.alloc (w3.alloc o0) o1).cell ((Ext.alloc w3 o0).cell (bxa.c 2 (.slice B1 M1 d1) rfl)))
  have t1b_0 := fun (o0 : Obj) => ((Ext.alloc w3 o0).cell (bxb.c 0 (.bool s2) rfl))
  have t2b_0 := fun (o0 : Obj) (o1 : Obj) => ((Ext.alloc (w3.alloc o0) o1).cell ((Ext.alloc w3 o0).cell (bxb.c 0 (.bool s2) rfl)))
  have t1b_1 := fun (o0 : Obj) => ((Ext.alloc w3 o0).cell (bxb.c 1 (.slice A2 L2 c2) rfl))
  have t2b_1 := fun (o0 : Obj) (o1 : Obj) => ((Ext.alloc (w3.alloc o0) o1).cell ((Ext.alloc w3 o0).cell (bxb.c 1 (.slice A2 L2 c2) rfl)))
  have t1b_2 := fun (o0 : Obj) => ((Ext.alloc w3 o0).cell (bxb.c 2 (.slice B2 M2 d2) rfl))
  have t2b_2 := fun (o0 : Obj) (o1 : Obj) => ((Ext.alloc (w3.alloc o0) o1).cell ((Ext.alloc w3 o0).cell (bxb.c 2 (.slice B2 M2 d2) rfl)))
  have t1n_0 := fun (o0 : Obj) => ((Ext.alloc w3 o0).cell (bxn.c 0 (.bool sp) rfl))
  have t2n_0 := fun (o0 : Obj) (o1 : Obj) => ((Ext.alloc (w3.alloc o0) o1).cell ((Ext.alloc w3 o0).cell (bxn.c 0 (.bool sp) rfl)))
  have t1n_1 := fun (o0 : Obj) => ((Ext.alloc w3 o0).cell (bxn.c 1 (.slice Ap Lp cp) rfl))
  have t2n_1 := fun (o0 : Obj) (o1 : Obj) => ((Ext.alloc (w3.alloc o0) o1).cell ((Ext.alloc w3 o0).cell (bxn.c 1 (.slice Ap Lp cp) rfl)))
  have t1d_0 := fun (o0 : Obj) => ((Ext.alloc w3 o0).cell (bxd.c 0 (.bool false) rfl))
  have t2d_0 := fun (o0 : Obj) (o1 : Obj) => ((Ext.alloc (w3.alloc o0) o1).cell ((Ext.alloc w3 o0).cell (bxd.c 0 (.bool false) rfl)))
  have t1d_1 := fun (o0 : Obj) => ((Ext.alloc w3 o0).cell (bxd.c 1 (.slice Bp Mp dp) rfl))
  have t2d_1 := fun (o0 : Obj) (o1 : Obj) => ((Ext.alloc (w3.alloc o0) o1).cell ((Ext.alloc w3 o0).cell (bxd.c 1 (.slice Bp Mp dp) rfl)))
  go_wp2_with fail
  clear ka_0 ka_1 ka_2 kb_0 kb_1 kb_2 kn_0 kn_1 kd_0 kd_1 t1a_0 t2a_0 t1a_1 t2a_1 t1a_2 t2a_2 t1b_0 t2b_0 t1b_1 t2b_1 t1b_2 t2b_2 t1n_0 t2n_0 t1n_1 t2n_1 t1d_0 t2d_0 t1d_1 t2d_1
  obtain ⟨w4, hw⟩ : ∃ z : World, z = ((w3.alloc (.cells #[.bool sq, .slice Aq Lq cq] 25)).alloc (.cells #[.bool false, .slice Bq Mq dq] 25)) := ⟨_, rfl⟩
  rw [← hw]
  have x4 : Ext w3 w4 := by rw [hw]; exact ((Ext.alloc _ _).trans (Ext.alloc _ _))
  replace bxa := bxa.ext x4
  replace bxb := bxb.ext x4
  replace bxn := bxn.ext x4
  replace bxd := bxd.ext x4
  have bxm : BK w4 (w3.heap.size) 25 #[.bool sq, .slice Aq Lq cq] := by rw [hw]; have h5 := (BK.ext (BK.new w3 #[.bool sq, .slice Aq Lq cq] 25) (Ext.alloc _ (.cells #[.bool false, .slice Bq Mq dq] 25))); simpa only [World.size_alloc] using h5
  have bxf : BK w4 (w3.heap.size + 1) 25 #[.bool false, .slice Bq Mq dq] := by rw [hw]; have h5 := (BK.new (w3.alloc (.cells #[.bool sq, .slice Aq Lq cq] 25)) #[.bool false, .slice Bq Mq dq] 25); simpa only [World.size_alloc] using h5
  have szw4 : w4.heap.size = w3.heap.size + 1 + 1 := by rw [hw]; simp only [World.size_alloc]
  clear hw
  have g1 := Hp.out.1
  have g2 := Hp.out.2
  have g3 := Hq.out.1
  have g4 := Hq.out.2
  clear e1 e2
  have hz1 := dlz_mul xp (yq : Int)
  have hz2 := dlz_mul xq (yp : Int)
  have hz3 := dl_mul yp yq
  rw [Int.natAbs_natCast] at hz1 hz2
  have k1 : dl ((yp : Int)).natAbs = dl yp := by rw [Int.natAbs_natCast]
  have k2 : dl ((yq : Int)).natAbs = dl yq := by rw [Int.natAbs_natCast]
  have HQ : Hid (cmpZ (xp * yq) (xq * yp) = cmpQ q1 q2) := by show _ = _; rw [p4, q4]; exact cmpQ_mk p3 q3
  clear p4 q4
  have ka_0 := bxa.c 0 (.bool s1) rfl
  have ka_1 := bxa.c 1 (.slice A1 L1 c1) rfl
  have ka_2 := bxa.c 2 (.slice B1 M1 d1) rfl
  have kb_0 := bxb.c 0 (.bool s2) rfl
  have kb_1 := bxb.c 1 (.slice A2 L2 c2) rfl
  have kb_2 := bxb.c 2 (.slice B2 M2 d2) rfl
  have kn_0 := bxn.c 0 (.bool sp) rfl
  have kn_1 := bxn.c 1 (.slice Ap Lp cp) rfl
  have kd_0 := bxd.c 0 (.bool false) rfl
  have kd_1 := bxd.c 1 (.slice Bp Mp dp) rfl
  have km_0 := bxm.c 0 (.bool sq) rfl
  have km_1 := bxm.c 1 (.slice Aq Lq cq) rfl
  have kf_0 := bxf.c 0 (.bool false) rfl
  have kf_1 := bxf.c 1 (.slice Bq Mq dq) rfl
  go_wp2_with fail
  have HK : Hid (∀ w', Ext w4 w' → (w'.cell? ⟨w1.heap.size, 0, none⟩ = some (.bool sp) ∧ w'.cell? ⟨w1.heap.size, 1, none⟩ = some (.slice Ap Lp cp) ∧ w'.cell? ⟨w1.heap.size + 1, 0, none⟩ = some (.bool false) ∧ w'.cell? ⟨w1.heap.size + 1, 1, none⟩ = some (.slice Bp Mp dp) ∧ w'.cell? ⟨w3.heap.size, 0, none⟩ = some (.bool sq) ∧ w'.cell? ⟨w3.heap.size, 1, none⟩ = some (.slice Aq Lq cq) ∧ w'.cell? ⟨w3.heap.size + 1, 0, none⟩ = some (.bool false) ∧ w'.cell? ⟨w3.heap.size + 1, 1, none⟩ = some (.slice Bq Mq dq))) := fun w' hk => ⟨hk.cell kn_0, hk.cell kn_1, hk.cell kd_0, hk.cell kd_1, hk.cell km_0, hk.cell km_1, hk.cell kf_0, hk.cell kf_1⟩
  go_region_held3 (fun w' => w'.cell? ⟨w1.heap.size, 0, none⟩ = some (.bool sp) ∧ w'.cell? ⟨w1.heap.size, 1, none⟩ = some (.slice Ap Lp cp) ∧ w'.cell? ⟨w1.heap.size + 1, 0, none⟩ = some (.bool false) ∧ w'.cell? ⟨w1.heap.size + 1, 1, none⟩ = some (.slice Bp Mp dp) ∧ w'.cell? ⟨w3.heap.size, 0, none⟩ = some (.bool sq) ∧ w'.cell? ⟨w3.heap.size, 1, none⟩ = some (.slice Aq Lq cq) ∧ w'.cell? ⟨w3.heap.size + 1, 0, none⟩ = some (.bool false) ∧ w'.cell? ⟨w3.heap.size + 1, 1, none⟩ = some (.slice Bq Mq dq))
    ((refine HK.out _ ?_; (with_reducible repeat' first | exact Ext.refl _ | assumption | apply Ext.alloc_r | apply Ext.drew_r | apply Ext.drewN_r | refine Ext.trans ?_ ‹Ext _ _›)))
    (first
      | (go_at_call 91; have hgd := v; clear hgd; refine (cmp_is (u.zv.ext (by with_reducible repeat' first | exact Ext.refl _ | assumption | apply Ext.alloc_r | apply Ext.drew_r | apply Ext.drewN_r | refine Ext.trans ?_ ‹Ext _ _›)) (v.zv) HQ.out).mono ?_; rintro e w7 ⟨rfl, x7⟩)
      | (go_at_call_of 78 (#[Value.agg #[Value.bool sq, Value.slice Aq Lq cq], Value.agg #[Value.bool false, Value.slice Bp Mp dp]]); have hgd := u; clear hgd; refine (mul_z (g3.ext (by with_reducible repeat' first | exact Ext.refl _ | assumption | apply Ext.alloc_r | apply Ext.drew_r | apply Ext.drewN_r | refine Ext.trans ?_ ‹Ext _ _›)) (g2.ext (by with_reducible repeat' first | exact Ext.refl _ | assumption | apply Ext.alloc_r | apply Ext.drew_r | apply Ext.drewN_r | refine Ext.trans ?_ ‹Ext _ _›)) (by omega) (by omega)).mono ?_; rintro e w6 ⟨sv, Av, cv, Lv, rfl, v, x6⟩)
      | (go_at_call_of 78 (#[Value.agg #[Value.bool sp, Value.slice Ap Lp cp], Value.agg #[Value.bool false, Value.slice Bq Mq dq]]); refine (mul_z (g1.ext (by with_reducible repeat' first | exact Ext.refl _ | assumption | apply Ext.alloc_r | apply Ext.drew_r | apply Ext.drewN_r | refine Ext.trans ?_ ‹Ext _ _›)) (g4.ext (by with_reducible repeat' first | exact Ext.refl _ | assumption | apply Ext.alloc_r | apply Ext.drew_r | apply Ext.drewN_r | refine Ext.trans ?_ ‹Ext _ _›)) (by omega) (by omega)).mono ?_; rintro e w5 ⟨su, Au, cu, Lu, rfl, u, x5⟩))
  clear ka_0 ka_1 ka_2 kb_0 kb_1 kb_2 kn_0 kn_1 kd_0 kd_1 km_0 km_1 kf_0 kf_1
  clear HK
  have szw5 : w4.heap.size ≤ w5.heap.size := (show Ext w4 w5 from (by with_reducible repeat' first | exact Ext.refl _ | assumption | apply Ext.alloc_r | apply Ext.drew_r | apply Ext.drewN_r | refine Ext.trans ?_ ‹Ext _ _›)).size
  have szw6 : w4.heap.size ≤ w6.heap.size := (show Ext w4 w6 from (by with_reducible repeat' first | exact Ext.refl _ | assumption | apply Ext.alloc_r | apply Ext.drew_r | apply Ext.drewN_r | refine Ext.trans ?_ ‹Ext _ _›)).size
  have xhw7 : Ext w4 w7 := (by with_reducible repeat' first | exact Ext.refl _ | assumption | apply Ext.alloc_r | apply Ext.drew_r | apply Ext.drewN_r | refine Ext.trans ?_ ‹Ext _ _›)
  have szw7 : w4.heap.size ≤ w7.heap.size := xhw7.size
  replace bxa := bxa.ext xhw7
  replace bxb := bxb.ext xhw7
  replace bxn := bxn.ext xhw7
  replace bxd := bxd.ext xhw7
  replace bxm := bxm.ext xhw7
  replace bxf := bxf.ext xhw7
  have x0w : Ext w w7 := (by with_reducible repeat' first | exact Ext.refl _ | assumption | apply Ext.alloc_r | apply Ext.drew_r | apply Ext.drewN_r | refine Ext.trans ?_ ‹Ext _ _›)
  clear u v HQ
  have ka_0 := bxa.c 0 (.bool s1) rfl
  have ka_1 := bxa.c 1 (.slice A1 L1 c1) rfl
  have ka_2 := bxa.c 2 (.slice B1 M1 d1) rfl
  have kb_0 := bxb.c 0 (.bool s2) rfl
  have kb_1 := bxb.c 1 (.slice A2 L2 c2) rfl
  have kb_2 := bxb.c 2 (.slice B2 M2 d2) rfl
  have kn_0 := bxn.c 0 (.bool sp) rfl
  have kn_1 := bxn.c 1 (.slice Ap Lp cp) rfl
  have kd_0 := bxd.c 0 (.bool false) rfl
  have kd_1 := bxd.c 1 (.slice Bp Mp dp) rfl
  have km_0 := bxm.c 0 (.bool sq) rfl
  have km_1 := bxm.c 1 (.slice Aq Lq cq) rfl
  have kf_0 := bxf.c 0 (.bool false) rfl
  have kf_1 := bxf.c 1 (.slice Bq Mq dq) rfl
  go_wp2_with fail
  clear ka_0 ka_1 ka_2 kb_0 kb_1 kb_2 kn_0 kn_1 kd_0 kd_1 km_0 km_1 kf_0 kf_1
  go_ret
  exact ⟨rfl, x0w⟩
/-- The text of a fraction. -/
def fmtQ (q : Rat) : List Nat := fmtL 10 q.num ++ (if q.den = 1 then [] else 47 :: fmtL 10 (q.den : Int))
theorem fmt_one (n : Nat) : fmtL 10 (n : Int) = [49] ↔ n = 1 := by
  have h1 : fmtL 10 ((1 : Nat) : Int) = [49] := by
    have hd : digs 10 1 = [1] := by
      have := digs_of_val (B := 10) (ds := [1]) (by omega) (by unfold Valid; simp) (by simp)
      simpa [val] using this
    unfold fmtL
    rw [if_neg (by omega), if_neg (by omega)]
    show [] ++ ((digs 10 1).map sym).reverse = _
    rw [hd]
    rfl
  constructor
  · intro h
    have := fmtL_inj (b := 10) (by omega) (by omega) (h.trans h1.symm)
    omega
  · rintro rfl; exact h1
set_option maxHeartbeats 4000000 in
set_option maxRecDepth 100000 in
theorem rformat_r {w : World} {s1 : Bool} {A1 B1 : Option Addr} {c1 d1 L1 M1 N1 : Nat} {q1 : Rat} (h1 : RV w s1 A1 c1 L1 B1 d1 M1 N1 q1) (hN : N1 ≤ 1000000) :
    Calls Tryz.prog 46 #[Value.agg #[.bool s1, .slice A1 L1 c1, .slice B1 M1 d1]] w (RetS w (fmtQ q1)) := by
  go_enter Tryz.func46, Tryz.ntmps46
  go_wp2_with fail
  obtain ⟨w0, hw0⟩ : ∃ z : World, z = (w.alloc (.cells #[.bool s1, .slice A1 L1 c1, .slice B1 M1 d1] 27)) := ⟨_, rfl⟩
  rw [← hw0]
  have bxa : BK w0 (w.heap.size) 27 #[.bool s1, .slice A1 L1 c1, .slice B1 M1 d1] := by rw [hw0]; have h5 := (BK.new w #[.bool s1, .slice A1 L1 c1, .slice B1 M1 d1] 27); simpa only [World.size_alloc] using h5
  have hszw0 : w0.heap.size = w.heap.size + 1 := by rw [hw0]; simp only [World.size_alloc]
  have xw0 : Ext w w0 := by rw [hw0]; exact (Ext.alloc _ _)
  clear hw0
  refine (rnormal_r (h1.ext (by with_reducible repeat' first | exact Ext.refl _ | assumption | apply Ext.alloc_r | apply Ext.drew_r | apply Ext.drewN_r | refine Ext.trans ?_ ‹Ext _ _›)) hN).mono ?_
  rintro e w1 ⟨sn, An, cn, Ln, Bn, dn, Mn, rfl, n, x1⟩
  have szw1 : w0.heap.size ≤ w1.heap.size := x1.size
  replace bxa := bxa.ext x1
  have HN := Lib.hid n
  clear n h1
  have hdn := HN.out.dn
  have hdd := HN.out.dd
  have n := HN.out
  clear HN
  have ka_0 := bxa.c 0 (.bool s1) rfl
  have fa_0 := bxa.f 0
  have ka_1 := bxa.c 1 (.slice A1 L1 c1) rfl
  have fa_1 := bxa.f 1
  have ka_2 := bxa.c 2 (.slice B1 M1 d1) rfl
  have fa_2 := bxa.f 2
  have HN := Lib.hid n
  clear n
  go_wp2_with fail
  clear ka_0 fa_0 ka_1 fa_1 ka_2 fa_2
  have n := HN.out
  clear HN
  obtain ⟨w2, hw⟩ : ∃ z : World, z = (((w1.setCell ⟨w.heap.size, 0, none⟩ (.bool sn)).setCell ⟨w.heap.size, 1, none⟩ (.slice An Ln cn)).setCell ⟨w.heap.size, 2, none⟩ (.slice Bn Mn dn)) := ⟨_, rfl⟩
  rw [← hw]
  have kw2 : Kept w1 w2 := by rw [hw]; exact (Kept.set_ (Kept.set_ (Kept.set_ (Kept.refl _) bxa.isBox plain_rat) (IsBox.set_ bxa.isBox) plain_rat) (IsBox.set_ (IsBox.set_ bxa.isBox)) plain_rat)
  have nba : BK w2 (w.heap.size) 27 #[.bool sn, .slice An Ln cn, .slice Bn Mn dn] := by rw [hw]; exact (BK.set (i := 2) (u := .slice Bn Mn dn) (vs' := #[.bool sn, .slice An Ln cn, .slice Bn Mn dn]) (BK.set (i := 1) (u := .slice An Ln cn) (vs' := #[.bool sn, .slice An Ln cn, .slice B1 M1 d1]) (BK.set (i := 0) (u := .bool sn) (vs' := #[.bool sn, .slice A1 L1 c1, .slice B1 M1 d1]) bxa rfl) rfl) rfl)
  have x2 : Ext w w2 := by rw [hw]; have hxp : Ext w w1 := (by with_reducible repeat' first | exact Ext.refl _ | assumption | apply Ext.alloc_r | apply Ext.drew_r | apply Ext.drewN_r | refine Ext.trans ?_ ‹Ext _ _›); exact (Ext.set_ (Ext.set_ (Ext.set_ hxp (show _ ≤ w.heap.size by omega)) (show _ ≤ w.heap.size by omega)) (show _ ≤ w.heap.size by omega))
  clear bxa
  have bxa := nba
  clear nba
  have szw2 : w2.heap.size = w1.heap.size := by rw [hw]; simp
  replace n := (n.ext (by with_reducible repeat' first | exact Ext.refl _ | assumption | apply Ext.alloc_r | apply Ext.drew_r | apply Ext.drewN_r | refine Ext.trans ?_ ‹Ext _ _›)).kept kw2
  clear hw kw2
  have hlen := n.len
  have HA : Hid (ZV w2 sn An cn Ln q1.num) := n.num.zv
  have HB : Hid (ZV w2 false Bn dn Mn (q1.den : Int)) := ⟨by rw [Int.natAbs_natCast, n.len]; exact n.den.nv, (fun h => by cases h), fun _ => Int.natCast_nonneg _⟩
  clear n hlen
  refine (Format_z (HA.out.ext (by with_reducible repeat' first | exact Ext.refl _ | assumption | apply Ext.alloc_r | apply Ext.drew_r | apply Ext.drewN_r | refine Ext.trans ?_ ‹Ext _ _›)) (by omega)).mono ?_
  rintro e w3 ⟨tf, rfl, f, x3⟩
  have szw3 : w2.heap.size ≤ w3.heap.size := x3.size
  replace bxa := bxa.ext x3
  have HF := Lib.hid f
  clear f
  have ka_0 := bxa.c 0 (.bool sn) rfl
  have ka_1 := bxa.c 1 (.slice An Ln cn) rfl
  have ka_2 := bxa.c 2 (.slice Bn Mn dn) rfl
  go_wp2_with fail
  clear ka_0 ka_1 ka_2
  refine (Format_z (HB.out.ext (by with_reducible repeat' first | exact Ext.refl _ | assumption | apply Ext.alloc_r | apply Ext.drew_r | apply Ext.drewN_r | refine Ext.trans ?_ ‹Ext _ _›)) (by rw [Int.natAbs_natCast]; omega)).mono ?_
  rintro e w4 ⟨tg, rfl, g, x4⟩
  have szw4 : w3.heap.size ≤ w4.heap.size := x4.size
  replace bxa := bxa.ext x4
  have hf : tf.size ≤ 32 * N1 + 2 := by rw [← bs_length, HF.out]; have := fmt_le (b := 10) (by omega) q1.num; omega
  have hg : tg.size ≤ 32 * N1 + 2 := by rw [← bs_length, g]; have := fmt_le (b := 10) (by omega) (q1.den : Int); rw [Int.natAbs_natCast] at this; omega
  have HG := Lib.hid g
  have xz : Ext w w4 := (by with_reducible repeat' first | exact Ext.refl _ | assumption | apply Ext.alloc_r | apply Ext.drew_r | apply Ext.drewN_r | refine Ext.trans ?_ ‹Ext _ _›)
  have hb1 : (tg.toList == [49]) = decide (q1.den = 1) := by
    have := bs_eq tg ⟨#[49]⟩
    rw [show (ByteArray.mk #[49]).toList = [49] by rw [Lib.toList_data]] at this
    rw [this, g]
    have h5 := fmt_one q1.den
    by_cases h : q1.den = 1
    · rw [decide_eq_true h]; exact decide_eq_true (h5.2 h)
    · rw [decide_eq_false h]; exact decide_eq_false (fun k => h (h5.1 k))
  clear g HA HB
  by_cases hone : q1.den = 1
  · have HQ : Hid (fmtQ q1 = fmtL 10 q1.num) := by show _ = _; unfold fmtQ; rw [if_pos hone, List.append_nil]
    have hb2 : (!tg.toList == [49]) = false := by rw [hb1, decide_eq_true hone]; rfl
    clear hb1 hone hdd
    have ka_0 := bxa.c 0 (.bool sn) rfl
    have ka_1 := bxa.c 1 (.slice An Ln cn) rfl
    have ka_2 := bxa.c 2 (.slice Bn Mn dn) rfl
    go_wp2_with fail
    clear ka_0 ka_1 ka_2
    go_ret
    exact ⟨_, rfl, by rw [HQ.out]; exact HF.out, xz⟩
  · have HQ : Hid (fmtQ q1 = fmtL 10 q1.num ++ 47 :: fmtL 10 (q1.den : Int)) := by show _ = _; unfold fmtQ; rw [if_neg hone]
    have hb2 : (!tg.toList == [49]) = true := by rw [hb1, decide_eq_false hone]; rfl
    have hs1 : ¬ 9223372036854775807 < 1 + tg.size := by omega
    have hs2 : ¬ 9223372036854775807 < tf.size + (1 + tg.size) := by omega
    clear hb1 hone hdd
    have ka_0 := bxa.c 0 (.bool sn) rfl
    have ka_1 := bxa.c 1 (.slice An Ln cn) rfl
    have ka_2 := bxa.c 2 (.slice Bn Mn dn) rfl
    go_wp2_with fail
    clear ka_0 ka_1 ka_2
    go_ret
    exact ⟨_, rfl, by rw [HQ.out, bs_append, bs_append, HF.out, HG.out]; rfl, xz⟩
set_option maxHeartbeats 4000000 in
set_option maxRecDepth 100000 in
theorem rof_r {w : World} {n : Int} (hn : -4294967295 ≤ n ∧ n ≤ 4294967295) :
    Calls Tryz.prog 44 #[.int .i64 n] w (RetR w 1 (n : Rat)) := by
  have hd : dl n.natAbs ≤ 1 := dl_le (by unfold B32; omega)
  go_enter Tryz.func44, Tryz.ntmps44
  go_wp2_with fail
  obtain ⟨w0, hw0⟩ : ∃ z : World, z = (w.alloc (.cells #[.bool false, .slice none 0 0, .slice none 0 0] 27)) := ⟨_, rfl⟩
  rw [← hw0]
  have bxr : BK w0 (w.heap.size) 27 #[.bool false, .slice none 0 0, .slice none 0 0] := by rw [hw0]; have h5 := (BK.new w #[.bool false, .slice none 0 0, .slice none 0 0] 27); simpa only [World.size_alloc] using h5
  have hszw0 : w0.heap.size = w.heap.size + 1 := by rw [hw0]; simp only [World.size_alloc]
  have xw0 : Ext w w0 := by rw [hw0]; exact (Ext.alloc _ _)
  clear hw0
  refine (of_z (by omega)).mono ?_
  rintro e w1 ⟨si, Ai, ci, Li, rfl, i, x1⟩
  have szw1 : w0.heap.size ≤ w1.heap.size := x1.size
  replace bxr := bxr.ext x1
  have HI := Lib.hid i
  clear i
  have kr_0 := bxr.c 0 (.bool false) rfl
  have kr_1 := bxr.c 1 (.slice none 0 0) rfl
  have kr_2 := bxr.c 2 (.slice none 0 0) rfl
  go_wp2_with fail
  clear kr_0 kr_1 kr_2
  refine (rfrom_r (N := 1) (HI.out.zv.ext (by with_reducible repeat' first | exact Ext.refl _ | assumption | apply Ext.alloc_r | apply Ext.drew_r | apply Ext.drewN_r | refine Ext.trans ?_ ‹Ext _ _›)) hd (by omega) (by omega)).mono ?_
  rintro e w2 ⟨sz, Az, cz, Lz, Bz, dz, Mz, rfl, z, x2⟩
  have szw2 : w1.heap.size ≤ w2.heap.size := x2.size
  replace bxr := bxr.ext x2
  clear HI
  have kr_0 := bxr.c 0 (.bool false) rfl
  have fr_0 := bxr.f 0
  have kr_1 := bxr.c 1 (.slice none 0 0) rfl
  have fr_1 := bxr.f 1
  have kr_2 := bxr.c 2 (.slice none 0 0) rfl
  have fr_2 := bxr.f 2
  go_wp2_with fail
  clear kr_0 fr_0 kr_1 fr_1 kr_2 fr_2
  have HR2 := z.mono (show w.heap.size ≤ _ by omega)
  clear z
  obtain ⟨w3, hw⟩ : ∃ z : World, z = (((w2.setCell ⟨w.heap.size, 0, none⟩ (.bool sz)).setCell ⟨w.heap.size, 1, none⟩ (.slice Az Lz cz)).setCell ⟨w.heap.size, 2, none⟩ (.slice Bz Mz dz)) := ⟨_, rfl⟩
  rw [← hw]
  have kw3 : Kept w2 w3 := by rw [hw]; exact (Kept.set_ (Kept.set_ (Kept.set_ (Kept.refl _) bxr.isBox plain_rat) (IsBox.set_ bxr.isBox) plain_rat) (IsBox.set_ (IsBox.set_ bxr.isBox)) plain_rat)
  have nbr : BK w3 (w.heap.size) 27 #[.bool sz, .slice Az Lz cz, .slice Bz Mz dz] := by rw [hw]; exact (BK.set (i := 2) (u := .slice Bz Mz dz) (vs' := #[.bool sz, .slice Az Lz cz, .slice Bz Mz dz]) (BK.set (i := 1) (u := .slice Az Lz cz) (vs' := #[.bool sz, .slice Az Lz cz, .slice none 0 0]) (BK.set (i := 0) (u := .bool sz) (vs' := #[.bool sz, .slice none 0 0, .slice none 0 0]) bxr rfl) rfl) rfl)
  have x3 : Ext w w3 := by rw [hw]; have hxp : Ext w w2 := (by with_reducible repeat' first | exact Ext.refl _ | assumption | apply Ext.alloc_r | apply Ext.drew_r | apply Ext.drewN_r | refine Ext.trans ?_ ‹Ext _ _›); exact (Ext.set_ (Ext.set_ (Ext.set_ hxp (show _ ≤ w.heap.size by omega)) (show _ ≤ w.heap.size by omega)) (show _ ≤ w.heap.size by omega))
  clear bxr
  have bxr := nbr
  clear nbr
  have szw3 : w3.heap.size = w2.heap.size := by rw [hw]; simp
  replace HR2 := (HR2.ext (by with_reducible repeat' first | exact Ext.refl _ | assumption | apply Ext.alloc_r | apply Ext.drew_r | apply Ext.drewN_r | refine Ext.trans ?_ ‹Ext _ _›)).kept kw3
  clear hw kw3
  have HRO := Lib.hid HR2
  clear HR2
  have kr_0 := bxr.c 0 (.bool sz) rfl
  have kr_1 := bxr.c 1 (.slice Az Lz cz) rfl
  have kr_2 := bxr.c 2 (.slice Bz Mz dz) rfl
  go_wp2_with fail
  clear kr_0 kr_1 kr_2
  have kr_0 := bxr.c 0 (.bool sz) rfl
  have kr_1 := bxr.c 1 (.slice Az Lz cz) rfl
  have kr_2 := bxr.c 2 (.slice Bz Mz dz) rfl
  refine bodyPost_ret (v := .agg #[.bool sz, .slice Az Lz cz, .slice Bz Mz dz]) (by simp [results, Tryz.results44, go_sem, kr_0, kr_1, kr_2]) rfl ?_
  exact ⟨_, _, _, _, _, _, _, rfl, HRO.out, x3⟩
end Go.Proofs.YtehhkeenjlpikaaGreat
