/- Contracts of package rational: Mid, Integer, Floor, Ceil. -/
import Derived.Test.YtfnmbhjifdfibaaRatQ
import Derived.Test.YtfnmbhjifdfibaaRef5
import Derived.Test.YtfnmbhjifdfibaaDivE
import Derived.Deep.RegionHeldLaw
import Derived.Deep.LoopGhost
import Derived.Deep.QuietTactic
import Derived.BigQuiet
namespace Go.Proofs.Ytfnmbhjifdfibaa
open Go.RowKit
/-- An integer in a box that may be written. -/
def PutV (w w' : World) (x : Int) (s : Value) : Prop := ∃ b sb A c L, s = .pointer (some ⟨b, 0, none⟩) ∧ w.heap.size ≤ b ∧ BW w' b 25 (.bool sb) (.slice A L c) ∧ ZO w' 0 sb A c L x ∧ Ext w w'
theorem PutV.mk {w w' : World} {b : Nat} {sb : Bool} {x : Int} {A : Option Addr} {c L : Nat} (hb : w.heap.size ≤ b) (h1 : IsBox w' b 25) (h2 : w'.cell? ⟨b, 0, none⟩ = some (.bool sb)) (h3 : w'.cell? ⟨b, 1, none⟩ = some (.slice A L c)) (h4 : w'.frozen? ⟨b, 0, none⟩ = false) (h5 : w'.frozen? ⟨b, 1, none⟩ = false) (hz : ZO w' 0 sb A c L x) (hx : Ext w w') : PutV w w' x (.pointer (some ⟨b, 0, none⟩)) :=
  ⟨b, sb, A, c, L, rfl, hb, ⟨h1, h2, h3, h4, h5⟩, hz, hx⟩
set_option maxHeartbeats 4000000 in
set_option maxRecDepth 100000 in
theorem rmid_r {w : World} {s1 s2 : Bool} {A1 A2 B1 B2 : Option Addr} {c1 c2 d1 d2 L1 L2 M1 M2 N1 N2 : Nat} {q1 q2 : Rat} (h1 : RV w s1 A1 c1 L1 B1 d1 M1 N1 q1) (h2 : RV w s2 A2 c2 L2 B2 d2 M2 N2 q2) (hN : N1 + N2 + 1 ≤ 1000000) (hm : min N1 N2 < 48) :
    Calls Try.prog 36 #[Value.agg #[.bool s1, .slice A1 L1 c1, .slice B1 M1 d1], Value.agg #[.bool s2, .slice A2 L2 c2, .slice B2 M2 d2]] w (RetR w (N1 + N2 + 1) (mkRat 1 2 * (q1 + q2))) := by
  go_enter Try.func36, Try.ntmps36
  go_wp2_with fail
  obtain ⟨w0, hw0⟩ : ∃ z : World, z = (((w.alloc (.cells #[.bool s1, .slice A1 L1 c1, .slice B1 M1 d1] 27)).alloc (.cells #[.bool s2, .slice A2 L2 c2, .slice B2 M2 d2] 27)).alloc (.cells #[.bool false, .slice none 0 0, .slice none 0 0] 27)) := ⟨_, rfl⟩
  rw [← hw0]
  have bxa : BK w0 (w.heap.size) 27 #[.bool s1, .slice A1 L1 c1, .slice B1 M1 d1] := by rw [hw0]; have h5 := (BK.ext (BK.ext (BK.new w #[.bool s1, .slice A1 L1 c1, .slice B1 M1 d1] 27) (Ext.alloc _ (.cells #[.bool s2, .slice A2 L2 c2, .slice B2 M2 d2] 27))) (Ext.alloc _ (.cells #[.bool false, .slice none 0 0, .slice none 0 0] 27))); simpa only [World.size_alloc] using h5
  have bxb : BK w0 (w.heap.size + 1) 27 #[.bool s2, .slice A2 L2 c2, .slice B2 M2 d2] := by rw [hw0]; have h5 := (BK.ext (BK.new (w.alloc (.cells #[.bool s1, .slice A1 L1 c1, .slice B1 M1 d1] 27)) #[.bool s2, .slice A2 L2 c2, .slice B2 M2 d2] 27) (Ext.alloc _ (.cells #[.bool false, .slice none 0 0, .slice none 0 0] 27))); simpa only [World.size_alloc] using h5
  have bxr : BK w0 (w.heap.size + 1 + 1) 27 #[.bool false, .slice none 0 0, .slice none 0 0] := by rw [hw0]; have h5 := (BK.new ((w.alloc (.cells #[.bool s1, .slice A1 L1 c1, .slice B1 M1 d1] 27)).alloc (.cells #[.bool s2, .slice A2 L2 c2, .slice B2 M2 d2] 27)) #[.bool false, .slice none 0 0, .slice none 0 0] 27); simpa only [World.size_alloc] using h5
  have hszw0 : w0.heap.size = w.heap.size + 1 + 1 + 1 := by rw [hw0]; simp only [World.size_alloc]
  have xw0 : Ext w w0 := by rw [hw0]; exact (((Ext.alloc _ _).trans (Ext.alloc _ _)).trans (Ext.alloc _ _))
  clear hw0
  have e1 := h1.ext xw0
  have e2 := h2.ext xw0
  clear h1 h2
  refine (parts_r (e1.ext (by repeat' (first | with_reducible exact Ext.refl _ | with_reducible assumption | with_reducible apply Ext.alloc_r | with_reducible apply Ext.drew_r | with_reducible apply Ext.drewN_r | with_reducible refine Ext.trans ?_ ‹Ext _ _›)))).mono ?_
  rintro e w1 ⟨xp, yp, sp, Ap, cp, Lp, Bp, dp, Mp, rfl, p1, p2, p3, p4, p5, p6, x1⟩
  have szw1 : w0.heap.size ≤ w1.heap.size := x1.size
  replace bxa := bxa.ext x1
  replace bxb := bxb.ext x1
  replace bxr := bxr.ext x1
  have Hp := Lib.hid (And.intro p1 p2)
  clear p1 p2
  have ka_0 := bxa.c 0 (.bool s1) rfl
  have ka_1 := bxa.c 1 (.slice A1 L1 c1) rfl
  have ka_2 := bxa.c 2 (.slice B1 M1 d1) rfl
  have kb_0 := bxb.c 0 (.bool s2) rfl
  have kb_1 := bxb.c 1 (.slice A2 L2 c2) rfl
  have kb_2 := bxb.c 2 (.slice B2 M2 d2) rfl
  have kr_0 := bxr.c 0 (.bool false) rfl
  have kr_1 := bxr.c 1 (.slice none 0 0) rfl
  have kr_2 := bxr.c 2 (.slice none 0 0) rfl
  have t1a_0 := fun (o0 : Obj) => ((Ext.alloc w1 o0).cell (bxa.c 0 (.bool s1) rfl))
  have t2a_0 := fun (o0 : Obj) (o1 : Obj) => ((Ext.alloc (w1.alloc o0) o1).cell ((Ext.alloc w1 o0).cell (bxa.c 0 (.bool s1) rfl)))
  have t1a_1 := fun (o0 : Obj) => ((Ext.alloc w1 o0).cell (bxa.c 1 (.slice A1 L1 c1) rfl))
  have t2a_1 := fun (o0 : Obj) (o1 : Obj) => ((Ext.alloc (w1.alloc o0) o1).cell ((Ext.alloc w1 o0).cell (bxa.c 1 (.slice A1 L1 c1) rfl)))
  have t1a_2 := fun (o0 : Obj) => ((Ext.alloc w1 o0).cell (bxa.c 2 (.slice B1 M1 d1) rfl))
  have t2a_2 := fun (o0 : Obj) (o1 : Obj) => ((Ext.alloc (w1.alloc o0) o1).cell ((Ext.alloc w1 o0).cell (bxa.c 2 (.slice B1 M1 d1) rfl)))
  have t1b_0 := fun (o0 : Obj) => ((Ext.alloc w1 o0).cell (bxb.c 0 (.bool s2) rfl))
  have t2b_0 := fun (o0 : Obj) (o1 : Obj) => ((Ext.alloc (w1.alloc o0) o1).cell ((Ext.alloc w1 o0).cell (bxb.c 0 (.bool s2) rfl)))
  have t1b_1 := fun (o0 : Obj) => ((Ext.alloc w1 o0).cell (bxb.c 1 (.slice A2 L2 c2) rfl))
  have t2b_1 := fun (o0 : Obj) (o1 : Obj) => ((Ext.alloc (w1.alloc o0) o1).cell ((Ext.alloc w1 o0).cell (bxb.c 1 (.slice A2 L2 c2) rfl)))
  have t1b_2 := fun (o0 : Obj) => ((Ext.alloc w1 o0).cell (bxb.c 2 (.slice B2 M2 d2) rfl))
  have t2b_2 := fun (o0 : Obj) (o1 : Obj) => ((Ext.alloc (w1.alloc o0) o1).cell ((Ext.alloc w1 o0).cell (bxb.c 2 (.slice B2 M2 d2) rfl)))
  have t1r_0 := fun (o0 : Obj) => ((Ext.alloc w1 o0).cell (bxr.c 0 (.bool false) rfl))
  have t2r_0 := fun (o0 : Obj) (o1 : Obj) => ((Ext.alloc (w1.alloc o0) o1).cell ((Ext.alloc w1 o0).cell (bxr.c 0 (.bool false) rfl)))
  have t1r_1 := fun (o0 : Obj) => ((Ext.alloc w1 o0).cell (bxr.c 1 (.slice none 0 0) rfl))
  have t2r_1 := fun (o0 : Obj) (o1 : Obj) => ((Ext.alloc (w1.alloc o0) o1).cell ((Ext.alloc w1 o0).cell (bxr.c 1 (.slice none 0 0) rfl)))
  have t1r_2 := fun (o0 : Obj) => ((Ext.alloc w1 o0).cell (bxr.c 2 (.slice none 0 0) rfl))
  have t2r_2 := fun (o0 : Obj) (o1 : Obj) => ((Ext.alloc (w1.alloc o0) o1).cell ((Ext.alloc w1 o0).cell (bxr.c 2 (.slice none 0 0) rfl)))
  go_wp2_with fail
  clear ka_0 ka_1 ka_2 kb_0 kb_1 kb_2 kr_0 kr_1 kr_2 t1a_0 t2a_0 t1a_1 t2a_1 t1a_2 t2a_2 t1b_0 t2b_0 t1b_1 t2b_1 t1b_2 t2b_2 t1r_0 t2r_0 t1r_1 t2r_1 t1r_2 t2r_2
  obtain ⟨w2, hw⟩ : ∃ z : World, z = ((w1.alloc (.cells #[.bool sp, .slice Ap Lp cp] 25)).alloc (.cells #[.bool false, .slice Bp Mp dp] 25)) := ⟨_, rfl⟩
  rw [← hw]
  have x2 : Ext w1 w2 := by rw [hw]; exact ((Ext.alloc _ _).trans (Ext.alloc _ _))
  replace bxa := bxa.ext x2
  replace bxb := bxb.ext x2
  replace bxr := bxr.ext x2
  have bxn : BK w2 (w1.heap.size) 25 #[.bool sp, .slice Ap Lp cp] := by rw [hw]; have h5 := (BK.ext (BK.new w1 #[.bool sp, .slice Ap Lp cp] 25) (Ext.alloc _ (.cells #[.bool false, .slice Bp Mp dp] 25))); simpa only [World.size_alloc] using h5
  have bxd : BK w2 (w1.heap.size + 1) 25 #[.bool false, .slice Bp Mp dp] := by rw [hw]; have h5 := (BK.new (w1.alloc (.cells #[.bool sp, .slice Ap Lp cp] 25)) #[.bool false, .slice Bp Mp dp] 25); simpa only [World.size_alloc] using h5
  have szw2 : w2.heap.size = w1.heap.size + 1 + 1 := by rw [hw]; simp only [World.size_alloc]
  clear hw
  refine (parts_r (e2.ext (by repeat' (first | with_reducible exact Ext.refl _ | with_reducible assumption | with_reducible apply Ext.alloc_r | with_reducible apply Ext.drew_r | with_reducible apply Ext.drewN_r | with_reducible refine Ext.trans ?_ ‹Ext _ _›)))).mono ?_
  rintro e w3 ⟨xq, yq, sq, Aq, cq, Lq, Bq, dq, Mq, rfl, q1, q2, q3, q4, q5, q6, x3⟩
  have szw3 : w2.heap.size ≤ w3.heap.size := x3.size
  replace bxa := bxa.ext x3
  replace bxb := bxb.ext x3
  replace bxr := bxr.ext x3
  replace bxn := bxn.ext x3
  replace bxd := bxd.ext x3
  have Hq := Lib.hid (And.intro q1 q2)
  clear q1 q2
  have ka_0 := bxa.c 0 (.bool s1) rfl
  have ka_1 := bxa.c 1 (.slice A1 L1 c1) rfl
  have ka_2 := bxa.c 2 (.slice B1 M1 d1) rfl
  have kb_0 := bxb.c 0 (.bool s2) rfl
  have kb_1 := bxb.c 1 (.slice A2 L2 c2) rfl
  have kb_2 := bxb.c 2 (.slice B2 M2 d2) rfl
  have kr_0 := bxr.c 0 (.bool false) rfl
  have kr_1 := bxr.c 1 (.slice none 0 0) rfl
  have kr_2 := bxr.c 2 (.slice none 0 0) rfl
  have kn_0 := bxn.c 0 (.bool sp) rfl
  have kn_1 := bxn.c 1 (.slice Ap Lp cp) rfl
  have kd_0 := bxd.c 0 (.bool false) rfl
  have kd_1 := bxd.c 1 (.slice Bp Mp dp) rfl
  have t1a_0 := fun (o0 : Obj) => ((Ext.alloc w3 o0).cell (bxa.c 0 (.bool s1) rfl))
  have t2a_0 := fun (o0 : Obj) (o1 : Obj) => ((Ext.alloc (w3.alloc o0) o1).cell ((Ext.alloc w3 o0).cell (bxa.c 0 (.bool s1) rfl)))
  have t1a_1 := fun (o0 : Obj) => ((Ext.alloc w3 o0).cell (bxa.c 1 (.slice A1 L1 c1) rfl))
  have t2a_1 := fun (o0 : Obj) (o1 : Obj) => ((Ext.alloc (w3.alloc o0) o1).cell ((Ext.alloc w3 o0).cell (bxa.c 1 (.slice A1 L1 c1) rfl)))
  have t1a_2 := fun (o0 : Obj) => ((Ext.alloc w3 o0).cell (bxa.c 2 (.slice B1 M1 d1) rfl))
  have t2a_2 := fun (o0 : Obj) (o1 : Obj) => ((Ext.alloc (w3.alloc o0) o1).cell ((Ext.alloc w3 o0).cell (bxa.c 2 (.slice B1 M1 d1) rfl)))
  have t1b_0 := fun (o0 : Obj) => ((Ext.alloc w3 o0).cell (bxb.c 0 (.bool s2) rfl))
  have t2b_0 := fun (o0 : Obj) (o1 : Obj) => ((Ext.alloc (w3.alloc o0) o1).cell ((Ext.alloc w3 o0).cell (bxb.c 0 (.bool s2) rfl)))
  have t1b_1 := fun (o0 : Obj) => ((Ext.alloc w3 o0).cell (bxb.c 1 (.slice A2 L2 c2) rfl))
  have t2b_1 := fun (o0 : Obj) (o1 : Obj) => ((Ext.alloc (w3.alloc o0) o1).cell ((Ext.alloc w3 o0).cell (bxb.c 1 (.slice A2 L2 c2) rfl)))
  have t1b_2 := fun (o0 : Obj) => ((Ext.alloc w3 o0).cell (bxb.c 2 (.slice B2 M2 d2) rfl))
  have t2b_2 := fun (o0 : Obj) (o1 : Obj) => ((Ext.alloc (w3.alloc o0) o1).cell ((Ext.alloc w3 o0).cell (bxb.c 2 (.slice B2 M2 d2) rfl)))
  have t1r_0 := fun (o0 : Obj) => ((Ext.alloc w3 o0).cell (bxr.c 0 (.bool false) rfl))
  have t2r_0 := fun (o0 : Obj) (o1 : Obj) => ((Ext.alloc (w3.alloc o0) o1).cell ((Ext.alloc w3 o0).cell (bxr.c 0 (.bool false) rfl)))
  have t1r_1 := fun (o0 : Obj) => ((Ext.alloc w3 o0).cell (bxr.c 1 (.slice none 0 0) rfl))
  have t2r_1 := fun (o0 : Obj) (o1 : Obj) => ((Ext.alloc (w3.alloc o0) o1).cell ((Ext.alloc w3 o0).cell (bxr.c 1 (.slice none 0 0) rfl)))
  have t1r_2 := fun (o0 : Obj) => ((Ext.alloc w3 o0).cell (bxr.c 2 (.slice none 0 0) rfl))
  have t2r_2 := fun (o0 : Obj) (o1 : Obj) => ((Ext.alloc (w3.alloc o0) o1).cell ((Ext.alloc w3 o0).cell (bxr.c 2 (.slice none 0 0) rfl)))
  have t1n_0 := fun (o0 : Obj) => ((Ext.alloc w3 o0).cell (bxn.c 0 (.bool sp) rfl))
  have t2n_0 := fun (o0 : Obj) (o1 : Obj) => ((Ext.alloc (w3.alloc o0) o1).cell ((Ext.alloc w3 o0).cell (bxn.c 0 (.bool sp) rfl)))
  have t1n_1 := fun (o0 : Obj) => ((Ext.alloc w3 o0).cell (bxn.c 1 (.slice Ap Lp cp) rfl))
  have t2n_1 := fun (o0 : Obj) (o1 : Obj) => ((Ext.alloc (w3.alloc o0) o1).cell ((Ext.alloc w3 o0).cell (bxn.c 1 (.slice Ap Lp cp) rfl)))
  have t1d_0 := fun (o0 : Obj) => ((Ext.alloc w3 o0).cell (bxd.c 0 (.bool false) rfl))
  have t2d_0 := fun (o0 : Obj) (o1 : Obj) => ((Ext.alloc (w3.alloc o0) o1).cell ((Ext.alloc w3 o0).cell (bxd.c 0 (.bool false) rfl)))
  have t1d_1 := fun (o0 : Obj) => ((Ext.alloc w3 o0).cell (bxd.c 1 (.slice Bp Mp dp) rfl))
  have t2d_1 := fun (o0 : Obj) (o1 : Obj) => ((Ext.alloc (w3.alloc o0) o1).cell ((Ext.alloc w3 o0).cell (bxd.c 1 (.slice Bp Mp dp) rfl)))
  go_wp2_with fail
  clear ka_0 ka_1 ka_2 kb_0 kb_1 kb_2 kr_0 kr_1 kr_2 kn_0 kn_1 kd_0 kd_1 t1a_0 t2a_0 t1a_1 t2a_1 t1a_2 t2a_2 t1b_0 t2b_0 t1b_1 t2b_1 t1b_2 t2b_2 t1r_0 t2r_0 t1r_1 t2r_1 t1r_2 t2r_2 t1n_0 t2n_0 t1n_1 t2n_1 t1d_0 t2d_0 t1d_1 t2d_1
  obtain ⟨w4, hw⟩ : ∃ z : World, z = ((w3.alloc (.cells #[.bool sq, .slice Aq Lq cq] 25)).alloc (.cells #[.bool false, .slice Bq Mq dq] 25)) := ⟨_, rfl⟩
  rw [← hw]
  have x4 : Ext w3 w4 := by rw [hw]; exact ((Ext.alloc _ _).trans (Ext.alloc _ _))
  replace bxa := bxa.ext x4
  replace bxb := bxb.ext x4
  replace bxr := bxr.ext x4
  replace bxn := bxn.ext x4
  replace bxd := bxd.ext x4
  have bxm : BK w4 (w3.heap.size) 25 #[.bool sq, .slice Aq Lq cq] := by rw [hw]; have h5 := (BK.ext (BK.new w3 #[.bool sq, .slice Aq Lq cq] 25) (Ext.alloc _ (.cells #[.bool false, .slice Bq Mq dq] 25))); simpa only [World.size_alloc] using h5
  have bxf : BK w4 (w3.heap.size + 1) 25 #[.bool false, .slice Bq Mq dq] := by rw [hw]; have h5 := (BK.new (w3.alloc (.cells #[.bool sq, .slice Aq Lq cq] 25)) #[.bool false, .slice Bq Mq dq] 25); simpa only [World.size_alloc] using h5
  have szw4 : w4.heap.size = w3.heap.size + 1 + 1 := by rw [hw]; simp only [World.size_alloc]
  clear hw
  have g1 := Hp.out.1
  have g2 := Hp.out.2
  have g3 := Hq.out.1
  have g4 := Hq.out.2
  clear e1 e2
  have hz1 := dlz_mul xp (yq : Int)
  have hz2 := dlz_mul xq (yp : Int)
  have hz3 := dl_mul yp yq
  rw [Int.natAbs_natCast] at hz1 hz2
  have k1 : dl ((yp : Int)).natAbs = dl yp := by rw [Int.natAbs_natCast]
  have k2 : dl ((yq : Int)).natAbs = dl yq := by rw [Int.natAbs_natCast]
  have hpos : 0 < yp * yq * 2 := Nat.mul_pos (Nat.mul_pos p3 q3) (by omega)
  have HQ : Hid (mkRat 1 2 * (q1 + q2) = mkRat (xp * yq + xq * yp) (yp * yq * 2)) := by
    show _ = _
    rw [p4, q4, Rat.mkRat_add_mkRat _ _ (by omega) (by omega), Rat.mkRat_mul_mkRat, Int.one_mul, Nat.mul_comm 2]
  have hcast : ((yp : Int)) * (yq : Int) * 2 ^ 1 = ((yp * yq * 2 : Nat) : Int) := by rw [Int.natCast_mul, Int.natCast_mul]; rfl
  have hz4 := dlz_add (xp * yq) (xq * yp)
  have hz5 := dl_mul (yp * yq) 2
  have hz6 : dl 2 ≤ 1 := dl_le (by unfold B32; omega)
  have hz7 : dl ((yp : Int) * (yq : Int)).natAbs = dl (yp * yq) := by rw [Int.natAbs_mul, Int.natAbs_natCast, Int.natAbs_natCast]
  have HDN : dl (xp * (yq : Int) + xq * (yp : Int)).natAbs ≤ N1 + N2 + 1 := by omega
  have HDD : dl (yp * yq * 2) ≤ N1 + N2 + 1 := by omega
  clear p4 q4
  have kn_0 := bxn.c 0 (.bool sp) rfl
  have kn_1 := bxn.c 1 (.slice Ap Lp cp) rfl
  have kd_0 := bxd.c 0 (.bool false) rfl
  have kd_1 := bxd.c 1 (.slice Bp Mp dp) rfl
  have km_0 := bxm.c 0 (.bool sq) rfl
  have km_1 := bxm.c 1 (.slice Aq Lq cq) rfl
  have kf_0 := bxf.c 0 (.bool false) rfl
  have kf_1 := bxf.c 1 (.slice Bq Mq dq) rfl
  have HSZ := Lib.hid (And.intro True.intro (And.intro hszw0 (And.intro szw1 (And.intro szw2 (And.intro szw3 szw4)))))
  clear hszw0 szw1 szw2 szw3 szw4
  go_wp2_with fail
  go_cut [9] (fun s9 wx => PutV w4 wx (xp * (yq : Int) + xq * (yp : Int)) s9)
  case first =>
    have HK : Hid (∀ w', Ext w4 w' → Ext w4 w' ∧ w'.cell? ⟨w1.heap.size, 0, none⟩ = some (.bool sp) ∧ w'.cell? ⟨w1.heap.size, 1, none⟩ = some (.slice Ap Lp cp) ∧ w'.cell? ⟨w1.heap.size + 1, 0, none⟩ = some (.bool false) ∧ w'.cell? ⟨w1.heap.size + 1, 1, none⟩ = some (.slice Bp Mp dp) ∧ w'.cell? ⟨w3.heap.size, 0, none⟩ = some (.bool sq) ∧ w'.cell? ⟨w3.heap.size, 1, none⟩ = some (.slice Aq Lq cq) ∧ w'.cell? ⟨w3.heap.size + 1, 0, none⟩ = some (.bool false) ∧ w'.cell? ⟨w3.heap.size + 1, 1, none⟩ = some (.slice Bq Mq dq)) := fun w' hk => ⟨hk, hk.cell kn_0, hk.cell kn_1, hk.cell kd_0, hk.cell kd_1, hk.cell km_0, hk.cell km_1, hk.cell kf_0, hk.cell kf_1⟩
    first
    | go_region_held3 (fun w' => Ext w4 w' ∧ w'.cell? ⟨w1.heap.size, 0, none⟩ = some (.bool sp) ∧ w'.cell? ⟨w1.heap.size, 1, none⟩ = some (.slice Ap Lp cp) ∧ w'.cell? ⟨w1.heap.size + 1, 0, none⟩ = some (.bool false) ∧ w'.cell? ⟨w1.heap.size + 1, 1, none⟩ = some (.slice Bp Mp dp) ∧ w'.cell? ⟨w3.heap.size, 0, none⟩ = some (.bool sq) ∧ w'.cell? ⟨w3.heap.size, 1, none⟩ = some (.slice Aq Lq cq) ∧ w'.cell? ⟨w3.heap.size + 1, 0, none⟩ = some (.bool false) ∧ w'.cell? ⟨w3.heap.size + 1, 1, none⟩ = some (.slice Bq Mq dq))
        ((with_reducible refine HK.out _ ?_; (repeat' (first | with_reducible exact Ext.refl _ | with_reducible assumption | with_reducible apply Ext.alloc_r | with_reducible apply Ext.drew_r | with_reducible apply Ext.drewN_r | with_reducible apply Ext.set_r | with_reducible exact Nat.le_refl _ | omega | with_reducible refine Ext.trans ?_ ‹Ext _ _›))))
        (first
          | (go_at_call 63; have hgd := v; clear hgd; refine (add_z (u.zv.ext (by repeat' (first | with_reducible exact Ext.refl _ | with_reducible assumption | with_reducible apply Ext.alloc_r | with_reducible apply Ext.drew_r | with_reducible apply Ext.drewN_r | with_reducible refine Ext.trans ?_ ‹Ext _ _›))) (v.zv.ext (by repeat' (first | with_reducible exact Ext.refl _ | with_reducible assumption | with_reducible apply Ext.alloc_r | with_reducible apply Ext.drew_r | with_reducible apply Ext.drewN_r | with_reducible refine Ext.trans ?_ ‹Ext _ _›))) (by omega) (by omega)).mono ?_; rintro e w7 ⟨st, At, ct, Lt, rfl, t, x7⟩; (have zs7 := x7.size); (try simp only [World.size_alloc] at zs7); (try ((with_reducible have h7_0 := box_ext (vs := #[.bool false, .slice none 0 0]) x7); have h7_0c0 := (h7_0.1 0 (.bool false) rfl).1; have h7_0f0 := (h7_0.1 0 (.bool false) rfl).2; have h7_0c1 := (h7_0.1 1 (.slice none 0 0) rfl).1; have h7_0f1 := (h7_0.1 1 (.slice none 0 0) rfl).2; have h7_0b := h7_0.2.1; have h7_0z := h7_0.2.2; (try simp only [World.size_alloc] at h7_0b h7_0z h7_0c0 h7_0f0 h7_0c1 h7_0f1); have h7_0m := Nat.ne_of_lt h7_0z; have h7_0n := Nat.ne_of_gt h7_0z; clear h7_0)); (try (have hh : Ext w5 w7 := ?g700; (case g700 => ((repeat' (first | with_reducible exact Ext.refl _ | with_reducible assumption | with_reducible apply Ext.alloc_r | with_reducible apply Ext.drew_r | with_reducible apply Ext.drewN_r | with_reducible refine Ext.trans ?_ ‹Ext _ _›)); done)); replace h5_0f0 := hh.frozen h5_0c0 h5_0f0; replace h5_0c0 := hh.cell h5_0c0; replace h5_0f1 := hh.frozen h5_0c1 h5_0f1; replace h5_0c1 := hh.cell h5_0c1; replace h5_0b := h5_0b.ext hh; have h5_0z2 := Nat.lt_of_lt_of_le h5_0z hh.size; have h5_0m2 := Nat.ne_of_lt h5_0z2; have h5_0n2 := Nat.ne_of_gt h5_0z2; clear hh)); (try (have hh : Ext w6 w7 := ?g710; (case g710 => ((repeat' (first | with_reducible exact Ext.refl _ | with_reducible assumption | with_reducible apply Ext.alloc_r | with_reducible apply Ext.drew_r | with_reducible apply Ext.drewN_r | with_reducible refine Ext.trans ?_ ‹Ext _ _›)); done)); replace h6_0f0 := hh.frozen h6_0c0 h6_0f0; replace h6_0c0 := hh.cell h6_0c0; replace h6_0f1 := hh.frozen h6_0c1 h6_0f1; replace h6_0c1 := hh.cell h6_0c1; replace h6_0b := h6_0b.ext hh; have h6_0z2 := Nat.lt_of_lt_of_le h6_0z hh.size; have h6_0m2 := Nat.ne_of_lt h6_0z2; have h6_0n2 := Nat.ne_of_gt h6_0z2; clear hh)))
          | (go_at_call_of 60 (#[Value.agg #[Value.bool sq, Value.slice Aq Lq cq], Value.agg #[Value.bool false, Value.slice Bp Mp dp]]); have hgd := u; clear hgd; refine (mul_z (g3.ext (by repeat' (first | with_reducible exact Ext.refl _ | with_reducible assumption | with_reducible apply Ext.alloc_r | with_reducible apply Ext.drew_r | with_reducible apply Ext.drewN_r | with_reducible refine Ext.trans ?_ ‹Ext _ _›))) (g2.ext (by repeat' (first | with_reducible exact Ext.refl _ | with_reducible assumption | with_reducible apply Ext.alloc_r | with_reducible apply Ext.drew_r | with_reducible apply Ext.drewN_r | with_reducible refine Ext.trans ?_ ‹Ext _ _›))) (by omega) (by omega)).mono ?_; rintro e w6 ⟨sv, Av, cv, Lv, rfl, v, x6⟩; (have zs6 := x6.size); (try simp only [World.size_alloc] at zs6); (try ((with_reducible have h6_0 := box_ext (vs := #[.bool false, .slice none 0 0]) x6); have h6_0c0 := (h6_0.1 0 (.bool false) rfl).1; have h6_0f0 := (h6_0.1 0 (.bool false) rfl).2; have h6_0c1 := (h6_0.1 1 (.slice none 0 0) rfl).1; have h6_0f1 := (h6_0.1 1 (.slice none 0 0) rfl).2; have h6_0b := h6_0.2.1; have h6_0z := h6_0.2.2; (try simp only [World.size_alloc] at h6_0b h6_0z h6_0c0 h6_0f0 h6_0c1 h6_0f1); have h6_0m := Nat.ne_of_lt h6_0z; have h6_0n := Nat.ne_of_gt h6_0z; clear h6_0)))
          | (go_at_call_of 60 (#[Value.agg #[Value.bool sp, Value.slice Ap Lp cp], Value.agg #[Value.bool false, Value.slice Bq Mq dq]]); refine (mul_z (g1.ext (by repeat' (first | with_reducible exact Ext.refl _ | with_reducible assumption | with_reducible apply Ext.alloc_r | with_reducible apply Ext.drew_r | with_reducible apply Ext.drewN_r | with_reducible refine Ext.trans ?_ ‹Ext _ _›))) (g4.ext (by repeat' (first | with_reducible exact Ext.refl _ | with_reducible assumption | with_reducible apply Ext.alloc_r | with_reducible apply Ext.drew_r | with_reducible apply Ext.drewN_r | with_reducible refine Ext.trans ?_ ‹Ext _ _›))) (by omega) (by omega)).mono ?_; rintro e w5 ⟨su, Au, cu, Lu, rfl, u, x5⟩; (have zs5 := x5.size); (try simp only [World.size_alloc, World.size_drew] at zs5); (try ((with_reducible have h5_0 := box_ext (vs := #[.bool false, .slice none 0 0]) ((Ext.drew _).trans x5)); have h5_0c0 := (h5_0.1 0 (.bool false) rfl).1; have h5_0f0 := (h5_0.1 0 (.bool false) rfl).2; have h5_0c1 := (h5_0.1 1 (.slice none 0 0) rfl).1; have h5_0f1 := (h5_0.1 1 (.slice none 0 0) rfl).2; have h5_0b := h5_0.2.1; have h5_0z := h5_0.2.2; (try simp only [World.size_alloc] at h5_0b h5_0z h5_0c0 h5_0f0 h5_0c1 h5_0f1); have h5_0m := Nat.ne_of_lt h5_0z; have h5_0n := Nat.ne_of_gt h5_0z; clear h5_0))))
    | fail
    all_goals (clear HK; go_wp2_with fail; go_meet)
    all_goals
      refine PutV.mk (sb := st) (A := At) (c := ct) (L := Lt) ?_ ?_ ?_ ?_ ?_ ?_ ((t.mono (Nat.zero_le _)).kept ?_) ?_
      · (first | exact Nat.le_refl _ | omega | (simp only [World.size_alloc, World.size_drew]; omega) | (simp; omega))
      · (repeat' (first | with_reducible assumption | with_reducible apply IsBox.set_ | (with_reducible apply IsBox.new; (first | (with_reducible rfl) | simp); done) | with_reducible apply IsBox.alloc_ | with_reducible apply IsBox.drew_ | with_reducible refine IsBox.ext ?_ ‹Ext _ _›))
      · go_simp
      · go_simp
      · go_simp
      · go_simp
      · (repeat' (first | with_reducible exact Kept.refl _ | with_reducible apply Kept.alloc_r | with_reducible apply Kept.drew_r | (with_reducible apply Kept.setZ; (case hb => ((repeat' (first | with_reducible assumption | with_reducible apply IsBox.set_ | (with_reducible apply IsBox.new; (first | (with_reducible rfl) | simp); done) | with_reducible apply IsBox.alloc_ | with_reducible apply IsBox.drew_ | with_reducible refine IsBox.ext ?_ ‹Ext _ _›)); done))) | (with_reducible apply Kept.setI; (case hb => ((repeat' (first | with_reducible assumption | with_reducible apply IsBox.set_ | (with_reducible apply IsBox.new; (first | (with_reducible rfl) | simp); done) | with_reducible apply IsBox.alloc_ | with_reducible apply IsBox.drew_ | with_reducible refine IsBox.ext ?_ ‹Ext _ _›)); done))) | with_reducible refine Kept.trans ?_ (Ext.kept ‹Ext _ _›)))
      · (repeat' (first | with_reducible exact Ext.refl _ | with_reducible assumption | with_reducible apply Ext.alloc_r | with_reducible apply Ext.drew_r | with_reducible apply Ext.drewN_r | with_reducible apply Ext.set_r | with_reducible exact Nat.le_refl _ | omega | with_reducible refine Ext.trans ?_ ‹Ext _ _›))
  case rest =>
    obtain ⟨hszw0, szw1, szw2, szw3, szw4⟩ := HSZ.out.2
    clear kn_0 kn_1 kd_0 kd_1 km_0 km_1 kf_0 kf_1
    have hc_0 := hcut
    obtain ⟨bkk, sk, Ak, ck, Lk, rfl, hbk, hwk, k, xxk⟩ := hc_0
    have x8 := xxk
    clear xxk
    obtain ⟨w8, rfl⟩ : ∃ z : World, z = wc := ⟨_, rfl⟩
    have szw8 : w4.heap.size ≤ w8.heap.size := x8.size
    replace bxa := bxa.ext x8
    replace bxb := bxb.ext x8
    replace bxr := bxr.ext x8
    replace bxn := bxn.ext x8
    replace bxd := bxd.ext x8
    replace bxm := bxm.ext x8
    replace bxf := bxf.ext x8
    have lk_0 := hwk.c0
    have lk_1 := hwk.c1
    clear hwk
    have ka_0 := bxa.c 0 (.bool s1) rfl
    have ka_1 := bxa.c 1 (.slice A1 L1 c1) rfl
    have ka_2 := bxa.c 2 (.slice B1 M1 d1) rfl
    have kb_0 := bxb.c 0 (.bool s2) rfl
    have kb_1 := bxb.c 1 (.slice A2 L2 c2) rfl
    have kb_2 := bxb.c 2 (.slice B2 M2 d2) rfl
    have kr_0 := bxr.c 0 (.bool false) rfl
    have fr_0 := bxr.f 0
    have kr_1 := bxr.c 1 (.slice none 0 0) rfl
    have fr_1 := bxr.f 1
    have kr_2 := bxr.c 2 (.slice none 0 0) rfl
    have fr_2 := bxr.f 2
    have kn_0 := bxn.c 0 (.bool sp) rfl
    have kn_1 := bxn.c 1 (.slice Ap Lp cp) rfl
    have kd_0 := bxd.c 0 (.bool false) rfl
    have kd_1 := bxd.c 1 (.slice Bp Mp dp) rfl
    have km_0 := bxm.c 0 (.bool sq) rfl
    have km_1 := bxm.c 1 (.slice Aq Lq cq) rfl
    have kf_0 := bxf.c 0 (.bool false) rfl
    have kf_1 := bxf.c 1 (.slice Bq Mq dq) rfl
    go_wp2_with fail
    have HK : Hid (∀ w', Ext w8 w' → (w'.cell? ⟨w1.heap.size + 1, 0, none⟩ = some (.bool false) ∧ w'.cell? ⟨w1.heap.size + 1, 1, none⟩ = some (.slice Bp Mp dp) ∧ w'.cell? ⟨w3.heap.size + 1, 0, none⟩ = some (.bool false) ∧ w'.cell? ⟨w3.heap.size + 1, 1, none⟩ = some (.slice Bq Mq dq) ∧ w'.cell? ⟨bkk, 0, none⟩ = some (.bool sk) ∧ w'.cell? ⟨bkk, 1, none⟩ = some (.slice Ak Lk ck))) := fun w' hk => ⟨hk.cell kd_0, hk.cell kd_1, hk.cell kf_0, hk.cell kf_1, hk.cell lk_0, hk.cell lk_1⟩
    have nerd : w.heap.size + 1 + 1 ≠ w1.heap.size + 1 := by omega
    have nerf : w.heap.size + 1 + 1 ≠ w3.heap.size + 1 := by omega
    have nerlk : w.heap.size + 1 + 1 ≠ bkk := by omega
    have HSr : Hid (∀ (w' : World) (i : Nat) (u : Value), (w'.cell? ⟨w1.heap.size + 1, 0, none⟩ = some (.bool false) ∧ w'.cell? ⟨w1.heap.size + 1, 1, none⟩ = some (.slice Bp Mp dp) ∧ w'.cell? ⟨w3.heap.size + 1, 0, none⟩ = some (.bool false) ∧ w'.cell? ⟨w3.heap.size + 1, 1, none⟩ = some (.slice Bq Mq dq) ∧ w'.cell? ⟨bkk, 0, none⟩ = some (.bool sk) ∧ w'.cell? ⟨bkk, 1, none⟩ = some (.slice Ak Lk ck)) → ((fun (w' : World) => (w'.cell? ⟨w1.heap.size + 1, 0, none⟩ = some (.bool false) ∧ w'.cell? ⟨w1.heap.size + 1, 1, none⟩ = some (.slice Bp Mp dp) ∧ w'.cell? ⟨w3.heap.size + 1, 0, none⟩ = some (.bool false) ∧ w'.cell? ⟨w3.heap.size + 1, 1, none⟩ = some (.slice Bq Mq dq) ∧ w'.cell? ⟨bkk, 0, none⟩ = some (.bool sk) ∧ w'.cell? ⟨bkk, 1, none⟩ = some (.slice Ak Lk ck))) (w'.setCell ⟨w.heap.size + 1 + 1, i, none⟩ u))) := fun w' i u hs => ⟨cell_far nerd hs.1, cell_far nerd hs.2.1, cell_far nerf hs.2.2.1, cell_far nerf hs.2.2.2.1, cell_far nerlk hs.2.2.2.2.1, cell_far nerlk hs.2.2.2.2.2⟩
    go_region_held3 (fun w' => w'.cell? ⟨w1.heap.size + 1, 0, none⟩ = some (.bool false) ∧ w'.cell? ⟨w1.heap.size + 1, 1, none⟩ = some (.slice Bp Mp dp) ∧ w'.cell? ⟨w3.heap.size + 1, 0, none⟩ = some (.bool false) ∧ w'.cell? ⟨w3.heap.size + 1, 1, none⟩ = some (.slice Bq Mq dq) ∧ w'.cell? ⟨bkk, 0, none⟩ = some (.bool sk) ∧ w'.cell? ⟨bkk, 1, none⟩ = some (.slice Ak Lk ck))
      (((repeat (first | (with_reducible refine HSr.out _ _ _ ?_))); (with_reducible refine HK.out _ ?_; (repeat' (first | with_reducible exact Ext.refl _ | with_reducible assumption | with_reducible apply Ext.alloc_r | with_reducible apply Ext.drew_r | with_reducible apply Ext.drewN_r | with_reducible refine Ext.trans ?_ ‹Ext _ _›)))))
      (first
        | (go_at_call 73; have hgd := j; clear hgd; refine (reduce_r (k.zv.ext (by repeat' (first | with_reducible exact Ext.refl _ | with_reducible assumption | with_reducible apply Ext.alloc_r | with_reducible apply Ext.drew_r | with_reducible apply Ext.drewN_r | with_reducible refine Ext.trans ?_ ‹Ext _ _›))) (j.zv.ext (by repeat' (first | with_reducible exact Ext.refl _ | with_reducible assumption | with_reducible apply Ext.alloc_r | with_reducible apply Ext.drew_r | with_reducible apply Ext.drewN_r | with_reducible refine Ext.trans ?_ ‹Ext _ _›))) hpos HDN HDD hN).mono ?_; rintro e w11 ⟨sz, Az, cz, Lz, Bz, dz, Mz, rfl, z, x11⟩; have yl : Ext w8 w11 := (by repeat' (first | with_reducible exact Ext.refl _ | with_reducible assumption | with_reducible apply Ext.alloc_r | with_reducible apply Ext.drew_r | with_reducible apply Ext.drewN_r | with_reducible refine Ext.trans ?_ ‹Ext _ _›)); have cr_0 := (bxr.ext yl).c 0 (.bool false) rfl; have gr_0 := (bxr.ext yl).f 0; have cr_1 := (bxr.ext yl).c 1 (.slice none 0 0) rfl; have gr_1 := (bxr.ext yl).f 1; have cr_2 := (bxr.ext yl).c 2 (.slice none 0 0) rfl; have gr_2 := (bxr.ext yl).f 2)
        | (go_at_call 59; have hgd := i; clear hgd; refine (toP hcast (zshl_z (m := 1) (i.zv.ext (by repeat' (first | with_reducible exact Ext.refl _ | with_reducible assumption | with_reducible apply Ext.alloc_r | with_reducible apply Ext.drew_r | with_reducible apply Ext.drewN_r | with_reducible refine Ext.trans ?_ ‹Ext _ _›))) (by omega) (by omega) rfl)).mono ?_; rintro e w10 ⟨Aj, cj, Lj, rfl, j, x10⟩)
        | (go_at_call 60; refine (mul_z (g2.ext (by repeat' (first | with_reducible exact Ext.refl _ | with_reducible assumption | with_reducible apply Ext.alloc_r | with_reducible apply Ext.drew_r | with_reducible apply Ext.drewN_r | with_reducible refine Ext.trans ?_ ‹Ext _ _›))) (g4.ext (by repeat' (first | with_reducible exact Ext.refl _ | with_reducible assumption | with_reducible apply Ext.alloc_r | with_reducible apply Ext.drew_r | with_reducible apply Ext.drewN_r | with_reducible refine Ext.trans ?_ ‹Ext _ _›))) (by omega) (by omega)).mono ?_; rintro e w9 ⟨si, Ai, ci, Li, rfl, i, x9⟩))
    clear ka_0 ka_1 ka_2 kb_0 kb_1 kb_2 kr_0 fr_0 kr_1 fr_1 kr_2 fr_2 kn_0 kn_1 kd_0 kd_1 km_0 km_1 kf_0 kf_1
    clear HK HSr nerd nerf nerlk
    clear cr_0 gr_0
    clear cr_1 gr_1
    clear cr_2 gr_2
    clear yl
    have szw9 : w8.heap.size ≤ w9.heap.size := (show Ext w8 w9 from (by repeat' (first | with_reducible exact Ext.refl _ | with_reducible assumption | with_reducible apply Ext.alloc_r | with_reducible apply Ext.drew_r | with_reducible apply Ext.drewN_r | with_reducible refine Ext.trans ?_ ‹Ext _ _›))).size
    have szw10 : w8.heap.size ≤ w10.heap.size := (show Ext w8 w10 from (by repeat' (first | with_reducible exact Ext.refl _ | with_reducible assumption | with_reducible apply Ext.alloc_r | with_reducible apply Ext.drew_r | with_reducible apply Ext.drewN_r | with_reducible refine Ext.trans ?_ ‹Ext _ _›))).size
    have xhw11 : Ext w8 w11 := (by repeat' (first | with_reducible exact Ext.refl _ | with_reducible assumption | with_reducible apply Ext.alloc_r | with_reducible apply Ext.drew_r | with_reducible apply Ext.drewN_r | with_reducible refine Ext.trans ?_ ‹Ext _ _›))
    have szw11 : w8.heap.size ≤ w11.heap.size := xhw11.size
    replace bxa := bxa.ext xhw11
    replace bxb := bxb.ext xhw11
    replace bxr := bxr.ext xhw11
    replace bxn := bxn.ext xhw11
    replace bxd := bxd.ext xhw11
    replace bxm := bxm.ext xhw11
    replace bxf := bxf.ext xhw11
    replace lk_0 := xhw11.cell lk_0
    replace lk_1 := xhw11.cell lk_1
    clear k
    have HR2 := z.mono (show w.heap.size ≤ _ by omega)
    clear z
    obtain ⟨w12, hw⟩ : ∃ z : World, z = (((w11.setCell ⟨w.heap.size + 1 + 1, 0, none⟩ (.bool sz)).setCell ⟨w.heap.size + 1 + 1, 1, none⟩ (.slice Az Lz cz)).setCell ⟨w.heap.size + 1 + 1, 2, none⟩ (.slice Bz Mz dz)) := ⟨_, rfl⟩
    rw [← hw]
    have kw12 : Kept w11 w12 := by rw [hw]; exact (Kept.set_ (Kept.set_ (Kept.set_ (Kept.refl _) bxr.isBox plain_rat) (IsBox.set_ bxr.isBox) plain_rat) (IsBox.set_ (IsBox.set_ bxr.isBox)) plain_rat)
    have nba : BK w12 (w.heap.size) 27 #[.bool s1, .slice A1 L1 c1, .slice B1 M1 d1] := by rw [hw]; exact (BK.far (BK.far (BK.far bxa (show w.heap.size ≠ w.heap.size + 1 + 1 by omega) 0 _) (show w.heap.size ≠ w.heap.size + 1 + 1 by omega) 1 _) (show w.heap.size ≠ w.heap.size + 1 + 1 by omega) 2 _)
    have nbb : BK w12 (w.heap.size + 1) 27 #[.bool s2, .slice A2 L2 c2, .slice B2 M2 d2] := by rw [hw]; exact (BK.far (BK.far (BK.far bxb (show w.heap.size + 1 ≠ w.heap.size + 1 + 1 by omega) 0 _) (show w.heap.size + 1 ≠ w.heap.size + 1 + 1 by omega) 1 _) (show w.heap.size + 1 ≠ w.heap.size + 1 + 1 by omega) 2 _)
    have nbr : BK w12 (w.heap.size + 1 + 1) 27 #[.bool sz, .slice Az Lz cz, .slice Bz Mz dz] := by rw [hw]; exact (BK.set (i := 2) (u := .slice Bz Mz dz) (vs' := #[.bool sz, .slice Az Lz cz, .slice Bz Mz dz]) (BK.set (i := 1) (u := .slice Az Lz cz) (vs' := #[.bool sz, .slice Az Lz cz, .slice none 0 0]) (BK.set (i := 0) (u := .bool sz) (vs' := #[.bool sz, .slice none 0 0, .slice none 0 0]) bxr rfl) rfl) rfl)
    have nbn : BK w12 (w1.heap.size) 25 #[.bool sp, .slice Ap Lp cp] := by rw [hw]; exact (BK.far (BK.far (BK.far bxn (show w1.heap.size ≠ w.heap.size + 1 + 1 by omega) 0 _) (show w1.heap.size ≠ w.heap.size + 1 + 1 by omega) 1 _) (show w1.heap.size ≠ w.heap.size + 1 + 1 by omega) 2 _)
    have nbd : BK w12 (w1.heap.size + 1) 25 #[.bool false, .slice Bp Mp dp] := by rw [hw]; exact (BK.far (BK.far (BK.far bxd (show w1.heap.size + 1 ≠ w.heap.size + 1 + 1 by omega) 0 _) (show w1.heap.size + 1 ≠ w.heap.size + 1 + 1 by omega) 1 _) (show w1.heap.size + 1 ≠ w.heap.size + 1 + 1 by omega) 2 _)
    have nbm : BK w12 (w3.heap.size) 25 #[.bool sq, .slice Aq Lq cq] := by rw [hw]; exact (BK.far (BK.far (BK.far bxm (show w3.heap.size ≠ w.heap.size + 1 + 1 by omega) 0 _) (show w3.heap.size ≠ w.heap.size + 1 + 1 by omega) 1 _) (show w3.heap.size ≠ w.heap.size + 1 + 1 by omega) 2 _)
    have nbf : BK w12 (w3.heap.size + 1) 25 #[.bool false, .slice Bq Mq dq] := by rw [hw]; exact (BK.far (BK.far (BK.far bxf (show w3.heap.size + 1 ≠ w.heap.size + 1 + 1 by omega) 0 _) (show w3.heap.size + 1 ≠ w.heap.size + 1 + 1 by omega) 1 _) (show w3.heap.size + 1 ≠ w.heap.size + 1 + 1 by omega) 2 _)
    have x12 : Ext w w12 := by rw [hw]; have hxp : Ext w w11 := (by repeat' (first | with_reducible exact Ext.refl _ | with_reducible assumption | with_reducible apply Ext.alloc_r | with_reducible apply Ext.drew_r | with_reducible apply Ext.drewN_r | with_reducible refine Ext.trans ?_ ‹Ext _ _›)); exact (Ext.set_ (Ext.set_ (Ext.set_ hxp (show _ ≤ w.heap.size + 1 + 1 by omega)) (show _ ≤ w.heap.size + 1 + 1 by omega)) (show _ ≤ w.heap.size + 1 + 1 by omega))
    clear bxa
    clear bxb
    clear bxr
    clear bxn
    clear bxd
    clear bxm
    clear bxf
    have bxa := nba
    clear nba
    have bxb := nbb
    clear nbb
    have bxr := nbr
    clear nbr
    have bxn := nbn
    clear nbn
    have bxd := nbd
    clear nbd
    have bxm := nbm
    clear nbm
    have bxf := nbf
    clear nbf
    have szw12 : w12.heap.size = w11.heap.size := by rw [hw]; simp
    replace HR2 := (HR2.ext (by repeat' (first | with_reducible exact Ext.refl _ | with_reducible assumption | with_reducible apply Ext.alloc_r | with_reducible apply Ext.drew_r | with_reducible apply Ext.drewN_r | with_reducible refine Ext.trans ?_ ‹Ext _ _›))).kept kw12
    clear hw kw12
    have HRO := Lib.hid HR2
    clear HR2
    have ka_0 := bxa.c 0 (.bool s1) rfl
    have ka_1 := bxa.c 1 (.slice A1 L1 c1) rfl
    have ka_2 := bxa.c 2 (.slice B1 M1 d1) rfl
    have kb_0 := bxb.c 0 (.bool s2) rfl
    have kb_1 := bxb.c 1 (.slice A2 L2 c2) rfl
    have kb_2 := bxb.c 2 (.slice B2 M2 d2) rfl
    have kr_0 := bxr.c 0 (.bool sz) rfl
    have kr_1 := bxr.c 1 (.slice Az Lz cz) rfl
    have kr_2 := bxr.c 2 (.slice Bz Mz dz) rfl
    have kn_0 := bxn.c 0 (.bool sp) rfl
    have kn_1 := bxn.c 1 (.slice Ap Lp cp) rfl
    have kd_0 := bxd.c 0 (.bool false) rfl
    have kd_1 := bxd.c 1 (.slice Bp Mp dp) rfl
    have km_0 := bxm.c 0 (.bool sq) rfl
    have km_1 := bxm.c 1 (.slice Aq Lq cq) rfl
    have kf_0 := bxf.c 0 (.bool false) rfl
    have kf_1 := bxf.c 1 (.slice Bq Mq dq) rfl
    go_wp2_with fail
    clear ka_0 ka_1 ka_2 kb_0 kb_1 kb_2 kr_0 kr_1 kr_2 kn_0 kn_1 kd_0 kd_1 km_0 km_1 kf_0 kf_1
    have kr_0 := bxr.c 0 (.bool sz) rfl
    have kr_1 := bxr.c 1 (.slice Az Lz cz) rfl
    have kr_2 := bxr.c 2 (.slice Bz Mz dz) rfl
    refine bodyPost_ret (v := .agg #[.bool sz, .slice Az Lz cz, .slice Bz Mz dz]) (by simp [results, Try.results36, go_sem, kr_0, kr_1, kr_2]) rfl ?_
    exact ⟨_, _, _, _, _, _, _, rfl, (by rw [HQ.out]; exact HRO.out), x12⟩
set_option maxHeartbeats 4000000 in
set_option maxRecDepth 100000 in
theorem rint_yes {w : World} {s1 : Bool} {A1 B1 : Option Addr} {c1 d1 L1 M1 N1 : Nat} {q1 : Rat} (h1 : RV w s1 A1 c1 L1 B1 d1 M1 N1 q1) (hd : q1.den = 1) (hN : N1 ≤ 1000000) :
    Calls Try.prog 27 #[Value.agg #[.bool s1, .slice A1 L1 c1, .slice B1 M1 d1]] w fun e w' => ∃ s A c L, e = .returned (.tuple #[.agg #[.bool s, .slice A L c], .bool true]) ∧ ZO w' w.heap.size s A c L q1.num ∧ Ext w w' := by
  go_enter Try.func27, Try.ntmps27
  go_wp2_with fail
  obtain ⟨w0, hw0⟩ : ∃ z : World, z = ((w.alloc (.cells #[.bool s1, .slice A1 L1 c1, .slice B1 M1 d1] 27)).alloc (.cells #[.bool false, .slice none 0 0] 25)) := ⟨_, rfl⟩
  rw [← hw0]
  have bxa : BK w0 (w.heap.size) 27 #[.bool s1, .slice A1 L1 c1, .slice B1 M1 d1] := by rw [hw0]; have h5 := (BK.ext (BK.new w #[.bool s1, .slice A1 L1 c1, .slice B1 M1 d1] 27) (Ext.alloc _ (.cells #[.bool false, .slice none 0 0] 25))); simpa only [World.size_alloc] using h5
  have bxs : BK w0 (w.heap.size + 1) 25 #[.bool false, .slice none 0 0] := by rw [hw0]; have h5 := (BK.new (w.alloc (.cells #[.bool s1, .slice A1 L1 c1, .slice B1 M1 d1] 27)) #[.bool false, .slice none 0 0] 25); simpa only [World.size_alloc] using h5
  have hszw0 : w0.heap.size = w.heap.size + 1 + 1 := by rw [hw0]; simp only [World.size_alloc]
  have xw0 : Ext w w0 := by rw [hw0]; exact ((Ext.alloc _ _).trans (Ext.alloc _ _))
  clear hw0
  refine (parts_r (h1.ext (by repeat' (first | with_reducible exact Ext.refl _ | with_reducible assumption | with_reducible apply Ext.alloc_r | with_reducible apply Ext.drew_r | with_reducible apply Ext.drewN_r | with_reducible refine Ext.trans ?_ ‹Ext _ _›)))).mono ?_
  rintro e w1 ⟨xp, yp, sp, Ap, cp, Lp, Bp, dp, Mp, rfl, p1, p2, p3, p4, p5, p6, x1⟩
  have szw1 : w0.heap.size ≤ w1.heap.size := x1.size
  replace bxa := bxa.ext x1
  replace bxs := bxs.ext x1
  have hr : xp.tmod (yp : Int) = 0 := by rw [p4] at hd; exact (den_one_mk p3).1 hd
  have HQ : Hid (q1.num = xp.tdiv (yp : Int)) := by show _ = _; rw [p4]; exact num_one_mk p3 hr
  have k1 : dl ((yp : Int)).natAbs = dl yp := by rw [Int.natAbs_natCast]
  have hE := exact_yes p1 p2 (by omega) hr (by omega) (by omega)
  clear p1 p2 p4 hr hd h1
  have ka_0 := bxa.c 0 (.bool s1) rfl
  have ka_1 := bxa.c 1 (.slice A1 L1 c1) rfl
  have ka_2 := bxa.c 2 (.slice B1 M1 d1) rfl
  have ks_0 := bxs.c 0 (.bool false) rfl
  have ks_1 := bxs.c 1 (.slice none 0 0) rfl
  go_wp2_with fail
  clear ka_0 ka_1 ka_2 ks_0 ks_1
  refine (hE).mono ?_
  rintro e w2 ⟨sv, Av, cv, Lv, rfl, v, x2⟩
  have szw2 : w1.heap.size ≤ w2.heap.size := x2.size
  replace bxa := bxa.ext x2
  replace bxs := bxs.ext x2
  have HV := Lib.hid v
  clear v hE
  have ka_0 := bxa.c 0 (.bool s1) rfl
  have ka_1 := bxa.c 1 (.slice A1 L1 c1) rfl
  have ka_2 := bxa.c 2 (.slice B1 M1 d1) rfl
  have ks_0 := bxs.c 0 (.bool false) rfl
  have fs_0 := bxs.f 0
  have ks_1 := bxs.c 1 (.slice none 0 0) rfl
  have fs_1 := bxs.f 1
  have t1a_0 := fun (o0 : Obj) => ((Ext.alloc w2 o0).cell (bxa.c 0 (.bool s1) rfl))
  have t1a_1 := fun (o0 : Obj) => ((Ext.alloc w2 o0).cell (bxa.c 1 (.slice A1 L1 c1) rfl))
  have t1a_2 := fun (o0 : Obj) => ((Ext.alloc w2 o0).cell (bxa.c 2 (.slice B1 M1 d1) rfl))
  have t1s_0 := fun (o0 : Obj) => ((Ext.alloc w2 o0).cell (bxs.c 0 (.bool false) rfl))
  have z1s_0 := fun (o0 : Obj) => (Ext.frozen (Ext.alloc w2 o0) (bxs.c 0 (.bool false) rfl) (bxs.f 0))
  have t1s_1 := fun (o0 : Obj) => ((Ext.alloc w2 o0).cell (bxs.c 1 (.slice none 0 0) rfl))
  have z1s_1 := fun (o0 : Obj) => (Ext.frozen (Ext.alloc w2 o0) (bxs.c 1 (.slice none 0 0) rfl) (bxs.f 1))
  go_wp2_with fail
  clear ka_0 ka_1 ka_2 ks_0 fs_0 ks_1 fs_1 t1a_0 t1a_1 t1a_2 t1s_0 z1s_0 t1s_1 z1s_1
  obtain ⟨w3, hw⟩ : ∃ z : World, z = (w2.alloc (.cells #[.bool sv, .slice Av Lv cv] 25)) := ⟨_, rfl⟩
  rw [← hw]
  have x3 : Ext w2 w3 := by rw [hw]; exact (Ext.alloc _ _)
  replace bxa := bxa.ext x3
  replace bxs := bxs.ext x3
  have bxv : BK w3 (w2.heap.size) 25 #[.bool sv, .slice Av Lv cv] := by rw [hw]; have h5 := (BK.new w2 #[.bool sv, .slice Av Lv cv] 25); simpa only [World.size_alloc] using h5
  have szw3 : w3.heap.size = w2.heap.size + 1 := by rw [hw]; simp only [World.size_alloc]
  clear hw
  have v := HV.out.ext (show Ext _ w3 from (by repeat' (first | with_reducible exact Ext.refl _ | with_reducible assumption | with_reducible apply Ext.alloc_r | with_reducible apply Ext.drew_r | with_reducible apply Ext.drewN_r | with_reducible refine Ext.trans ?_ ‹Ext _ _›)))
  clear HV
  obtain ⟨w4, hw⟩ : ∃ z : World, z = ((w3.setCell ⟨w.heap.size + 1, 0, none⟩ (.bool sv)).setCell ⟨w.heap.size + 1, 1, none⟩ (.slice Av Lv cv)) := ⟨_, rfl⟩
  rw [← hw]
  have kw4 : Kept w3 w4 := by rw [hw]; exact (Kept.set_ (Kept.set_ (Kept.refl _) bxs.isBox plain_int) (IsBox.set_ bxs.isBox) plain_int)
  have nba : BK w4 (w.heap.size) 27 #[.bool s1, .slice A1 L1 c1, .slice B1 M1 d1] := by rw [hw]; exact (BK.far (BK.far bxa (show w.heap.size ≠ w.heap.size + 1 by omega) 0 _) (show w.heap.size ≠ w.heap.size + 1 by omega) 1 _)
  have nbs : BK w4 (w.heap.size + 1) 25 #[.bool sv, .slice Av Lv cv] := by rw [hw]; exact (BK.set (i := 1) (u := .slice Av Lv cv) (vs' := #[.bool sv, .slice Av Lv cv]) (BK.set (i := 0) (u := .bool sv) (vs' := #[.bool sv, .slice none 0 0]) bxs rfl) rfl)
  have nbv : BK w4 (w2.heap.size) 25 #[.bool sv, .slice Av Lv cv] := by rw [hw]; exact (BK.far (BK.far bxv (show w2.heap.size ≠ w.heap.size + 1 by omega) 0 _) (show w2.heap.size ≠ w.heap.size + 1 by omega) 1 _)
  have x4 : Ext w w4 := by rw [hw]; have hxp : Ext w w3 := (by repeat' (first | with_reducible exact Ext.refl _ | with_reducible assumption | with_reducible apply Ext.alloc_r | with_reducible apply Ext.drew_r | with_reducible apply Ext.drewN_r | with_reducible refine Ext.trans ?_ ‹Ext _ _›)); exact (Ext.set_ (Ext.set_ hxp (show _ ≤ w.heap.size + 1 by omega)) (show _ ≤ w.heap.size + 1 by omega))
  clear bxa
  clear bxs
  clear bxv
  have bxa := nba
  clear nba
  have bxs := nbs
  clear nbs
  have bxv := nbv
  clear nbv
  have szw4 : w4.heap.size = w3.heap.size := by rw [hw]; simp
  replace v := (v.ext (by repeat' (first | with_reducible exact Ext.refl _ | with_reducible assumption | with_reducible apply Ext.alloc_r | with_reducible apply Ext.drew_r | with_reducible apply Ext.drewN_r | with_reducible refine Ext.trans ?_ ‹Ext _ _›))).kept kw4
  clear hw kw4
  have hu : ZO w4 w.heap.size sv Av cv Lv q1.num := by rw [HQ.out]; exact v.mono (by omega)
  have HU := Lib.hid hu
  clear v hu
  have ks_0 := bxs.c 0 (.bool sv) rfl
  have ks_1 := bxs.c 1 (.slice Av Lv cv) rfl
  refine bodyPost_ret (v := .tuple #[.agg #[.bool sv, .slice Av Lv cv], .bool true]) (by simp [results, Try.results27, go_sem, ks_0, ks_1]) rfl ?_
  exact ⟨_, _, _, _, rfl, HU.out, x4⟩
set_option maxHeartbeats 4000000 in
set_option maxRecDepth 100000 in
theorem rint_no {w : World} {s1 : Bool} {A1 B1 : Option Addr} {c1 d1 L1 M1 N1 : Nat} {q1 : Rat} (h1 : RV w s1 A1 c1 L1 B1 d1 M1 N1 q1) (hd : q1.den ≠ 1) (hN : N1 ≤ 1000000) :
    Calls Try.prog 27 #[Value.agg #[.bool s1, .slice A1 L1 c1, .slice B1 M1 d1]] w fun e w' => e = .returned (.tuple #[.agg #[.bool false, .slice none 0 0], .bool false]) ∧ Ext w w' := by
  go_enter Try.func27, Try.ntmps27
  go_wp2_with fail
  obtain ⟨w0, hw0⟩ : ∃ z : World, z = ((w.alloc (.cells #[.bool s1, .slice A1 L1 c1, .slice B1 M1 d1] 27)).alloc (.cells #[.bool false, .slice none 0 0] 25)) := ⟨_, rfl⟩
  rw [← hw0]
  have bxa : BK w0 (w.heap.size) 27 #[.bool s1, .slice A1 L1 c1, .slice B1 M1 d1] := by rw [hw0]; have h5 := (BK.ext (BK.new w #[.bool s1, .slice A1 L1 c1, .slice B1 M1 d1] 27) (Ext.alloc _ (.cells #[.bool false, .slice none 0 0] 25))); simpa only [World.size_alloc] using h5
  have bxs : BK w0 (w.heap.size + 1) 25 #[.bool false, .slice none 0 0] := by rw [hw0]; have h5 := (BK.new (w.alloc (.cells #[.bool s1, .slice A1 L1 c1, .slice B1 M1 d1] 27)) #[.bool false, .slice none 0 0] 25); simpa only [World.size_alloc] using h5
  have hszw0 : w0.heap.size = w.heap.size + 1 + 1 := by rw [hw0]; simp only [World.size_alloc]
  have xw0 : Ext w w0 := by rw [hw0]; exact ((Ext.alloc _ _).trans (Ext.alloc _ _))
  clear hw0
  refine (parts_r (h1.ext (by repeat' (first | with_reducible exact Ext.refl _ | with_reducible assumption | with_reducible apply Ext.alloc_r | with_reducible apply Ext.drew_r | with_reducible apply Ext.drewN_r | with_reducible refine Ext.trans ?_ ‹Ext _ _›)))).mono ?_
  rintro e w1 ⟨xp, yp, sp, Ap, cp, Lp, Bp, dp, Mp, rfl, p1, p2, p3, p4, p5, p6, x1⟩
  have szw1 : w0.heap.size ≤ w1.heap.size := x1.size
  replace bxa := bxa.ext x1
  replace bxs := bxs.ext x1
  have hr : xp.tmod (yp : Int) ≠ 0 := by rw [p4] at hd; exact fun h => hd ((den_one_mk p3).2 h)
  have k1 : dl ((yp : Int)).natAbs = dl yp := by rw [Int.natAbs_natCast]
  have hE := exact_no p1 p2 (by omega) hr (by omega) (by omega)
  clear p1 p2 p4 hr hd h1
  have ka_0 := bxa.c 0 (.bool s1) rfl
  have ka_1 := bxa.c 1 (.slice A1 L1 c1) rfl
  have ka_2 := bxa.c 2 (.slice B1 M1 d1) rfl
  have ks_0 := bxs.c 0 (.bool false) rfl
  have ks_1 := bxs.c 1 (.slice none 0 0) rfl
  go_wp2_with fail
  clear ka_0 ka_1 ka_2 ks_0 ks_1
  refine (hE).mono ?_
  rintro e w2 ⟨rfl, x2⟩
  have szw2 : w1.heap.size ≤ w2.heap.size := x2.size
  replace bxa := bxa.ext x2
  replace bxs := bxs.ext x2
  clear hE
  have ka_0 := bxa.c 0 (.bool s1) rfl
  have ka_1 := bxa.c 1 (.slice A1 L1 c1) rfl
  have ka_2 := bxa.c 2 (.slice B1 M1 d1) rfl
  have ks_0 := bxs.c 0 (.bool false) rfl
  have fs_0 := bxs.f 0
  have ks_1 := bxs.c 1 (.slice none 0 0) rfl
  have fs_1 := bxs.f 1
  have t1a_0 := fun (o0 : Obj) => ((Ext.alloc w2 o0).cell (bxa.c 0 (.bool s1) rfl))
  have t1a_1 := fun (o0 : Obj) => ((Ext.alloc w2 o0).cell (bxa.c 1 (.slice A1 L1 c1) rfl))
  have t1a_2 := fun (o0 : Obj) => ((Ext.alloc w2 o0).cell (bxa.c 2 (.slice B1 M1 d1) rfl))
  have t1s_0 := fun (o0 : Obj) => ((Ext.alloc w2 o0).cell (bxs.c 0 (.bool false) rfl))
  have z1s_0 := fun (o0 : Obj) => (Ext.frozen (Ext.alloc w2 o0) (bxs.c 0 (.bool false) rfl) (bxs.f 0))
  have t1s_1 := fun (o0 : Obj) => ((Ext.alloc w2 o0).cell (bxs.c 1 (.slice none 0 0) rfl))
  have z1s_1 := fun (o0 : Obj) => (Ext.frozen (Ext.alloc w2 o0) (bxs.c 1 (.slice none 0 0) rfl) (bxs.f 1))
  go_wp2_with fail
  clear ka_0 ka_1 ka_2 ks_0 fs_0 ks_1 fs_1 t1a_0 t1a_1 t1a_2 t1s_0 z1s_0 t1s_1 z1s_1
  obtain ⟨w3, hw⟩ : ∃ z : World, z = (w2.alloc (.cells #[.bool false, .slice none 0 0] 25)) := ⟨_, rfl⟩
  rw [← hw]
  have x3 : Ext w2 w3 := by rw [hw]; exact (Ext.alloc _ _)
  replace bxa := bxa.ext x3
  replace bxs := bxs.ext x3
  have bxv : BK w3 (w2.heap.size) 25 #[.bool false, .slice none 0 0] := by rw [hw]; have h5 := (BK.new w2 #[.bool false, .slice none 0 0] 25); simpa only [World.size_alloc] using h5
  have szw3 : w3.heap.size = w2.heap.size + 1 := by rw [hw]; simp only [World.size_alloc]
  clear hw
  obtain ⟨w4, hw⟩ : ∃ z : World, z = ((w3.setCell ⟨w.heap.size + 1, 0, none⟩ (.bool false)).setCell ⟨w.heap.size + 1, 1, none⟩ (.slice none 0 0)) := ⟨_, rfl⟩
  rw [← hw]
  have kw4 : Kept w3 w4 := by rw [hw]; exact (Kept.set_ (Kept.set_ (Kept.refl _) bxs.isBox plain_int) (IsBox.set_ bxs.isBox) plain_int)
  have nba : BK w4 (w.heap.size) 27 #[.bool s1, .slice A1 L1 c1, .slice B1 M1 d1] := by rw [hw]; exact (BK.far (BK.far bxa (show w.heap.size ≠ w.heap.size + 1 by omega) 0 _) (show w.heap.size ≠ w.heap.size + 1 by omega) 1 _)
  have nbs : BK w4 (w.heap.size + 1) 25 #[.bool false, .slice none 0 0] := by rw [hw]; exact (BK.set (i := 1) (u := .slice none 0 0) (vs' := #[.bool false, .slice none 0 0]) (BK.set (i := 0) (u := .bool false) (vs' := #[.bool false, .slice none 0 0]) bxs rfl) rfl)
  have nbv : BK w4 (w2.heap.size) 25 #[.bool false, .slice none 0 0] := by rw [hw]; exact (BK.far (BK.far bxv (show w2.heap.size ≠ w.heap.size + 1 by omega) 0 _) (show w2.heap.size ≠ w.heap.size + 1 by omega) 1 _)
  have x4 : Ext w w4 := by rw [hw]; have hxp : Ext w w3 := (by repeat' (first | with_reducible exact Ext.refl _ | with_reducible assumption | with_reducible apply Ext.alloc_r | with_reducible apply Ext.drew_r | with_reducible apply Ext.drewN_r | with_reducible refine Ext.trans ?_ ‹Ext _ _›)); exact (Ext.set_ (Ext.set_ hxp (show _ ≤ w.heap.size + 1 by omega)) (show _ ≤ w.heap.size + 1 by omega))
  clear bxa
  clear bxs
  clear bxv
  have bxa := nba
  clear nba
  have bxs := nbs
  clear nbs
  have bxv := nbv
  clear nbv
  have szw4 : w4.heap.size = w3.heap.size := by rw [hw]; simp
  clear hw kw4
  have ks_0 := bxs.c 0 (.bool false) rfl
  have ks_1 := bxs.c 1 (.slice none 0 0) rfl
  refine bodyPost_ret (v := .tuple #[.agg #[.bool false, .slice none 0 0], .bool false]) (by simp [results, Try.results27, go_sem, ks_0, ks_1]) rfl ?_
  exact ⟨rfl, x4⟩
set_option maxHeartbeats 4000000 in
set_option maxRecDepth 100000 in
theorem rfloor_r {w : World} {s1 : Bool} {A1 B1 : Option Addr} {c1 d1 L1 M1 N1 : Nat} {q1 : Rat} (h1 : RV w s1 A1 c1 L1 B1 d1 M1 N1 q1) (hN : N1 ≤ 1000000) :
    Calls Try.prog 25 #[Value.agg #[.bool s1, .slice A1 L1 c1, .slice B1 M1 d1]] w (RetZ w (floorQ q1)) := by
  go_enter Try.func25, Try.ntmps25
  go_wp2_with fail
  obtain ⟨w0, hw0⟩ : ∃ z : World, z = ((w.alloc (.cells #[.bool s1, .slice A1 L1 c1, .slice B1 M1 d1] 27)).alloc (.cells #[.bool false, .slice none 0 0] 25)) := ⟨_, rfl⟩
  rw [← hw0]
  have bxa : BK w0 (w.heap.size) 27 #[.bool s1, .slice A1 L1 c1, .slice B1 M1 d1] := by rw [hw0]; have h5 := (BK.ext (BK.new w #[.bool s1, .slice A1 L1 c1, .slice B1 M1 d1] 27) (Ext.alloc _ (.cells #[.bool false, .slice none 0 0] 25))); simpa only [World.size_alloc] using h5
  have bxs : BK w0 (w.heap.size + 1) 25 #[.bool false, .slice none 0 0] := by rw [hw0]; have h5 := (BK.new (w.alloc (.cells #[.bool s1, .slice A1 L1 c1, .slice B1 M1 d1] 27)) #[.bool false, .slice none 0 0] 25); simpa only [World.size_alloc] using h5
  have hszw0 : w0.heap.size = w.heap.size + 1 + 1 := by rw [hw0]; simp only [World.size_alloc]
  have xw0 : Ext w w0 := by rw [hw0]; exact ((Ext.alloc _ _).trans (Ext.alloc _ _))
  clear hw0
  refine (parts_r (h1.ext (by repeat' (first | with_reducible exact Ext.refl _ | with_reducible assumption | with_reducible apply Ext.alloc_r | with_reducible apply Ext.drew_r | with_reducible apply Ext.drewN_r | with_reducible refine Ext.trans ?_ ‹Ext _ _›)))).mono ?_
  rintro e w1 ⟨xp, yp, sp, Ap, cp, Lp, Bp, dp, Mp, rfl, p1, p2, p3, p4, p5, p6, x1⟩
  have szw1 : w0.heap.size ≤ w1.heap.size := x1.size
  replace bxa := bxa.ext x1
  replace bxs := bxs.ext x1
  have HQ : Hid (floorQ q1 = xp / (yp : Int)) := by show _ = _; rw [p4]; exact floorQ_mk p3
  have k1 : dl ((yp : Int)).natAbs = dl yp := by rw [Int.natAbs_natCast]
  have hE := floor_z p1 p2 (by omega) (by omega) (by omega)
  clear p1 p2 p4 h1
  have ka_0 := bxa.c 0 (.bool s1) rfl
  have ka_1 := bxa.c 1 (.slice A1 L1 c1) rfl
  have ka_2 := bxa.c 2 (.slice B1 M1 d1) rfl
  have ks_0 := bxs.c 0 (.bool false) rfl
  have ks_1 := bxs.c 1 (.slice none 0 0) rfl
  go_wp2_with fail
  clear ka_0 ka_1 ka_2 ks_0 ks_1
  refine (hE).mono ?_
  rintro e w2 ⟨sav, Aav, cav, Lav, sbv, Abv, cbv, Lbv, rfl, va, vb, x2⟩
  have szw2 : w1.heap.size ≤ w2.heap.size := x2.size
  replace bxa := bxa.ext x2
  replace bxs := bxs.ext x2
  have HV := Lib.hid va
  clear va vb hE
  have ka_0 := bxa.c 0 (.bool s1) rfl
  have ka_1 := bxa.c 1 (.slice A1 L1 c1) rfl
  have ka_2 := bxa.c 2 (.slice B1 M1 d1) rfl
  have ks_0 := bxs.c 0 (.bool false) rfl
  have fs_0 := bxs.f 0
  have ks_1 := bxs.c 1 (.slice none 0 0) rfl
  have fs_1 := bxs.f 1
  have t1a_0 := fun (o0 : Obj) => ((Ext.alloc w2 o0).cell (bxa.c 0 (.bool s1) rfl))
  have t2a_0 := fun (o0 : Obj) (o1 : Obj) => ((Ext.alloc (w2.alloc o0) o1).cell ((Ext.alloc w2 o0).cell (bxa.c 0 (.bool s1) rfl)))
  have t1a_1 := fun (o0 : Obj) => ((Ext.alloc w2 o0).cell (bxa.c 1 (.slice A1 L1 c1) rfl))
  have t2a_1 := fun (o0 : Obj) (o1 : Obj) => ((Ext.alloc (w2.alloc o0) o1).cell ((Ext.alloc w2 o0).cell (bxa.c 1 (.slice A1 L1 c1) rfl)))
  have t1a_2 := fun (o0 : Obj) => ((Ext.alloc w2 o0).cell (bxa.c 2 (.slice B1 M1 d1) rfl))
  have t2a_2 := fun (o0 : Obj) (o1 : Obj) => ((Ext.alloc (w2.alloc o0) o1).cell ((Ext.alloc w2 o0).cell (bxa.c 2 (.slice B1 M1 d1) rfl)))
  have t1s_0 := fun (o0 : Obj) => ((Ext.alloc w2 o0).cell (bxs.c 0 (.bool false) rfl))
  have z1s_0 := fun (o0 : Obj) => (Ext.frozen (Ext.alloc w2 o0) (bxs.c 0 (.bool false) rfl) (bxs.f 0))
  have t2s_0 := fun (o0 : Obj) (o1 : Obj) => ((Ext.alloc (w2.alloc o0) o1).cell ((Ext.alloc w2 o0).cell (bxs.c 0 (.bool false) rfl)))
  have z2s_0 := fun (o0 : Obj) (o1 : Obj) => (Ext.frozen (Ext.alloc (w2.alloc o0) o1) ((Ext.alloc w2 o0).cell (bxs.c 0 (.bool false) rfl)) (Ext.frozen (Ext.alloc w2 o0) (bxs.c 0 (.bool false) rfl) (bxs.f 0)))
  have t1s_1 := fun (o0 : Obj) => ((Ext.alloc w2 o0).cell (bxs.c 1 (.slice none 0 0) rfl))
  have z1s_1 := fun (o0 : Obj) => (Ext.frozen (Ext.alloc w2 o0) (bxs.c 1 (.slice none 0 0) rfl) (bxs.f 1))
  have t2s_1 := fun (o0 : Obj) (o1 : Obj) => ((Ext.alloc (w2.alloc o0) o1).cell ((Ext.alloc w2 o0).cell (bxs.c 1 (.slice none 0 0) rfl)))
  have z2s_1 := fun (o0 : Obj) (o1 : Obj) => (Ext.frozen (Ext.alloc (w2.alloc o0) o1) ((Ext.alloc w2 o0).cell (bxs.c 1 (.slice none 0 0) rfl)) (Ext.frozen (Ext.alloc w2 o0) (bxs.c 1 (.slice none 0 0) rfl) (bxs.f 1)))
  go_wp2_with fail
  clear ka_0 ka_1 ka_2 ks_0 fs_0 ks_1 fs_1 t1a_0 t2a_0 t1a_1 t2a_1 t1a_2 t2a_2 t1s_0 z1s_0 t2s_0 z2s_0 t1s_1 z1s_1 t2s_1 z2s_1
  obtain ⟨w3, hw⟩ : ∃ z : World, z = ((w2.alloc (.cells #[.bool sav, .slice Aav Lav cav] 25)).alloc (.cells #[.bool sbv, .slice Abv Lbv cbv] 25)) := ⟨_, rfl⟩
  rw [← hw]
  have x3 : Ext w2 w3 := by rw [hw]; exact ((Ext.alloc _ _).trans (Ext.alloc _ _))
  replace bxa := bxa.ext x3
  replace bxs := bxs.ext x3
  have bxv : BK w3 (w2.heap.size) 25 #[.bool sav, .slice Aav Lav cav] := by rw [hw]; have h5 := (BK.ext (BK.new w2 #[.bool sav, .slice Aav Lav cav] 25) (Ext.alloc _ (.cells #[.bool sbv, .slice Abv Lbv cbv] 25))); simpa only [World.size_alloc] using h5
  have bxu : BK w3 (w2.heap.size + 1) 25 #[.bool sbv, .slice Abv Lbv cbv] := by rw [hw]; have h5 := (BK.new (w2.alloc (.cells #[.bool sav, .slice Aav Lav cav] 25)) #[.bool sbv, .slice Abv Lbv cbv] 25); simpa only [World.size_alloc] using h5
  have szw3 : w3.heap.size = w2.heap.size + 1 + 1 := by rw [hw]; simp only [World.size_alloc]
  clear hw
  have v := HV.out.ext (show Ext _ w3 from (by repeat' (first | with_reducible exact Ext.refl _ | with_reducible assumption | with_reducible apply Ext.alloc_r | with_reducible apply Ext.drew_r | with_reducible apply Ext.drewN_r | with_reducible refine Ext.trans ?_ ‹Ext _ _›)))
  clear HV
  obtain ⟨w4, hw⟩ : ∃ z : World, z = ((w3.setCell ⟨w.heap.size + 1, 0, none⟩ (.bool sav)).setCell ⟨w.heap.size + 1, 1, none⟩ (.slice Aav Lav cav)) := ⟨_, rfl⟩
  rw [← hw]
  have kw4 : Kept w3 w4 := by rw [hw]; exact (Kept.set_ (Kept.set_ (Kept.refl _) bxs.isBox plain_int) (IsBox.set_ bxs.isBox) plain_int)
  have nba : BK w4 (w.heap.size) 27 #[.bool s1, .slice A1 L1 c1, .slice B1 M1 d1] := by rw [hw]; exact (BK.far (BK.far bxa (show w.heap.size ≠ w.heap.size + 1 by omega) 0 _) (show w.heap.size ≠ w.heap.size + 1 by omega) 1 _)
  have nbs : BK w4 (w.heap.size + 1) 25 #[.bool sav, .slice Aav Lav cav] := by rw [hw]; exact (BK.set (i := 1) (u := .slice Aav Lav cav) (vs' := #[.bool sav, .slice Aav Lav cav]) (BK.set (i := 0) (u := .bool sav) (vs' := #[.bool sav, .slice none 0 0]) bxs rfl) rfl)
  have nbv : BK w4 (w2.heap.size) 25 #[.bool sav, .slice Aav Lav cav] := by rw [hw]; exact (BK.far (BK.far bxv (show w2.heap.size ≠ w.heap.size + 1 by omega) 0 _) (show w2.heap.size ≠ w.heap.size + 1 by omega) 1 _)
  have nbu : BK w4 (w2.heap.size + 1) 25 #[.bool sbv, .slice Abv Lbv cbv] := by rw [hw]; exact (BK.far (BK.far bxu (show w2.heap.size + 1 ≠ w.heap.size + 1 by omega) 0 _) (show w2.heap.size + 1 ≠ w.heap.size + 1 by omega) 1 _)
  have x4 : Ext w w4 := by rw [hw]; have hxp : Ext w w3 := (by repeat' (first | with_reducible exact Ext.refl _ | with_reducible assumption | with_reducible apply Ext.alloc_r | with_reducible apply Ext.drew_r | with_reducible apply Ext.drewN_r | with_reducible refine Ext.trans ?_ ‹Ext _ _›)); exact (Ext.set_ (Ext.set_ hxp (show _ ≤ w.heap.size + 1 by omega)) (show _ ≤ w.heap.size + 1 by omega))
  clear bxa
  clear bxs
  clear bxv
  clear bxu
  have bxa := nba
  clear nba
  have bxs := nbs
  clear nbs
  have bxv := nbv
  clear nbv
  have bxu := nbu
  clear nbu
  have szw4 : w4.heap.size = w3.heap.size := by rw [hw]; simp
  replace v := (v.ext (by repeat' (first | with_reducible exact Ext.refl _ | with_reducible assumption | with_reducible apply Ext.alloc_r | with_reducible apply Ext.drew_r | with_reducible apply Ext.drewN_r | with_reducible refine Ext.trans ?_ ‹Ext _ _›))).kept kw4
  clear hw kw4
  have hu : ZO w4 w.heap.size sav Aav cav Lav (floorQ q1) := by rw [HQ.out]; exact v.mono (by omega)
  have HU := Lib.hid hu
  clear v hu
  have ks_0 := bxs.c 0 (.bool sav) rfl
  have ks_1 := bxs.c 1 (.slice Aav Lav cav) rfl
  refine bodyPost_ret (v := .agg #[.bool sav, .slice Aav Lav cav]) (by simp [results, Try.results25, go_sem, ks_0, ks_1]) rfl ?_
  exact ⟨_, _, _, _, rfl, HU.out, x4⟩
set_option maxHeartbeats 4000000 in
set_option maxRecDepth 100000 in
theorem rceil_r {w : World} {s1 : Bool} {A1 B1 : Option Addr} {c1 d1 L1 M1 N1 : Nat} {q1 : Rat} (h1 : RV w s1 A1 c1 L1 B1 d1 M1 N1 q1) (hN : N1 ≤ 1000000) :
    Calls Try.prog 26 #[Value.agg #[.bool s1, .slice A1 L1 c1, .slice B1 M1 d1]] w (RetZ w (-floorQ (-q1))) := by
  go_enter Try.func26, Try.ntmps26
  go_wp2_with fail
  obtain ⟨w0, hw0⟩ : ∃ z : World, z = ((w.alloc (.cells #[.bool s1, .slice A1 L1 c1, .slice B1 M1 d1] 27)).alloc (.cells #[.bool false, .slice none 0 0] 25)) := ⟨_, rfl⟩
  rw [← hw0]
  have bxa : BK w0 (w.heap.size) 27 #[.bool s1, .slice A1 L1 c1, .slice B1 M1 d1] := by rw [hw0]; have h5 := (BK.ext (BK.new w #[.bool s1, .slice A1 L1 c1, .slice B1 M1 d1] 27) (Ext.alloc _ (.cells #[.bool false, .slice none 0 0] 25))); simpa only [World.size_alloc] using h5
  have bxs : BK w0 (w.heap.size + 1) 25 #[.bool false, .slice none 0 0] := by rw [hw0]; have h5 := (BK.new (w.alloc (.cells #[.bool s1, .slice A1 L1 c1, .slice B1 M1 d1] 27)) #[.bool false, .slice none 0 0] 25); simpa only [World.size_alloc] using h5
  have hszw0 : w0.heap.size = w.heap.size + 1 + 1 := by rw [hw0]; simp only [World.size_alloc]
  have xw0 : Ext w w0 := by rw [hw0]; exact ((Ext.alloc _ _).trans (Ext.alloc _ _))
  clear hw0
  refine (parts_r (h1.ext (by repeat' (first | with_reducible exact Ext.refl _ | with_reducible assumption | with_reducible apply Ext.alloc_r | with_reducible apply Ext.drew_r | with_reducible apply Ext.drewN_r | with_reducible refine Ext.trans ?_ ‹Ext _ _›)))).mono ?_
  rintro e w1 ⟨xp, yp, sp, Ap, cp, Lp, Bp, dp, Mp, rfl, p1, p2, p3, p4, p5, p6, x1⟩
  have szw1 : w0.heap.size ≤ w1.heap.size := x1.size
  replace bxa := bxa.ext x1
  replace bxs := bxs.ext x1
  have Hp := Lib.hid (And.intro p1 p2)
  clear p1 p2
  have ka_0 := bxa.c 0 (.bool s1) rfl
  have ka_1 := bxa.c 1 (.slice A1 L1 c1) rfl
  have ka_2 := bxa.c 2 (.slice B1 M1 d1) rfl
  have ks_0 := bxs.c 0 (.bool false) rfl
  have ks_1 := bxs.c 1 (.slice none 0 0) rfl
  have t1a_0 := fun (o0 : Obj) => ((Ext.alloc w1 o0).cell (bxa.c 0 (.bool s1) rfl))
  have t2a_0 := fun (o0 : Obj) (o1 : Obj) => ((Ext.alloc (w1.alloc o0) o1).cell ((Ext.alloc w1 o0).cell (bxa.c 0 (.bool s1) rfl)))
  have t1a_1 := fun (o0 : Obj) => ((Ext.alloc w1 o0).cell (bxa.c 1 (.slice A1 L1 c1) rfl))
  have t2a_1 := fun (o0 : Obj) (o1 : Obj) => ((Ext.alloc (w1.alloc o0) o1).cell ((Ext.alloc w1 o0).cell (bxa.c 1 (.slice A1 L1 c1) rfl)))
  have t1a_2 := fun (o0 : Obj) => ((Ext.alloc w1 o0).cell (bxa.c 2 (.slice B1 M1 d1) rfl))
  have t2a_2 := fun (o0 : Obj) (o1 : Obj) => ((Ext.alloc (w1.alloc o0) o1).cell ((Ext.alloc w1 o0).cell (bxa.c 2 (.slice B1 M1 d1) rfl)))
  have t1s_0 := fun (o0 : Obj) => ((Ext.alloc w1 o0).cell (bxs.c 0 (.bool false) rfl))
  have t2s_0 := fun (o0 : Obj) (o1 : Obj) => ((Ext.alloc (w1.alloc o0) o1).cell ((Ext.alloc w1 o0).cell (bxs.c 0 (.bool false) rfl)))
  have t1s_1 := fun (o0 : Obj) => ((Ext.alloc w1 o0).cell (bxs.c 1 (.slice none 0 0) rfl))
  have t2s_1 := fun (o0 : Obj) (o1 : Obj) => ((Ext.alloc (w1.alloc o0) o1).cell ((Ext.alloc w1 o0).cell (bxs.c 1 (.slice none 0 0) rfl)))
  go_wp2_with fail
  clear ka_0 ka_1 ka_2 ks_0 ks_1 t1a_0 t2a_0 t1a_1 t2a_1 t1a_2 t2a_2 t1s_0 t2s_0 t1s_1 t2s_1
  obtain ⟨w2, hw⟩ : ∃ z : World, z = ((w1.alloc (.cells #[.bool sp, .slice Ap Lp cp] 25)).alloc (.cells #[.bool false, .slice Bp Mp dp] 25)) := ⟨_, rfl⟩
  rw [← hw]
  have x2 : Ext w1 w2 := by rw [hw]; exact ((Ext.alloc _ _).trans (Ext.alloc _ _))
  replace bxa := bxa.ext x2
  replace bxs := bxs.ext x2
  have bxn : BK w2 (w1.heap.size) 25 #[.bool sp, .slice Ap Lp cp] := by rw [hw]; have h5 := (BK.ext (BK.new w1 #[.bool sp, .slice Ap Lp cp] 25) (Ext.alloc _ (.cells #[.bool false, .slice Bp Mp dp] 25))); simpa only [World.size_alloc] using h5
  have bxd : BK w2 (w1.heap.size + 1) 25 #[.bool false, .slice Bp Mp dp] := by rw [hw]; have h5 := (BK.new (w1.alloc (.cells #[.bool sp, .slice Ap Lp cp] 25)) #[.bool false, .slice Bp Mp dp] 25); simpa only [World.size_alloc] using h5
  have szw2 : w2.heap.size = w1.heap.size + 1 + 1 := by rw [hw]; simp only [World.size_alloc]
  clear hw
  have g1 := Hp.out.1
  have g2 := Hp.out.2
  have HQ : Hid (floorQ (-q1) = -xp / (yp : Int)) := by show _ = _; rw [p4, Rat.neg_mkRat]; exact floorQ_mk p3
  have k1 : dl ((yp : Int)).natAbs = dl yp := by rw [Int.natAbs_natCast]
  have k2 : dl (-xp).natAbs = dl xp.natAbs := by rw [Int.natAbs_neg]
  have k3 : dl (-xp / (yp : Int)).natAbs ≤ 1000000 := by
    have h5 := dl_mono (floorQ_le (-q1))
    rw [HQ.out, Rat.neg_num, Int.natAbs_neg] at h5
    have h6 := dl_mono (rat_num_le (x := xp) p3)
    rw [← p4] at h6
    omega
  clear p4 h1
  have kn_0 := bxn.c 0 (.bool sp) rfl
  have kn_1 := bxn.c 1 (.slice Ap Lp cp) rfl
  have kd_0 := bxd.c 0 (.bool false) rfl
  have kd_1 := bxd.c 1 (.slice Bp Mp dp) rfl
  have HSZ := Lib.hid (And.intro True.intro (And.intro hszw0 (And.intro szw1 szw2)))
  clear hszw0 szw1 szw2
  go_wp2_with fail
  go_cut [5, 6] (fun s5 s6 wx => PutV w2 wx (-xp / (yp : Int)) s5 ∧ PutV w2 wx (-xp % (yp : Int)) s6)
  case first =>
    have HK : Hid (∀ w', Ext w2 w' → Ext w2 w' ∧ w'.cell? ⟨w1.heap.size, 0, none⟩ = some (.bool sp) ∧ w'.cell? ⟨w1.heap.size, 1, none⟩ = some (.slice Ap Lp cp) ∧ w'.cell? ⟨w1.heap.size + 1, 0, none⟩ = some (.bool false) ∧ w'.cell? ⟨w1.heap.size + 1, 1, none⟩ = some (.slice Bp Mp dp)) := fun w' hk => ⟨hk, hk.cell kn_0, hk.cell kn_1, hk.cell kd_0, hk.cell kd_1⟩
    first
    | go_region_held3 (fun w' => Ext w2 w' ∧ w'.cell? ⟨w1.heap.size, 0, none⟩ = some (.bool sp) ∧ w'.cell? ⟨w1.heap.size, 1, none⟩ = some (.slice Ap Lp cp) ∧ w'.cell? ⟨w1.heap.size + 1, 0, none⟩ = some (.bool false) ∧ w'.cell? ⟨w1.heap.size + 1, 1, none⟩ = some (.slice Bp Mp dp))
        ((with_reducible refine HK.out _ ?_; (repeat' (first | with_reducible exact Ext.refl _ | with_reducible assumption | with_reducible apply Ext.alloc_r | with_reducible apply Ext.drew_r | with_reducible apply Ext.drewN_r | with_reducible apply Ext.set_r | with_reducible exact Nat.le_refl _ | omega | with_reducible refine Ext.trans ?_ ‹Ext _ _›))))
        (first
          | (go_at_call 62; have hgd := u; clear hgd; refine (floor_z (u.zv.ext (by repeat' (first | with_reducible exact Ext.refl _ | with_reducible assumption | with_reducible apply Ext.alloc_r | with_reducible apply Ext.drew_r | with_reducible apply Ext.drewN_r | with_reducible refine Ext.trans ?_ ‹Ext _ _›))) (g2.ext (by repeat' (first | with_reducible exact Ext.refl _ | with_reducible assumption | with_reducible apply Ext.alloc_r | with_reducible apply Ext.drew_r | with_reducible apply Ext.drewN_r | with_reducible refine Ext.trans ?_ ‹Ext _ _›))) (by omega) (by omega) (by omega)).mono ?_; rintro e w4 ⟨saj, Aaj, caj, Laj, sbj, Abj, cbj, Lbj, rfl, ja, jb, x4⟩; (have zs4 := x4.size); (try simp only [World.size_alloc] at zs4); (try ((with_reducible have h4_0 := box_ext (vs := #[.bool false, .slice none 0 0]) x4); have h4_0c0 := (h4_0.1 0 (.bool false) rfl).1; have h4_0f0 := (h4_0.1 0 (.bool false) rfl).2; have h4_0c1 := (h4_0.1 1 (.slice none 0 0) rfl).1; have h4_0f1 := (h4_0.1 1 (.slice none 0 0) rfl).2; have h4_0b := h4_0.2.1; have h4_0z := h4_0.2.2; (try simp only [World.size_alloc] at h4_0b h4_0z h4_0c0 h4_0f0 h4_0c1 h4_0f1); have h4_0m := Nat.ne_of_lt h4_0z; have h4_0n := Nat.ne_of_gt h4_0z; clear h4_0)); (try ((with_reducible have h4_1 := box_ext (vs := #[.bool false, .slice none 0 0]) ((Ext.alloc _ _).trans x4)); have h4_1c0 := (h4_1.1 0 (.bool false) rfl).1; have h4_1f0 := (h4_1.1 0 (.bool false) rfl).2; have h4_1c1 := (h4_1.1 1 (.slice none 0 0) rfl).1; have h4_1f1 := (h4_1.1 1 (.slice none 0 0) rfl).2; have h4_1b := h4_1.2.1; have h4_1z := h4_1.2.2; (try simp only [World.size_alloc] at h4_1b h4_1z h4_1c0 h4_1f0 h4_1c1 h4_1f1); have h4_1m := Nat.ne_of_lt h4_1z; have h4_1n := Nat.ne_of_gt h4_1z; clear h4_1)); (try (have hh : Ext w3 w4 := ?g400; (case g400 => ((repeat' (first | with_reducible exact Ext.refl _ | with_reducible assumption | with_reducible apply Ext.alloc_r | with_reducible apply Ext.drew_r | with_reducible apply Ext.drewN_r | with_reducible refine Ext.trans ?_ ‹Ext _ _›)); done)); replace h3_0f0 := hh.frozen h3_0c0 h3_0f0; replace h3_0c0 := hh.cell h3_0c0; replace h3_0f1 := hh.frozen h3_0c1 h3_0f1; replace h3_0c1 := hh.cell h3_0c1; replace h3_0b := h3_0b.ext hh; have h3_0z2 := Nat.lt_of_lt_of_le h3_0z hh.size; have h3_0m2 := Nat.ne_of_lt h3_0z2; have h3_0n2 := Nat.ne_of_gt h3_0z2; clear hh)); (try (have hh : Ext w3 w4 := ?g401; (case g401 => ((repeat' (first | with_reducible exact Ext.refl _ | with_reducible assumption | with_reducible apply Ext.alloc_r | with_reducible apply Ext.drew_r | with_reducible apply Ext.drewN_r | with_reducible refine Ext.trans ?_ ‹Ext _ _›)); done)); replace h3_1f0 := hh.frozen h3_1c0 h3_1f0; replace h3_1c0 := hh.cell h3_1c0; replace h3_1f1 := hh.frozen h3_1c1 h3_1f1; replace h3_1c1 := hh.cell h3_1c1; replace h3_1b := h3_1b.ext hh; have h3_1z2 := Nat.lt_of_lt_of_le h3_1z hh.size; have h3_1m2 := Nat.ne_of_lt h3_1z2; have h3_1n2 := Nat.ne_of_gt h3_1z2; clear hh)))
          | (go_at_call 72; refine (neg_z (g1.ext (by repeat' (first | with_reducible exact Ext.refl _ | with_reducible assumption | with_reducible apply Ext.alloc_r | with_reducible apply Ext.drew_r | with_reducible apply Ext.drewN_r | with_reducible refine Ext.trans ?_ ‹Ext _ _›))) (by omega)).mono ?_; rintro e w3 ⟨su, Au, cu, Lu, rfl, u, x3⟩; (have zs3 := x3.size); (try simp only [World.size_alloc, World.size_drew] at zs3); (try ((with_reducible have h3_0 := box_ext (vs := #[.bool false, .slice none 0 0]) ((Ext.drew _).trans x3)); have h3_0c0 := (h3_0.1 0 (.bool false) rfl).1; have h3_0f0 := (h3_0.1 0 (.bool false) rfl).2; have h3_0c1 := (h3_0.1 1 (.slice none 0 0) rfl).1; have h3_0f1 := (h3_0.1 1 (.slice none 0 0) rfl).2; have h3_0b := h3_0.2.1; have h3_0z := h3_0.2.2; (try simp only [World.size_alloc] at h3_0b h3_0z h3_0c0 h3_0f0 h3_0c1 h3_0f1); have h3_0m := Nat.ne_of_lt h3_0z; have h3_0n := Nat.ne_of_gt h3_0z; clear h3_0)); (try ((with_reducible have h3_1 := box_ext (vs := #[.bool false, .slice none 0 0]) (((Ext.alloc _ _).trans (Ext.drew _)).trans x3)); have h3_1c0 := (h3_1.1 0 (.bool false) rfl).1; have h3_1f0 := (h3_1.1 0 (.bool false) rfl).2; have h3_1c1 := (h3_1.1 1 (.slice none 0 0) rfl).1; have h3_1f1 := (h3_1.1 1 (.slice none 0 0) rfl).2; have h3_1b := h3_1.2.1; have h3_1z := h3_1.2.2; (try simp only [World.size_alloc] at h3_1b h3_1z h3_1c0 h3_1f0 h3_1c1 h3_1f1); have h3_1m := Nat.ne_of_lt h3_1z; have h3_1n := Nat.ne_of_gt h3_1z; clear h3_1))))
    | fail
    all_goals (clear HK; go_wp2_with fail; go_meet)
    all_goals
      constructor
      · refine PutV.mk (sb := saj) (A := Aaj) (c := caj) (L := Laj) ?_ ?_ ?_ ?_ ?_ ?_ ((ja.mono (Nat.zero_le _)).kept ?_) ?_
        · (first | exact Nat.le_refl _ | omega | (simp only [World.size_alloc, World.size_drew]; omega) | (simp; omega))
        · (repeat' (first | with_reducible assumption | with_reducible apply IsBox.set_ | (with_reducible apply IsBox.new; (first | (with_reducible rfl) | simp); done) | with_reducible apply IsBox.alloc_ | with_reducible apply IsBox.drew_ | with_reducible refine IsBox.ext ?_ ‹Ext _ _›))
        · go_simp
        · go_simp
        · go_simp
        · go_simp
        · (repeat' (first | with_reducible exact Kept.refl _ | with_reducible apply Kept.alloc_r | with_reducible apply Kept.drew_r | (with_reducible apply Kept.setZ; (case hb => ((repeat' (first | with_reducible assumption | with_reducible apply IsBox.set_ | (with_reducible apply IsBox.new; (first | (with_reducible rfl) | simp); done) | with_reducible apply IsBox.alloc_ | with_reducible apply IsBox.drew_ | with_reducible refine IsBox.ext ?_ ‹Ext _ _›)); done))) | (with_reducible apply Kept.setI; (case hb => ((repeat' (first | with_reducible assumption | with_reducible apply IsBox.set_ | (with_reducible apply IsBox.new; (first | (with_reducible rfl) | simp); done) | with_reducible apply IsBox.alloc_ | with_reducible apply IsBox.drew_ | with_reducible refine IsBox.ext ?_ ‹Ext _ _›)); done))) | with_reducible refine Kept.trans ?_ (Ext.kept ‹Ext _ _›)))
        · (repeat' (first | with_reducible exact Ext.refl _ | with_reducible assumption | with_reducible apply Ext.alloc_r | with_reducible apply Ext.drew_r | with_reducible apply Ext.drewN_r | with_reducible apply Ext.set_r | with_reducible exact Nat.le_refl _ | omega | with_reducible refine Ext.trans ?_ ‹Ext _ _›))
      · refine PutV.mk (sb := sbj) (A := Abj) (c := cbj) (L := Lbj) ?_ ?_ ?_ ?_ ?_ ?_ ((jb.mono (Nat.zero_le _)).kept ?_) ?_
        · (first | exact Nat.le_refl _ | omega | (simp only [World.size_alloc, World.size_drew]; omega) | (simp; omega))
        · (repeat' (first | with_reducible assumption | with_reducible apply IsBox.set_ | (with_reducible apply IsBox.new; (first | (with_reducible rfl) | simp); done) | with_reducible apply IsBox.alloc_ | with_reducible apply IsBox.drew_ | with_reducible refine IsBox.ext ?_ ‹Ext _ _›))
        · go_simp
        · go_simp
        · go_simp
        · go_simp
        · (repeat' (first | with_reducible exact Kept.refl _ | with_reducible apply Kept.alloc_r | with_reducible apply Kept.drew_r | (with_reducible apply Kept.setZ; (case hb => ((repeat' (first | with_reducible assumption | with_reducible apply IsBox.set_ | (with_reducible apply IsBox.new; (first | (with_reducible rfl) | simp); done) | with_reducible apply IsBox.alloc_ | with_reducible apply IsBox.drew_ | with_reducible refine IsBox.ext ?_ ‹Ext _ _›)); done))) | (with_reducible apply Kept.setI; (case hb => ((repeat' (first | with_reducible assumption | with_reducible apply IsBox.set_ | (with_reducible apply IsBox.new; (first | (with_reducible rfl) | simp); done) | with_reducible apply IsBox.alloc_ | with_reducible apply IsBox.drew_ | with_reducible refine IsBox.ext ?_ ‹Ext _ _›)); done))) | with_reducible refine Kept.trans ?_ (Ext.kept ‹Ext _ _›)))
        · (repeat' (first | with_reducible exact Ext.refl _ | with_reducible assumption | with_reducible apply Ext.alloc_r | with_reducible apply Ext.drew_r | with_reducible apply Ext.drewN_r | with_reducible apply Ext.set_r | with_reducible exact Nat.le_refl _ | omega | with_reducible refine Ext.trans ?_ ‹Ext _ _›))
  case rest =>
    obtain ⟨hszw0, szw1, szw2⟩ := HSZ.out.2
    clear kn_0 kn_1 kd_0 kd_1
    obtain ⟨hc_0, hc_1⟩ := hcut
    obtain ⟨bkv, sv, Av, cv, Lv, rfl, hbv, hwv, v, xxv⟩ := hc_0
    obtain ⟨bko, so, Ao, co, Lo, rfl, hbo, hwo, o, xxo⟩ := hc_1
    have x5 := xxv
    clear xxv
    clear xxo
    obtain ⟨w5, rfl⟩ : ∃ z : World, z = wc := ⟨_, rfl⟩
    have szw5 : w2.heap.size ≤ w5.heap.size := x5.size
    replace bxa := bxa.ext x5
    replace bxs := bxs.ext x5
    replace bxn := bxn.ext x5
    replace bxd := bxd.ext x5
    have lv_0 := hwv.c0
    have lv_1 := hwv.c1
    clear hwv
    have lo_0 := hwo.c0
    have lo_1 := hwo.c1
    clear hwo
    have HV := Lib.hid v
    clear v o
    have ka_0 := bxa.c 0 (.bool s1) rfl
    have ka_1 := bxa.c 1 (.slice A1 L1 c1) rfl
    have ka_2 := bxa.c 2 (.slice B1 M1 d1) rfl
    have ks_0 := bxs.c 0 (.bool false) rfl
    have ks_1 := bxs.c 1 (.slice none 0 0) rfl
    have kn_0 := bxn.c 0 (.bool sp) rfl
    have kn_1 := bxn.c 1 (.slice Ap Lp cp) rfl
    have kd_0 := bxd.c 0 (.bool false) rfl
    have kd_1 := bxd.c 1 (.slice Bp Mp dp) rfl
    go_wp2_with fail
    clear ka_0 ka_1 ka_2 ks_0 ks_1 kn_0 kn_1 kd_0 kd_1
    refine (neg_z (HV.out.zv.ext (by repeat' (first | with_reducible exact Ext.refl _ | with_reducible assumption | with_reducible apply Ext.alloc_r | with_reducible apply Ext.drew_r | with_reducible apply Ext.drewN_r | with_reducible refine Ext.trans ?_ ‹Ext _ _›))) (by omega)).mono ?_
    rintro e w6 ⟨sy, Ay, cy, Ly, rfl, y, x6⟩
    have szw6 : w5.heap.size ≤ w6.heap.size := x6.size
    replace bxa := bxa.ext x6
    replace bxs := bxs.ext x6
    replace bxn := bxn.ext x6
    replace bxd := bxd.ext x6
    replace lv_0 := x6.cell lv_0
    replace lv_1 := x6.cell lv_1
    replace lo_0 := x6.cell lo_0
    replace lo_1 := x6.cell lo_1
    have HY := Lib.hid y
    clear y
    have ka_0 := bxa.c 0 (.bool s1) rfl
    have ka_1 := bxa.c 1 (.slice A1 L1 c1) rfl
    have ka_2 := bxa.c 2 (.slice B1 M1 d1) rfl
    have ks_0 := bxs.c 0 (.bool false) rfl
    have fs_0 := bxs.f 0
    have ks_1 := bxs.c 1 (.slice none 0 0) rfl
    have fs_1 := bxs.f 1
    have kn_0 := bxn.c 0 (.bool sp) rfl
    have kn_1 := bxn.c 1 (.slice Ap Lp cp) rfl
    have kd_0 := bxd.c 0 (.bool false) rfl
    have kd_1 := bxd.c 1 (.slice Bp Mp dp) rfl
    go_wp2_with fail
    clear ka_0 ka_1 ka_2 ks_0 fs_0 ks_1 fs_1 kn_0 kn_1 kd_0 kd_1
    have y := HY.out
    clear HY HV
    obtain ⟨w7, hw⟩ : ∃ z : World, z = ((w6.setCell ⟨w.heap.size + 1, 0, none⟩ (.bool sy)).setCell ⟨w.heap.size + 1, 1, none⟩ (.slice Ay Ly cy)) := ⟨_, rfl⟩
    rw [← hw]
    have kw7 : Kept w6 w7 := by rw [hw]; exact (Kept.set_ (Kept.set_ (Kept.refl _) bxs.isBox plain_int) (IsBox.set_ bxs.isBox) plain_int)
    have nba : BK w7 (w.heap.size) 27 #[.bool s1, .slice A1 L1 c1, .slice B1 M1 d1] := by rw [hw]; exact (BK.far (BK.far bxa (show w.heap.size ≠ w.heap.size + 1 by omega) 0 _) (show w.heap.size ≠ w.heap.size + 1 by omega) 1 _)
    have nbs : BK w7 (w.heap.size + 1) 25 #[.bool sy, .slice Ay Ly cy] := by rw [hw]; exact (BK.set (i := 1) (u := .slice Ay Ly cy) (vs' := #[.bool sy, .slice Ay Ly cy]) (BK.set (i := 0) (u := .bool sy) (vs' := #[.bool sy, .slice none 0 0]) bxs rfl) rfl)
    have nbn : BK w7 (w1.heap.size) 25 #[.bool sp, .slice Ap Lp cp] := by rw [hw]; exact (BK.far (BK.far bxn (show w1.heap.size ≠ w.heap.size + 1 by omega) 0 _) (show w1.heap.size ≠ w.heap.size + 1 by omega) 1 _)
    have nbd : BK w7 (w1.heap.size + 1) 25 #[.bool false, .slice Bp Mp dp] := by rw [hw]; exact (BK.far (BK.far bxd (show w1.heap.size + 1 ≠ w.heap.size + 1 by omega) 0 _) (show w1.heap.size + 1 ≠ w.heap.size + 1 by omega) 1 _)
    have x7 : Ext w w7 := by rw [hw]; have hxp : Ext w w6 := (by repeat' (first | with_reducible exact Ext.refl _ | with_reducible assumption | with_reducible apply Ext.alloc_r | with_reducible apply Ext.drew_r | with_reducible apply Ext.drewN_r | with_reducible refine Ext.trans ?_ ‹Ext _ _›)); exact (Ext.set_ (Ext.set_ hxp (show _ ≤ w.heap.size + 1 by omega)) (show _ ≤ w.heap.size + 1 by omega))
    clear bxa
    clear bxs
    clear bxn
    clear bxd
    have bxa := nba
    clear nba
    have bxs := nbs
    clear nbs
    have bxn := nbn
    clear nbn
    have bxd := nbd
    clear nbd
    have szw7 : w7.heap.size = w6.heap.size := by rw [hw]; simp
    replace y := (y.ext (by repeat' (first | with_reducible exact Ext.refl _ | with_reducible assumption | with_reducible apply Ext.alloc_r | with_reducible apply Ext.drew_r | with_reducible apply Ext.drewN_r | with_reducible refine Ext.trans ?_ ‹Ext _ _›))).kept kw7
    clear hw kw7
    have hu : ZO w7 w.heap.size sy Ay cy Ly (-floorQ (-q1)) := by rw [HQ.out]; exact y.mono (by omega)
    have HU := Lib.hid hu
    clear y hu
    have ks_0 := bxs.c 0 (.bool sy) rfl
    have ks_1 := bxs.c 1 (.slice Ay Ly cy) rfl
    refine bodyPost_ret (v := .agg #[.bool sy, .slice Ay Ly cy]) (by simp [results, Try.results26, go_sem, ks_0, ks_1]) rfl ?_
    exact ⟨_, _, _, _, rfl, HU.out, x7⟩
end Go.Proofs.Ytfnmbhjifdfibaa
