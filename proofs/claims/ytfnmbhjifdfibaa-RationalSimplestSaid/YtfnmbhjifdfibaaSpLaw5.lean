/- The helpers of the laws of chapter 05. -/
import Derived.Test.YtfnmbhjifdfibaaSpRatQ
import Derived.Test.YtfnmbhjifdfibaaSpOpenR
import Derived.Deep.RegionHeldLaw
import Derived.Deep.RegionWith
namespace Go.Proofs.Ytfnmbhjifdfibaa
open Go.RowKit
theorem q32 : mkRat (6 * (-4 : Int).sign) (-4 : Int).natAbs = ⟨-3, 2, by decide, by decide⟩ := by decide
theorem fmt_q32 : fmtQ ⟨-3, 2, by decide, by decide⟩ = [45, 51, 47, 50] := by
  have h3 : digs 10 3 = [3] := by
    have := digs_of_val (B := 10) (ds := [3]) (by omega) (by unfold Valid; simp) (by simp)
    simpa [val] using this
  have h2 : digs 10 2 = [2] := by
    have := digs_of_val (B := 10) (ds := [2]) (by omega) (by unfold Valid; simp) (by simp)
    simpa [val] using this
  unfold fmtQ fmtL
  show ([45] ++ ((digs 10 3).map sym).reverse) ++ 47 :: ([] ++ ((digs 10 2).map sym).reverse) = _
  rw [h3, h2]
  rfl
set_option maxHeartbeats 4000000 in
set_option maxRecDepth 100000 in
theorem awake5 (w : World) : Calls Try.prog 12 #[] w fun e w' => e = .returned (.bool true) ∧ Ext w w' := by
  have hd1 : dl (6 : Int).natAbs ≤ 1 := dl_le (by show 6 < _; unfold B32; omega)
  have hd2 : dl (-4 : Int).natAbs ≤ 1 := dl_le (by show 4 < _; unfold B32; omega)
  have H1 : Hid (∀ w, Calls Try.prog 56 #[.int .i64 6] w (RetZ w 6)) := fun w => of_z (by omega)
  have H2 : Hid (∀ w, Calls Try.prog 56 #[.int .i64 (-4)] w (RetZ w (-4))) := fun w => of_z (by omega)
  have H3 : Hid (∀ w s1 A1 c1 L1 s2 A2 c2 L2, ZV w s1 A1 c1 L1 6 → ZV w s2 A2 c2 L2 (-4) → Calls Try.prog 19 #[.agg #[.bool s1, .slice A1 L1 c1], .agg #[.bool s2, .slice A2 L2 c2]] w (RetRE w 1 ⟨-3, 2, by decide, by decide⟩)) := by
    intro w s1 A1 c1 L1 s2 A2 c2 L2 h1 h2
    rw [← q32]
    exact rmake_r h1 h2 (by omega) hd1 hd2 (by omega)
  have H4 : Hid (∀ w s A c L B d M, RV w s A c L B d M 1 ⟨-3, 2, by decide, by decide⟩ → Calls Try.prog 53 #[.agg #[.bool s, .slice A L c, .slice B M d]] w fun e w' => e = .returned (.string ⟨#[45, 51, 47, 50]⟩) ∧ Ext w w') := by
    intro w s A c L B d M h
    refine (rformat_r h (by omega)).mono ?_
    rintro e w' ⟨t, rfl, ht, hx⟩
    rw [fmt_q32] at ht
    have : t = ⟨#[45, 51, 47, 50]⟩ := bs_inj (by rw [ht]; rfl)
    rw [this]
    exact ⟨rfl, hx⟩
  clear hd1 hd2
  go_enter Try.func12, Try.ntmps12
  go_wp2_with fail
  refine (H1.out _).mono ?_
  rintro e w1 ⟨si, Ai, ci, Li, rfl, i, x1⟩
  have szw1 : w.heap.size ≤ w1.heap.size := x1.size
  have HI := Lib.hid i
  clear i H1
  go_wp2_with fail
  refine (H2.out _).mono ?_
  rintro e w2 ⟨sj, Aj, cj, Lj, rfl, j, x2⟩
  have szw2 : w1.heap.size ≤ w2.heap.size := x2.size
  have HJ := Lib.hid j
  clear j H2
  go_wp2_with fail
  refine (H3.out _ _ _ _ _ _ _ _ _ (HI.out.zv.ext (by with_reducible repeat' first | exact Ext.refl _ | assumption | apply Ext.alloc_r | apply Ext.drew_r | apply Ext.drewN_r | refine Ext.trans ?_ ‹Ext _ _›)) (HJ.out.zv.ext (by with_reducible repeat' first | exact Ext.refl _ | assumption | apply Ext.alloc_r | apply Ext.drew_r | apply Ext.drewN_r | refine Ext.trans ?_ ‹Ext _ _›))).mono ?_
  rintro e w3 ⟨sz, Az, cz, Lz, Bz, dz, Mz, rfl, z, x3⟩
  have szw3 : w2.heap.size ≤ w3.heap.size := x3.size
  obtain rfl : sz = true := by rw [z.num.sign]; rfl
  have HZ := Lib.hid z.rv
  clear z HI HJ H3
  go_wp2_with fail
  obtain ⟨w4, hw⟩ : ∃ z : World, z = (w3.alloc (.cells #[.bool true, .slice Az Lz cz, .slice Bz Mz dz] 27)) := ⟨_, rfl⟩
  rw [← hw]
  have x4 : Ext w3 w4 := by rw [hw]; exact (Ext.alloc _ _)
  have bxa : BK w4 (w3.heap.size) 27 #[.bool true, .slice Az Lz cz, .slice Bz Mz dz] := by rw [hw]; have h5 := (BK.new w3 #[.bool true, .slice Az Lz cz, .slice Bz Mz dz] 27); simpa only [World.size_alloc] using h5
  have szw4 : w4.heap.size = w3.heap.size + 1 := by rw [hw]; simp only [World.size_alloc]
  clear hw
  refine (H4.out _ _ _ _ _ _ _ _ (HZ.out.ext (by with_reducible repeat' first | exact Ext.refl _ | assumption | apply Ext.alloc_r | apply Ext.drew_r | apply Ext.drewN_r | refine Ext.trans ?_ ‹Ext _ _›))).mono ?_
  rintro e w5 ⟨rfl, x5⟩
  have szw5 : w4.heap.size ≤ w5.heap.size := x5.size
  replace bxa := bxa.ext x5
  clear HZ H4
  have x0w : Ext w w5 := (by with_reducible repeat' first | exact Ext.refl _ | assumption | apply Ext.alloc_r | apply Ext.drew_r | apply Ext.drewN_r | refine Ext.trans ?_ ‹Ext _ _›)
  have ka_0 := bxa.c 0 (.bool true) rfl
  have ka_1 := bxa.c 1 (.slice Az Lz cz) rfl
  have ka_2 := bxa.c 2 (.slice Bz Mz dz) rfl
  go_wp2_with fail
  clear ka_0 ka_1 ka_2
  go_ret
  exact ⟨by rfl, x0w⟩
set_option maxHeartbeats 4000000 in
set_option maxRecDepth 100000 in
theorem few5 {w : World} {n L1 L2 L3 M1 M2 M3 c1 c2 c3 d1 d2 d3 : Nat} {s1 s2 s3 : Bool} {A1 A2 A3 B1 B2 B3 : Option Addr} (h1 : L1 ≤ 9223372036854775807) (h2 : L2 ≤ 9223372036854775807) (h3 : L3 ≤ 9223372036854775807) (k1 : M1 ≤ 9223372036854775807) (k2 : M2 ≤ 9223372036854775807) (k3 : M3 ≤ 9223372036854775807) :
    Calls Try.prog 13 #[.int .i64 n, Value.agg #[.bool s1, .slice A1 L1 c1, .slice B1 M1 d1], Value.agg #[.bool s2, .slice A2 L2 c2, .slice B2 M2 d2], Value.agg #[.bool s3, .slice A3 L3 c3, .slice B3 M3 d3]] w
      fun e w' => e = .returned (.bool ((decide (L1 ≤ n) && (decide (M1 ≤ n) && decide (L2 ≤ n))) && (decide (M2 ≤ n) && (decide (L3 ≤ n) && decide (M3 ≤ n))))) ∧ Ext w w' := by
  obtain ⟨b1, hb1⟩ : ∃ b, b = (decide (L1 ≤ n) && (decide (M1 ≤ n) && decide (L2 ≤ n))) := ⟨_, rfl⟩
  obtain ⟨b2, hb2⟩ : ∃ b, b = (decide (M2 ≤ n) && (decide (L3 ≤ n) && decide (M3 ≤ n))) := ⟨_, rfl⟩
  have HF : Hid (∀ w', Calls Try.prog 17 #[.int .i64 n, .slice (some ⟨w'.heap.size, 0, none⟩) 3 3] (w'.alloc (.cells #[.slice A1 L1 c1, .slice B1 M1 d1, .slice A2 L2 c2] 22)) fun e w'' => e = .returned (.bool b1) ∧ Ext w' w'') := fun w' => by rw [hb1]; exact few3 h1 k1 h2
  have HG : Hid (∀ w', Calls Try.prog 17 #[.int .i64 n, .slice (some ⟨w'.heap.size, 0, none⟩) 3 3] (w'.alloc (.cells #[.slice B2 M2 d2, .slice A3 L3 c3, .slice B3 M3 d3] 22)) fun e w'' => e = .returned (.bool b2) ∧ Ext w' w'') := fun w' => by rw [hb2]; exact few3 k2 h3 k3
  have HP : Hid (((decide (L1 ≤ n) && (decide (M1 ≤ n) && decide (L2 ≤ n))) && (decide (M2 ≤ n) && (decide (L3 ≤ n) && decide (M3 ≤ n)))) = (b1 && b2)) := by rw [hb1, hb2]; rfl
  clear hb1 hb2 h1 h2 h3 k1 k2 k3
  go_enter Try.func13, Try.ntmps13
  go_wp2_with fail
  obtain ⟨w0, hw0⟩ : ∃ z : World, z = (((w.alloc (.cells #[.bool s1, .slice A1 L1 c1, .slice B1 M1 d1] 27)).alloc (.cells #[.bool s2, .slice A2 L2 c2, .slice B2 M2 d2] 27)).alloc (.cells #[.bool s3, .slice A3 L3 c3, .slice B3 M3 d3] 27)) := ⟨_, rfl⟩
  rw [← hw0]
  have bxa : BK w0 (w.heap.size) 27 #[.bool s1, .slice A1 L1 c1, .slice B1 M1 d1] := by rw [hw0]; have h5 := (BK.ext (BK.ext (BK.new w #[.bool s1, .slice A1 L1 c1, .slice B1 M1 d1] 27) (Ext.alloc _ (.cells #[.bool s2, .slice A2 L2 c2, .slice B2 M2 d2] 27))) (Ext.alloc _ (.cells #[.bool s3, .slice A3 L3 c3, .slice B3 M3 d3] 27))); simpa only [World.size_alloc] using h5
  have bxb : BK w0 (w.heap.size + 1) 27 #[.bool s2, .slice A2 L2 c2, .slice B2 M2 d2] := by rw [hw0]; have h5 := (BK.ext (BK.new (w.alloc (.cells #[.bool s1, .slice A1 L1 c1, .slice B1 M1 d1] 27)) #[.bool s2, .slice A2 L2 c2, .slice B2 M2 d2] 27) (Ext.alloc _ (.cells #[.bool s3, .slice A3 L3 c3, .slice B3 M3 d3] 27))); simpa only [World.size_alloc] using h5
  have bxc : BK w0 (w.heap.size + 1 + 1) 27 #[.bool s3, .slice A3 L3 c3, .slice B3 M3 d3] := by rw [hw0]; have h5 := (BK.new ((w.alloc (.cells #[.bool s1, .slice A1 L1 c1, .slice B1 M1 d1] 27)).alloc (.cells #[.bool s2, .slice A2 L2 c2, .slice B2 M2 d2] 27)) #[.bool s3, .slice A3 L3 c3, .slice B3 M3 d3] 27); simpa only [World.size_alloc] using h5
  have hszw0 : w0.heap.size = w.heap.size + 1 + 1 + 1 := by rw [hw0]; simp only [World.size_alloc]
  have xw0 : Ext w w0 := by rw [hw0]; exact (((Ext.alloc _ _).trans (Ext.alloc _ _)).trans (Ext.alloc _ _))
  clear hw0
  have hf := HF.out w0
  rw [hszw0] at hf
  clear HF
  refine hf.mono ?_
  rintro e w1 ⟨rfl, x1⟩
  clear hf
  replace bxa := bxa.ext x1
  replace bxb := bxb.ext x1
  replace bxc := bxc.ext x1
  cases b1
  · clear HG
    have ka_0 := bxa.c 0 (.bool s1) rfl
    have ka_1 := bxa.c 1 (.slice A1 L1 c1) rfl
    have ka_2 := bxa.c 2 (.slice B1 M1 d1) rfl
    have kb_0 := bxb.c 0 (.bool s2) rfl
    have kb_1 := bxb.c 1 (.slice A2 L2 c2) rfl
    have kb_2 := bxb.c 2 (.slice B2 M2 d2) rfl
    have kc_0 := bxc.c 0 (.bool s3) rfl
    have kc_1 := bxc.c 1 (.slice A3 L3 c3) rfl
    have kc_2 := bxc.c 2 (.slice B3 M3 d3) rfl
    go_wp2_with fail
    clear ka_0 ka_1 ka_2 kb_0 kb_1 kb_2 kc_0 kc_1 kc_2
    go_ret
    exact ⟨by rw [HP.out]; rfl, xw0.trans x1⟩
  · have tt := True.intro
    have ka_0 := bxa.c 0 (.bool s1) rfl
    have ka_1 := bxa.c 1 (.slice A1 L1 c1) rfl
    have ka_2 := bxa.c 2 (.slice B1 M1 d1) rfl
    have kb_0 := bxb.c 0 (.bool s2) rfl
    have kb_1 := bxb.c 1 (.slice A2 L2 c2) rfl
    have kb_2 := bxb.c 2 (.slice B2 M2 d2) rfl
    have kc_0 := bxc.c 0 (.bool s3) rfl
    have kc_1 := bxc.c 1 (.slice A3 L3 c3) rfl
    have kc_2 := bxc.c 2 (.slice B3 M3 d3) rfl
    have ta_0 := fun o => (Ext.alloc w1 o).cell ka_0
    have ta_1 := fun o => (Ext.alloc w1 o).cell ka_1
    have ta_2 := fun o => (Ext.alloc w1 o).cell ka_2
    have tb_0 := fun o => (Ext.alloc w1 o).cell kb_0
    have tb_1 := fun o => (Ext.alloc w1 o).cell kb_1
    have tb_2 := fun o => (Ext.alloc w1 o).cell kb_2
    have tc_0 := fun o => (Ext.alloc w1 o).cell kc_0
    have tc_1 := fun o => (Ext.alloc w1 o).cell kc_1
    have tc_2 := fun o => (Ext.alloc w1 o).cell kc_2
    go_wp2_with fail
    clear ka_0 ka_1 ka_2 kb_0 kb_1 kb_2 kc_0 kc_1 kc_2 ta_0 ta_1 ta_2 tb_0 tb_1 tb_2 tc_0 tc_1 tc_2
    refine (HG.out w1).mono ?_
    rintro e w2 ⟨rfl, x2⟩
    clear HG
    replace bxa := bxa.ext x2
    replace bxb := bxb.ext x2
    replace bxc := bxc.ext x2
    have ka_0 := bxa.c 0 (.bool s1) rfl
    have ka_1 := bxa.c 1 (.slice A1 L1 c1) rfl
    have ka_2 := bxa.c 2 (.slice B1 M1 d1) rfl
    have kb_0 := bxb.c 0 (.bool s2) rfl
    have kb_1 := bxb.c 1 (.slice A2 L2 c2) rfl
    have kb_2 := bxb.c 2 (.slice B2 M2 d2) rfl
    have kc_0 := bxc.c 0 (.bool s3) rfl
    have kc_1 := bxc.c 1 (.slice A3 L3 c3) rfl
    have kc_2 := bxc.c 2 (.slice B3 M3 d3) rfl
    go_wp2_with fail
    clear ka_0 ka_1 ka_2 kb_0 kb_1 kb_2 kc_0 kc_1 kc_2
    go_ret
    exact ⟨by rw [HP.out]; rfl, (xw0.trans x1).trans x2⟩
/-- A fraction in a box. -/
def PutR (w w' : World) (N : Nat) (q : Rat) (s : Value) : Prop := ∃ sb A c L B d M, Bx w' s #[.bool sb, .slice A L c, .slice B M d] ∧ RO w' 0 sb A c L B d M N q ∧ Ext w w'
theorem PutR.mk {w w' : World} {sb : Bool} {A B : Option Addr} {c L d M N : Nat} {q : Rat} {s : Value} (hb : Bx w' s #[.bool sb, .slice A L c, .slice B M d]) (hz : RO w' 0 sb A c L B d M N q) (hx : Ext w w') : PutR w w' N q s := ⟨sb, A, c, L, B, d, M, hb, hz, hx⟩
theorem Kept.setR {a w : World} {g i : Nat} {s : Option Nat} {u : Value} (hb : IsBox w g 27) (h : Kept a w) : Kept a (w.setCell ⟨g, i, s⟩ u) := h.set_ hb plain_rat
theorem rcmp_is {w : World} {s1 s2 : Bool} {A1 A2 B1 B2 : Option Addr} {c1 c2 d1 d2 L1 L2 M1 M2 N1 N2 : Nat} {q1 q2 : Rat} {k : Int} (h1 : RV w s1 A1 c1 L1 B1 d1 M1 N1 q1) (h2 : RV w s2 A2 c2 L2 B2 d2 M2 N2 q2) (hN : N1 + N2 + 1 ≤ 1000000) (hm : min N1 N2 < 48) (e : cmpQ q1 q2 = k) :
    Calls Try.prog 43 #[.agg #[.bool s1, .slice A1 L1 c1, .slice B1 M1 d1], .agg #[.bool s2, .slice A2 L2 c2, .slice B2 M2 d2]] w fun e w' => e = .returned (.int .i64 k) ∧ Ext w w' := by
  subst e
  exact rcmp_r h1 h2 hN hm
theorem rsign_is {w : World} {s1 : Bool} {A1 B1 : Option Addr} {c1 d1 L1 M1 N1 : Nat} {q1 : Rat} {k : Int} (h1 : RV w s1 A1 c1 L1 B1 d1 M1 N1 q1) (e : q1.num.sign = k) :
    Calls Try.prog 23 #[.agg #[.bool s1, .slice A1 L1 c1, .slice B1 M1 d1]] w fun e w' => e = .returned (.int .i64 k) ∧ Ext w w' := by
  subst e
  exact rsign_r h1
end Go.Proofs.Ytfnmbhjifdfibaa
