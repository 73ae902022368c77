import Derived.Test.YtehhkeenjlpikaaGreatSeIvP
import Derived.Test.YtehhkeenjlpikaaGreatSeRatQ
import Derived.Deep.RegionHeldLaw
import Derived.Deep.LoopGhost
import Derived.Deep.QuietTactic
import Derived.BigQuiet
namespace Go.Proofs.YtehhkeenjlpikaaGreat
open Go.RowKit
/-- The call returns two fractions in lowest terms and new memory. -/
def RetBd (w : World) (N : Nat) (p q : Rat) (e : Ending) (w' : World) : Prop := ∃ s A c L B d M s' A' c' L' B' d' M', e = .returned (.tuple #[.agg #[.bool s, .slice A L c, .slice B M d], .agg #[.bool s', .slice A' L' c', .slice B' M' d']]) ∧ RO w' w.heap.size s A c L B d M N p ∧ RO w' w.heap.size s' A' c' L' B' d' M' N q ∧ Ext w w'
/-- The call returns the interval from p to q, in lowest terms and new memory. -/
def RetI (w : World) (N : Nat) (p q : Rat) (e : Ending) (w' : World) : Prop := ∃ s A c L B d M s' A' c' L' B' d' M', e = .returned (.agg #[.bool s, .slice A L c, .slice B M d, .bool s', .slice A' L' c', .slice B' M' d']) ∧ RO w' w.heap.size s A c L B d M N p ∧ RO w' w.heap.size s' A' c' L' B' d' M' N q ∧ Ext w w'
/-- The call returns the fraction q, whose memory lies behind g. -/
def RetG (w : World) (g N : Nat) (q : Rat) (e : Ending) (w' : World) : Prop := ∃ s A c L B d M, e = .returned (.agg #[.bool s, .slice A L c, .slice B M d]) ∧ RO w' g s A c L B d M N q ∧ Ext w w'
theorem plain_iv : ¬ Plain 29 := by unfold Plain; decide
theorem rcmp_k {w : World} {N : Nat} {s1 s2 : Bool} {A1 B1 A2 B2 : Option Addr} {c1 d1 L1 M1 c2 d2 L2 M2 : Nat} {q1 q2 : Rat} {k : Int} (h1 : RV w s1 A1 c1 L1 B1 d1 M1 N q1) (h2 : RV w s2 A2 c2 L2 B2 d2 M2 N q2) (hN : N < 48) (e : cmpQ q1 q2 = k) :
    Calls Tryz.prog 66 #[Value.agg #[Value.bool s1, Value.slice A1 L1 c1, Value.slice B1 M1 d1], Value.agg #[Value.bool s2, Value.slice A2 L2 c2, Value.slice B2 M2 d2]] w fun e w' => e = .returned (.int .i64 k) ∧ Ext w w' := by rw [← e]; exact rcmp_r h1 h2 (by omega) (by omega)
set_option maxHeartbeats 4000000 in
set_option maxRecDepth 100000 in
theorem bounds_gt {w : World} {N : Nat} {s1 s2 : Bool} {A1 B1 A2 B2 : Option Addr} {c1 d1 L1 M1 c2 d2 L2 M2 : Nat} {q1 q2 : Rat} (h1 : RV w s1 A1 c1 L1 B1 d1 M1 N q1) (h2 : RV w s2 A2 c2 L2 B2 d2 M2 N q2) (hN : N < 48) (hq : q2 < q1) :
    Calls Tryz.prog 55 #[Value.agg #[Value.bool s1, Value.slice A1 L1 c1, Value.slice B1 M1 d1, Value.bool s2, Value.slice A2 L2 c2, Value.slice B2 M2 d2]] w (RetBd w N (minQ q1 q2) (maxQ q1 q2)) := by
  obtain ⟨K, hK⟩ : ∃ K : Int, K = cmpQ q1 q2 := ⟨_, rfl⟩
  have hk : K > 0 := by rw [hK]; exact (cmpQ_gt _ _).2 hq
  have HK := Lib.hid hK.symm
  have HLO : Hid (minQ q1 q2 = q2 ∧ maxQ q1 q2 = q1) := by show _ ∧ _; exact ⟨by rw [minQ_comm]; exact min_of_le (Rat.le_of_lt hq), by rw [maxQ_comm]; exact max_of_le (Rat.le_of_lt hq)⟩
  clear hK hq
  go_enter Tryz.func55, Tryz.ntmps55
  go_wp2_with fail
  obtain ⟨w0, hw0⟩ : ∃ z : World, z = (((w.alloc (.cells #[.bool s1, .slice A1 L1 c1, .slice B1 M1 d1, .bool s2, .slice A2 L2 c2, .slice B2 M2 d2] 29)).alloc (.cells #[.bool false, .slice none 0 0, .slice none 0 0] 27)).alloc (.cells #[.bool false, .slice none 0 0, .slice none 0 0] 27)) := ⟨_, rfl⟩
  rw [← hw0]
  have bxi : BK w0 (w.heap.size) 29 #[.bool s1, .slice A1 L1 c1, .slice B1 M1 d1, .bool s2, .slice A2 L2 c2, .slice B2 M2 d2] := by rw [hw0]; have h5 := (BK.ext (BK.ext (BK.new w #[.bool s1, .slice A1 L1 c1, .slice B1 M1 d1, .bool s2, .slice A2 L2 c2, .slice B2 M2 d2] 29) (Ext.alloc _ (.cells #[.bool false, .slice none 0 0, .slice none 0 0] 27))) (Ext.alloc _ (.cells #[.bool false, .slice none 0 0, .slice none 0 0] 27))); simpa only [World.size_alloc] using h5
  have bxl : BK w0 (w.heap.size + 1) 27 #[.bool false, .slice none 0 0, .slice none 0 0] := by rw [hw0]; have h5 := (BK.ext (BK.new (w.alloc (.cells #[.bool s1, .slice A1 L1 c1, .slice B1 M1 d1, .bool s2, .slice A2 L2 c2, .slice B2 M2 d2] 29)) #[.bool false, .slice none 0 0, .slice none 0 0] 27) (Ext.alloc _ (.cells #[.bool false, .slice none 0 0, .slice none 0 0] 27))); simpa only [World.size_alloc] using h5
  have bxh : BK w0 (w.heap.size + 1 + 1) 27 #[.bool false, .slice none 0 0, .slice none 0 0] := by rw [hw0]; have h5 := (BK.new ((w.alloc (.cells #[.bool s1, .slice A1 L1 c1, .slice B1 M1 d1, .bool s2, .slice A2 L2 c2, .slice B2 M2 d2] 29)).alloc (.cells #[.bool false, .slice none 0 0, .slice none 0 0] 27)) #[.bool false, .slice none 0 0, .slice none 0 0] 27); simpa only [World.size_alloc] using h5
  have hszw0 : w0.heap.size = w.heap.size + 1 + 1 + 1 := by rw [hw0]; simp only [World.size_alloc]
  have xw0 : Ext w w0 := by rw [hw0]; exact (((Ext.alloc _ _).trans (Ext.alloc _ _)).trans (Ext.alloc _ _))
  clear hw0
  refine (rcmp_k (h1.ext (by with_reducible repeat' first | exact Ext.refl _ | assumption | apply Ext.alloc_r | apply Ext.drew_r | apply Ext.drewN_r | refine Ext.trans ?_ ‹Ext _ _›)) (h2.ext (by with_reducible repeat' first | exact Ext.refl _ | assumption | apply Ext.alloc_r | apply Ext.drew_r | apply Ext.drewN_r | refine Ext.trans ?_ ‹Ext _ _›)) hN HK.out).mono ?_
  rintro e w1 ⟨rfl, x1⟩
  have szw1 : w0.heap.size ≤ w1.heap.size := x1.size
  replace bxi := bxi.ext x1
  replace bxl := bxl.ext x1
  replace bxh := bxh.ext x1
  have ki_0 := bxi.c 0 (.bool s1) rfl
  have ki_1 := bxi.c 1 (.slice A1 L1 c1) rfl
  have ki_2 := bxi.c 2 (.slice B1 M1 d1) rfl
  have ki_3 := bxi.c 3 (.bool s2) rfl
  have ki_4 := bxi.c 4 (.slice A2 L2 c2) rfl
  have ki_5 := bxi.c 5 (.slice B2 M2 d2) rfl
  have kl_0 := bxl.c 0 (.bool false) rfl
  have fl_0 := bxl.f 0
  have kl_1 := bxl.c 1 (.slice none 0 0) rfl
  have fl_1 := bxl.f 1
  have kl_2 := bxl.c 2 (.slice none 0 0) rfl
  have fl_2 := bxl.f 2
  have kh_0 := bxh.c 0 (.bool false) rfl
  have fh_0 := bxh.f 0
  have kh_1 := bxh.c 1 (.slice none 0 0) rfl
  have fh_1 := bxh.f 1
  have kh_2 := bxh.c 2 (.slice none 0 0) rfl
  have fh_2 := bxh.f 2
  go_wp2_with fail
  have HK : Hid (∀ w', Ext w1 w' → (w'.cell? ⟨w.heap.size, 0, none⟩ = some (.bool s1) ∧ w'.cell? ⟨w.heap.size, 1, none⟩ = some (.slice A1 L1 c1) ∧ w'.cell? ⟨w.heap.size, 2, none⟩ = some (.slice B1 M1 d1) ∧ w'.cell? ⟨w.heap.size, 3, none⟩ = some (.bool s2) ∧ w'.cell? ⟨w.heap.size, 4, none⟩ = some (.slice A2 L2 c2) ∧ w'.cell? ⟨w.heap.size, 5, none⟩ = some (.slice B2 M2 d2))) := fun w' hk => ⟨hk.cell ki_0, hk.cell ki_1, hk.cell ki_2, hk.cell ki_3, hk.cell ki_4, hk.cell ki_5⟩
  have neli : w.heap.size + 1 ≠ w.heap.size := by omega
  have HSl : Hid (∀ (w' : World) (i : Nat) (u : Value), (w'.cell? ⟨w.heap.size, 0, none⟩ = some (.bool s1) ∧ w'.cell? ⟨w.heap.size, 1, none⟩ = some (.slice A1 L1 c1) ∧ w'.cell? ⟨w.heap.size, 2, none⟩ = some (.slice B1 M1 d1) ∧ w'.cell? ⟨w.heap.size, 3, none⟩ = some (.bool s2) ∧ w'.cell? ⟨w.heap.size, 4, none⟩ = some (.slice A2 L2 c2) ∧ w'.cell? ⟨w.heap.size, 5, none⟩ = some (.slice B2 M2 d2)) → ((fun (w' : World) => (w'.cell? ⟨w.heap.size, 0, none⟩ = some (.bool s1) ∧ w'.cell? ⟨w.heap.size, 1, none⟩ = some (.slice A1 L1 c1) ∧ w'.cell? ⟨w.heap.size, 2, none⟩ = some (.slice B1 M1 d1) ∧ w'.cell? ⟨w.heap.size, 3, none⟩ = some (.bool s2) ∧ w'.cell? ⟨w.heap.size, 4, none⟩ = some (.slice A2 L2 c2) ∧ w'.cell? ⟨w.heap.size, 5, none⟩ = some (.slice B2 M2 d2))) (w'.setCell ⟨w.heap.size + 1, i, none⟩ u))) := fun w' i u hs => ⟨cell_far neli hs.1, cell_far neli hs.2.1, cell_far neli hs.2.2.1, cell_far neli hs.2.2.2.1, cell_far neli hs.2.2.2.2.1, cell_far neli hs.2.2.2.2.2⟩
  have nehi : w.heap.size + 1 + 1 ≠ w.heap.size := by omega
  have HSh : Hid (∀ (w' : World) (i : Nat) (u : Value), (w'.cell? ⟨w.heap.size, 0, none⟩ = some (.bool s1) ∧ w'.cell? ⟨w.heap.size, 1, none⟩ = some (.slice A1 L1 c1) ∧ w'.cell? ⟨w.heap.size, 2, none⟩ = some (.slice B1 M1 d1) ∧ w'.cell? ⟨w.heap.size, 3, none⟩ = some (.bool s2) ∧ w'.cell? ⟨w.heap.size, 4, none⟩ = some (.slice A2 L2 c2) ∧ w'.cell? ⟨w.heap.size, 5, none⟩ = some (.slice B2 M2 d2)) → ((fun (w' : World) => (w'.cell? ⟨w.heap.size, 0, none⟩ = some (.bool s1) ∧ w'.cell? ⟨w.heap.size, 1, none⟩ = some (.slice A1 L1 c1) ∧ w'.cell? ⟨w.heap.size, 2, none⟩ = some (.slice B1 M1 d1) ∧ w'.cell? ⟨w.heap.size, 3, none⟩ = some (.bool s2) ∧ w'.cell? ⟨w.heap.size, 4, none⟩ = some (.slice A2 L2 c2) ∧ w'.cell? ⟨w.heap.size, 5, none⟩ = some (.slice B2 M2 d2))) (w'.setCell ⟨w.heap.size + 1 + 1, i, none⟩ u))) := fun w' i u hs => ⟨cell_far nehi hs.1, cell_far nehi hs.2.1, cell_far nehi hs.2.2.1, cell_far nehi hs.2.2.2.1, cell_far nehi hs.2.2.2.2.1, cell_far nehi hs.2.2.2.2.2⟩
  go_region_held3 (fun w' => w'.cell? ⟨w.heap.size, 0, none⟩ = some (.bool s1) ∧ w'.cell? ⟨w.heap.size, 1, none⟩ = some (.slice A1 L1 c1) ∧ w'.cell? ⟨w.heap.size, 2, none⟩ = some (.slice B1 M1 d1) ∧ w'.cell? ⟨w.heap.size, 3, none⟩ = some (.bool s2) ∧ w'.cell? ⟨w.heap.size, 4, none⟩ = some (.slice A2 L2 c2) ∧ w'.cell? ⟨w.heap.size, 5, none⟩ = some (.slice B2 M2 d2))
    (((repeat (first | (with_reducible refine HSl.out _ _ _ ?_) | (with_reducible refine HSh.out _ _ _ ?_))); (with_reducible refine HK.out _ ?_; (with_reducible repeat' first | exact Ext.refl _ | assumption | apply Ext.alloc_r | apply Ext.drew_r | apply Ext.drewN_r | refine Ext.trans ?_ ‹Ext _ _›))))
    (first
      | (go_at_call_of 62 (#[Value.agg #[Value.bool s1, Value.slice A1 L1 c1, Value.slice B1 M1 d1]]); have hgd := u; clear hgd; refine (rnormal_r (h1.ext (by with_reducible repeat' first | exact Ext.refl _ | assumption | apply Ext.alloc_r | apply Ext.drew_r | apply Ext.drewN_r | refine Ext.trans ?_ ‹Ext _ _›)) (by omega)).mono ?_; rintro e w3 ⟨sv, Av, cv, Lv, Bv, dv, Mv, rfl, v, x3⟩; have yl : Ext w1 w3 := (by with_reducible repeat' first | exact Ext.refl _ | assumption | apply Ext.alloc_r | apply Ext.drew_r | apply Ext.drewN_r | refine Ext.trans ?_ ‹Ext _ _›); have cl_0 := (bxl.ext yl).c 0 (.bool false) rfl; have gl_0 := (bxl.ext yl).f 0; have cl_1 := (bxl.ext yl).c 1 (.slice none 0 0) rfl; have gl_1 := (bxl.ext yl).f 1; have cl_2 := (bxl.ext yl).c 2 (.slice none 0 0) rfl; have gl_2 := (bxl.ext yl).f 2; have ch_0 := (bxh.ext yl).c 0 (.bool false) rfl; have gh_0 := (bxh.ext yl).f 0; have ch_1 := (bxh.ext yl).c 1 (.slice none 0 0) rfl; have gh_1 := (bxh.ext yl).f 1; have ch_2 := (bxh.ext yl).c 2 (.slice none 0 0) rfl; have gh_2 := (bxh.ext yl).f 2)
      | (go_at_call_of 62 (#[Value.agg #[Value.bool s2, Value.slice A2 L2 c2, Value.slice B2 M2 d2]]); refine (rnormal_r (h2.ext (by with_reducible repeat' first | exact Ext.refl _ | assumption | apply Ext.alloc_r | apply Ext.drew_r | apply Ext.drewN_r | refine Ext.trans ?_ ‹Ext _ _›)) (by omega)).mono ?_; rintro e w2 ⟨su, Au, cu, Lu, Bu, du, Mu, rfl, u, x2⟩))
  clear ki_0 ki_1 ki_2 ki_3 ki_4 ki_5 kl_0 fl_0 kl_1 fl_1 kl_2 fl_2 kh_0 fh_0 kh_1 fh_1 kh_2 fh_2
  clear HK HSl neli HSh nehi
  clear cl_0 gl_0
  clear cl_1 gl_1
  clear cl_2 gl_2
  clear ch_0 gh_0
  clear ch_1 gh_1
  clear ch_2 gh_2
  clear yl
  have szw2 : w1.heap.size ≤ w2.heap.size := (show Ext w1 w2 from (by with_reducible repeat' first | exact Ext.refl _ | assumption | apply Ext.alloc_r | apply Ext.drew_r | apply Ext.drewN_r | refine Ext.trans ?_ ‹Ext _ _›)).size
  have xhw3 : Ext w1 w3 := (by with_reducible repeat' first | exact Ext.refl _ | assumption | apply Ext.alloc_r | apply Ext.drew_r | apply Ext.drewN_r | refine Ext.trans ?_ ‹Ext _ _›)
  have szw3 : w1.heap.size ≤ w3.heap.size := xhw3.size
  replace bxi := bxi.ext xhw3
  replace bxl := bxl.ext xhw3
  replace bxh := bxh.ext xhw3
  have u2 := (u.ext (show Ext _ w3 from (by with_reducible repeat' first | exact Ext.refl _ | assumption | apply Ext.alloc_r | apply Ext.drew_r | apply Ext.drewN_r | refine Ext.trans ?_ ‹Ext _ _›))).mono (show w.heap.size ≤ _ by first | omega | (simp only [World.size_drew]; omega))
  have v2 := v.mono (show w.heap.size ≤ _ by first | omega | (simp only [World.size_drew]; omega))
  clear u v
  obtain ⟨w4, hw⟩ : ∃ z : World, z = ((((((w3.setCell ⟨w.heap.size + 1, 0, none⟩ (.bool su)).setCell ⟨w.heap.size + 1, 1, none⟩ (.slice Au Lu cu)).setCell ⟨w.heap.size + 1, 2, none⟩ (.slice Bu Mu du)).setCell ⟨w.heap.size + 1 + 1, 0, none⟩ (.bool sv)).setCell ⟨w.heap.size + 1 + 1, 1, none⟩ (.slice Av Lv cv)).setCell ⟨w.heap.size + 1 + 1, 2, none⟩ (.slice Bv Mv dv)) := ⟨_, rfl⟩
  rw [← hw]
  have kw4 : Kept w3 w4 := by rw [hw]; exact (Kept.set_ (Kept.set_ (Kept.set_ (Kept.set_ (Kept.set_ (Kept.set_ (Kept.refl _) bxl.isBox plain_rat) (IsBox.set_ bxl.isBox) plain_rat) (IsBox.set_ (IsBox.set_ bxl.isBox)) plain_rat) (IsBox.set_ (IsBox.set_ (IsBox.set_ bxh.isBox))) plain_rat) (IsBox.set_ (IsBox.set_ (IsBox.set_ (IsBox.set_ bxh.isBox)))) plain_rat) (IsBox.set_ (IsBox.set_ (IsBox.set_ (IsBox.set_ (IsBox.set_ bxh.isBox))))) plain_rat)
  have nbi : BK w4 (w.heap.size) 29 #[.bool s1, .slice A1 L1 c1, .slice B1 M1 d1, .bool s2, .slice A2 L2 c2, .slice B2 M2 d2] := by rw [hw]; exact (BK.far (BK.far (BK.far (BK.far (BK.far (BK.far bxi (show w.heap.size ≠ w.heap.size + 1 by omega) 0 _) (show w.heap.size ≠ w.heap.size + 1 by omega) 1 _) (show w.heap.size ≠ w.heap.size + 1 by omega) 2 _) (show w.heap.size ≠ w.heap.size + 1 + 1 by omega) 0 _) (show w.heap.size ≠ w.heap.size + 1 + 1 by omega) 1 _) (show w.heap.size ≠ w.heap.size + 1 + 1 by omega) 2 _)
  have nbl : BK w4 (w.heap.size + 1) 27 #[.bool su, .slice Au Lu cu, .slice Bu Mu du] := by rw [hw]; exact (BK.far (BK.far (BK.far (BK.set (i := 2) (u := .slice Bu Mu du) (vs' := #[.bool su, .slice Au Lu cu, .slice Bu Mu du]) (BK.set (i := 1) (u := .slice Au Lu cu) (vs' := #[.bool su, .slice Au Lu cu, .slice none 0 0]) (BK.set (i := 0) (u := .bool su) (vs' := #[.bool su, .slice none 0 0, .slice none 0 0]) bxl rfl) rfl) rfl) (show w.heap.size + 1 ≠ w.heap.size + 1 + 1 by omega) 0 _) (show w.heap.size + 1 ≠ w.heap.size + 1 + 1 by omega) 1 _) (show w.heap.size + 1 ≠ w.heap.size + 1 + 1 by omega) 2 _)
  have nbh : BK w4 (w.heap.size + 1 + 1) 27 #[.bool sv, .slice Av Lv cv, .slice Bv Mv dv] := by rw [hw]; exact (BK.set (i := 2) (u := .slice Bv Mv dv) (vs' := #[.bool sv, .slice Av Lv cv, .slice Bv Mv dv]) (BK.set (i := 1) (u := .slice Av Lv cv) (vs' := #[.bool sv, .slice Av Lv cv, .slice none 0 0]) (BK.set (i := 0) (u := .bool sv) (vs' := #[.bool sv, .slice none 0 0, .slice none 0 0]) (BK.far (BK.far (BK.far bxh (show w.heap.size + 1 + 1 ≠ w.heap.size + 1 by omega) 0 _) (show w.heap.size + 1 + 1 ≠ w.heap.size + 1 by omega) 1 _) (show w.heap.size + 1 + 1 ≠ w.heap.size + 1 by omega) 2 _) rfl) rfl) rfl)
  have x4 : Ext w w4 := by rw [hw]; have hxp : Ext w w3 := (by with_reducible repeat' first | exact Ext.refl _ | assumption | apply Ext.alloc_r | apply Ext.drew_r | apply Ext.drewN_r | refine Ext.trans ?_ ‹Ext _ _›); exact (Ext.set_ (Ext.set_ (Ext.set_ (Ext.set_ (Ext.set_ (Ext.set_ hxp (show _ ≤ w.heap.size + 1 by omega)) (show _ ≤ w.heap.size + 1 by omega)) (show _ ≤ w.heap.size + 1 by omega)) (show _ ≤ w.heap.size + 1 + 1 by omega)) (show _ ≤ w.heap.size + 1 + 1 by omega)) (show _ ≤ w.heap.size + 1 + 1 by omega))
  clear bxi
  clear bxl
  clear bxh
  have bxi := nbi
  clear nbi
  have bxl := nbl
  clear nbl
  have bxh := nbh
  clear nbh
  have szw4 : w4.heap.size = w3.heap.size := by rw [hw]; simp
  replace u2 := (u2.ext (by with_reducible repeat' first | exact Ext.refl _ | assumption | apply Ext.alloc_r | apply Ext.drew_r | apply Ext.drewN_r | refine Ext.trans ?_ ‹Ext _ _›)).kept kw4
  replace v2 := (v2.ext (by with_reducible repeat' first | exact Ext.refl _ | assumption | apply Ext.alloc_r | apply Ext.drew_r | apply Ext.drewN_r | refine Ext.trans ?_ ‹Ext _ _›)).kept kw4
  clear hw kw4
  have HU := Lib.hid u2
  have HV := Lib.hid v2
  clear u2 v2
  have ki_0 := bxi.c 0 (.bool s1) rfl
  have ki_1 := bxi.c 1 (.slice A1 L1 c1) rfl
  have ki_2 := bxi.c 2 (.slice B1 M1 d1) rfl
  have ki_3 := bxi.c 3 (.bool s2) rfl
  have ki_4 := bxi.c 4 (.slice A2 L2 c2) rfl
  have ki_5 := bxi.c 5 (.slice B2 M2 d2) rfl
  have kl_0 := bxl.c 0 (.bool su) rfl
  have kl_1 := bxl.c 1 (.slice Au Lu cu) rfl
  have kl_2 := bxl.c 2 (.slice Bu Mu du) rfl
  have kh_0 := bxh.c 0 (.bool sv) rfl
  have kh_1 := bxh.c 1 (.slice Av Lv cv) rfl
  have kh_2 := bxh.c 2 (.slice Bv Mv dv) rfl
  go_wp2_with fail
  clear ki_0 ki_1 ki_2 ki_3 ki_4 ki_5 kl_0 kl_1 kl_2 kh_0 kh_1 kh_2
  have kl_0 := bxl.c 0 (.bool su) rfl
  have kl_1 := bxl.c 1 (.slice Au Lu cu) rfl
  have kl_2 := bxl.c 2 (.slice Bu Mu du) rfl
  have kh_0 := bxh.c 0 (.bool sv) rfl
  have kh_1 := bxh.c 1 (.slice Av Lv cv) rfl
  have kh_2 := bxh.c 2 (.slice Bv Mv dv) rfl
  refine bodyPost_ret (v := .tuple #[Value.agg #[Value.bool su, Value.slice Au Lu cu, Value.slice Bu Mu du], Value.agg #[Value.bool sv, Value.slice Av Lv cv, Value.slice Bv Mv dv]]) (by simp [results, Tryz.results55, go_sem, kl_0, kl_1, kl_2, kh_0, kh_1, kh_2]) rfl ?_
  exact ⟨_, _, _, _, _, _, _, _, _, _, _, _, _, _, rfl, by rw [HLO.out.1]; exact HU.out, by rw [HLO.out.2]; exact HV.out, x4⟩
set_option maxHeartbeats 4000000 in
set_option maxRecDepth 100000 in
theorem bounds_le {w : World} {N : Nat} {s1 s2 : Bool} {A1 B1 A2 B2 : Option Addr} {c1 d1 L1 M1 c2 d2 L2 M2 : Nat} {q1 q2 : Rat} (h1 : RV w s1 A1 c1 L1 B1 d1 M1 N q1) (h2 : RV w s2 A2 c2 L2 B2 d2 M2 N q2) (hN : N < 48) (hq : q1 ≤ q2) :
    Calls Tryz.prog 55 #[Value.agg #[Value.bool s1, Value.slice A1 L1 c1, Value.slice B1 M1 d1, Value.bool s2, Value.slice A2 L2 c2, Value.slice B2 M2 d2]] w (RetBd w N (minQ q1 q2) (maxQ q1 q2)) := by
  obtain ⟨K, hK⟩ : ∃ K : Int, K = cmpQ q1 q2 := ⟨_, rfl⟩
  have hk : ¬ K > 0 := by rw [hK]; exact fun h => Rat.not_lt.2 hq ((cmpQ_gt _ _).1 h)
  have HK := Lib.hid hK.symm
  have HLO : Hid (minQ q1 q2 = q1 ∧ maxQ q1 q2 = q2) := by show _ ∧ _; exact ⟨min_of_le hq, max_of_le hq⟩
  clear hK hq
  go_enter Tryz.func55, Tryz.ntmps55
  go_wp2_with fail
  obtain ⟨w0, hw0⟩ : ∃ z : World, z = (((w.alloc (.cells #[.bool s1, .slice A1 L1 c1, .slice B1 M1 d1, .bool s2, .slice A2 L2 c2, .slice B2 M2 d2] 29)).alloc (.cells #[.bool false, .slice none 0 0, .slice none 0 0] 27)).alloc (.cells #[.bool false, .slice none 0 0, .slice none 0 0] 27)) := ⟨_, rfl⟩
  rw [← hw0]
  have bxi : BK w0 (w.heap.size) 29 #[.bool s1, .slice A1 L1 c1, .slice B1 M1 d1, .bool s2, .slice A2 L2 c2, .slice B2 M2 d2] := by rw [hw0]; have h5 := (BK.ext (BK.ext (BK.new w #[.bool s1, .slice A1 L1 c1, .slice B1 M1 d1, .bool s2, .slice A2 L2 c2, .slice B2 M2 d2] 29) (Ext.alloc _ (.cells #[.bool false, .slice none 0 0, .slice none 0 0] 27))) (Ext.alloc _ (.cells #[.bool false, .slice none 0 0, .slice none 0 0] 27))); simpa only [World.size_alloc] using h5
  have bxl : BK w0 (w.heap.size + 1) 27 #[.bool false, .slice none 0 0, .slice none 0 0] := by rw [hw0]; have h5 := (BK.ext (BK.new (w.alloc (.cells #[.bool s1, .slice A1 L1 c1, .slice B1 M1 d1, .bool s2, .slice A2 L2 c2, .slice B2 M2 d2] 29)) #[.bool false, .slice none 0 0, .slice none 0 0] 27) (Ext.alloc _ (.cells #[.bool false, .slice none 0 0, .slice none 0 0] 27))); simpa only [World.size_alloc] using h5
  have bxh : BK w0 (w.heap.size + 1 + 1) 27 #[.bool false, .slice none 0 0, .slice none 0 0] := by rw [hw0]; have h5 := (BK.new ((w.alloc (.cells #[.bool s1, .slice A1 L1 c1, .slice B1 M1 d1, .bool s2, .slice A2 L2 c2, .slice B2 M2 d2] 29)).alloc (.cells #[.bool false, .slice none 0 0, .slice none 0 0] 27)) #[.bool false, .slice none 0 0, .slice none 0 0] 27); simpa only [World.size_alloc] using h5
  have hszw0 : w0.heap.size = w.heap.size + 1 + 1 + 1 := by rw [hw0]; simp only [World.size_alloc]
  have xw0 : Ext w w0 := by rw [hw0]; exact (((Ext.alloc _ _).trans (Ext.alloc _ _)).trans (Ext.alloc _ _))
  clear hw0
  refine (rcmp_k (h1.ext (by with_reducible repeat' first | exact Ext.refl _ | assumption | apply Ext.alloc_r | apply Ext.drew_r | apply Ext.drewN_r | refine Ext.trans ?_ ‹Ext _ _›)) (h2.ext (by with_reducible repeat' first | exact Ext.refl _ | assumption | apply Ext.alloc_r | apply Ext.drew_r | apply Ext.drewN_r | refine Ext.trans ?_ ‹Ext _ _›)) hN HK.out).mono ?_
  rintro e w1 ⟨rfl, x1⟩
  have szw1 : w0.heap.size ≤ w1.heap.size := x1.size
  replace bxi := bxi.ext x1
  replace bxl := bxl.ext x1
  replace bxh := bxh.ext x1
  have ki_0 := bxi.c 0 (.bool s1) rfl
  have ki_1 := bxi.c 1 (.slice A1 L1 c1) rfl
  have ki_2 := bxi.c 2 (.slice B1 M1 d1) rfl
  have ki_3 := bxi.c 3 (.bool s2) rfl
  have ki_4 := bxi.c 4 (.slice A2 L2 c2) rfl
  have ki_5 := bxi.c 5 (.slice B2 M2 d2) rfl
  have kl_0 := bxl.c 0 (.bool false) rfl
  have fl_0 := bxl.f 0
  have kl_1 := bxl.c 1 (.slice none 0 0) rfl
  have fl_1 := bxl.f 1
  have kl_2 := bxl.c 2 (.slice none 0 0) rfl
  have fl_2 := bxl.f 2
  have kh_0 := bxh.c 0 (.bool false) rfl
  have fh_0 := bxh.f 0
  have kh_1 := bxh.c 1 (.slice none 0 0) rfl
  have fh_1 := bxh.f 1
  have kh_2 := bxh.c 2 (.slice none 0 0) rfl
  have fh_2 := bxh.f 2
  go_wp2_with fail
  have HK : Hid (∀ w', Ext w1 w' → (w'.cell? ⟨w.heap.size, 0, none⟩ = some (.bool s1) ∧ w'.cell? ⟨w.heap.size, 1, none⟩ = some (.slice A1 L1 c1) ∧ w'.cell? ⟨w.heap.size, 2, none⟩ = some (.slice B1 M1 d1) ∧ w'.cell? ⟨w.heap.size, 3, none⟩ = some (.bool s2) ∧ w'.cell? ⟨w.heap.size, 4, none⟩ = some (.slice A2 L2 c2) ∧ w'.cell? ⟨w.heap.size, 5, none⟩ = some (.slice B2 M2 d2))) := fun w' hk => ⟨hk.cell ki_0, hk.cell ki_1, hk.cell ki_2, hk.cell ki_3, hk.cell ki_4, hk.cell ki_5⟩
  have neli : w.heap.size + 1 ≠ w.heap.size := by omega
  have HSl : Hid (∀ (w' : World) (i : Nat) (u : Value), (w'.cell? ⟨w.heap.size, 0, none⟩ = some (.bool s1) ∧ w'.cell? ⟨w.heap.size, 1, none⟩ = some (.slice A1 L1 c1) ∧ w'.cell? ⟨w.heap.size, 2, none⟩ = some (.slice B1 M1 d1) ∧ w'.cell? ⟨w.heap.size, 3, none⟩ = some (.bool s2) ∧ w'.cell? ⟨w.heap.size, 4, none⟩ = some (.slice A2 L2 c2) ∧ w'.cell? ⟨w.heap.size, 5, none⟩ = some (.slice B2 M2 d2)) → ((fun (w' : World) => (w'.cell? ⟨w.heap.size, 0, none⟩ = some (.bool s1) ∧ w'.cell? ⟨w.heap.size, 1, none⟩ = some (.slice A1 L1 c1) ∧ w'.cell? ⟨w.heap.size, 2, none⟩ = some (.slice B1 M1 d1) ∧ w'.cell? ⟨w.heap.size, 3, none⟩ = some (.bool s2) ∧ w'.cell? ⟨w.heap.size, 4, none⟩ = some (.slice A2 L2 c2) ∧ w'.cell? ⟨w.heap.size, 5, none⟩ = some (.slice B2 M2 d2))) (w'.setCell ⟨w.heap.size + 1, i, none⟩ u))) := fun w' i u hs => ⟨cell_far neli hs.1, cell_far neli hs.2.1, cell_far neli hs.2.2.1, cell_far neli hs.2.2.2.1, cell_far neli hs.2.2.2.2.1, cell_far neli hs.2.2.2.2.2⟩
  have nehi : w.heap.size + 1 + 1 ≠ w.heap.size := by omega
  have HSh : Hid (∀ (w' : World) (i : Nat) (u : Value), (w'.cell? ⟨w.heap.size, 0, none⟩ = some (.bool s1) ∧ w'.cell? ⟨w.heap.size, 1, none⟩ = some (.slice A1 L1 c1) ∧ w'.cell? ⟨w.heap.size, 2, none⟩ = some (.slice B1 M1 d1) ∧ w'.cell? ⟨w.heap.size, 3, none⟩ = some (.bool s2) ∧ w'.cell? ⟨w.heap.size, 4, none⟩ = some (.slice A2 L2 c2) ∧ w'.cell? ⟨w.heap.size, 5, none⟩ = some (.slice B2 M2 d2)) → ((fun (w' : World) => (w'.cell? ⟨w.heap.size, 0, none⟩ = some (.bool s1) ∧ w'.cell? ⟨w.heap.size, 1, none⟩ = some (.slice A1 L1 c1) ∧ w'.cell? ⟨w.heap.size, 2, none⟩ = some (.slice B1 M1 d1) ∧ w'.cell? ⟨w.heap.size, 3, none⟩ = some (.bool s2) ∧ w'.cell? ⟨w.heap.size, 4, none⟩ = some (.slice A2 L2 c2) ∧ w'.cell? ⟨w.heap.size, 5, none⟩ = some (.slice B2 M2 d2))) (w'.setCell ⟨w.heap.size + 1 + 1, i, none⟩ u))) := fun w' i u hs => ⟨cell_far nehi hs.1, cell_far nehi hs.2.1, cell_far nehi hs.2.2.1, cell_far nehi hs.2.2.2.1, cell_far nehi hs.2.2.2.2.1, cell_far nehi hs.2.2.2.2.2⟩
  go_region_held3 (fun w' => w'.cell? ⟨w.heap.size, 0, none⟩ = some (.bool s1) ∧ w'.cell? ⟨w.heap.size, 1, none⟩ = some (.slice A1 L1 c1) ∧ w'.cell? ⟨w.heap.size, 2, none⟩ = some (.slice B1 M1 d1) ∧ w'.cell? ⟨w.heap.size, 3, none⟩ = some (.bool s2) ∧ w'.cell? ⟨w.heap.size, 4, none⟩ = some (.slice A2 L2 c2) ∧ w'.cell? ⟨w.heap.size, 5, none⟩ = some (.slice B2 M2 d2))
    (((repeat (first | (with_reducible refine HSl.out _ _ _ ?_) | (with_reducible refine HSh.out _ _ _ ?_))); (with_reducible refine HK.out _ ?_; (with_reducible repeat' first | exact Ext.refl _ | assumption | apply Ext.alloc_r | apply Ext.drew_r | apply Ext.drewN_r | refine Ext.trans ?_ ‹Ext _ _›))))
    (first
      | (go_at_call_of 62 (#[Value.agg #[Value.bool s2, Value.slice A2 L2 c2, Value.slice B2 M2 d2]]); have hgd := u; clear hgd; refine (rnormal_r (h2.ext (by with_reducible repeat' first | exact Ext.refl _ | assumption | apply Ext.alloc_r | apply Ext.drew_r | apply Ext.drewN_r | refine Ext.trans ?_ ‹Ext _ _›)) (by omega)).mono ?_; rintro e w3 ⟨sv, Av, cv, Lv, Bv, dv, Mv, rfl, v, x3⟩; have yl : Ext w1 w3 := (by with_reducible repeat' first | exact Ext.refl _ | assumption | apply Ext.alloc_r | apply Ext.drew_r | apply Ext.drewN_r | refine Ext.trans ?_ ‹Ext _ _›); have cl_0 := (bxl.ext yl).c 0 (.bool false) rfl; have gl_0 := (bxl.ext yl).f 0; have cl_1 := (bxl.ext yl).c 1 (.slice none 0 0) rfl; have gl_1 := (bxl.ext yl).f 1; have cl_2 := (bxl.ext yl).c 2 (.slice none 0 0) rfl; have gl_2 := (bxl.ext yl).f 2; have ch_0 := (bxh.ext yl).c 0 (.bool false) rfl; have gh_0 := (bxh.ext yl).f 0; have ch_1 := (bxh.ext yl).c 1 (.slice none 0 0) rfl; have gh_1 := (bxh.ext yl).f 1; have ch_2 := (bxh.ext yl).c 2 (.slice none 0 0) rfl; have gh_2 := (bxh.ext yl).f 2)
      | (go_at_call_of 62 (#[Value.agg #[Value.bool s1, Value.slice A1 L1 c1, Value.slice B1 M1 d1]]); refine (rnormal_r (h1.ext (by with_reducible repeat' first | exact Ext.refl _ | assumption | apply Ext.alloc_r | apply Ext.drew_r | apply Ext.drewN_r | refine Ext.trans ?_ ‹Ext _ _›)) (by omega)).mono ?_; rintro e w2 ⟨su, Au, cu, Lu, Bu, du, Mu, rfl, u, x2⟩))
  clear ki_0 ki_1 ki_2 ki_3 ki_4 ki_5 kl_0 fl_0 kl_1 fl_1 kl_2 fl_2 kh_0 fh_0 kh_1 fh_1 kh_2 fh_2
  clear HK HSl neli HSh nehi
  clear cl_0 gl_0
  clear cl_1 gl_1
  clear cl_2 gl_2
  clear ch_0 gh_0
  clear ch_1 gh_1
  clear ch_2 gh_2
  clear yl
  have szw2 : w1.heap.size ≤ w2.heap.size := (show Ext w1 w2 from (by with_reducible repeat' first | exact Ext.refl _ | assumption | apply Ext.alloc_r | apply Ext.drew_r | apply Ext.drewN_r | refine Ext.trans ?_ ‹Ext _ _›)).size
  have xhw3 : Ext w1 w3 := (by with_reducible repeat' first | exact Ext.refl _ | assumption | apply Ext.alloc_r | apply Ext.drew_r | apply Ext.drewN_r | refine Ext.trans ?_ ‹Ext _ _›)
  have szw3 : w1.heap.size ≤ w3.heap.size := xhw3.size
  replace bxi := bxi.ext xhw3
  replace bxl := bxl.ext xhw3
  replace bxh := bxh.ext xhw3
  have u2 := (u.ext (show Ext _ w3 from (by with_reducible repeat' first | exact Ext.refl _ | assumption | apply Ext.alloc_r | apply Ext.drew_r | apply Ext.drewN_r | refine Ext.trans ?_ ‹Ext _ _›))).mono (show w.heap.size ≤ _ by first | omega | (simp only [World.size_drew]; omega))
  have v2 := v.mono (show w.heap.size ≤ _ by first | omega | (simp only [World.size_drew]; omega))
  clear u v
  obtain ⟨w4, hw⟩ : ∃ z : World, z = ((((((w3.setCell ⟨w.heap.size + 1, 0, none⟩ (.bool su)).setCell ⟨w.heap.size + 1, 1, none⟩ (.slice Au Lu cu)).setCell ⟨w.heap.size + 1, 2, none⟩ (.slice Bu Mu du)).setCell ⟨w.heap.size + 1 + 1, 0, none⟩ (.bool sv)).setCell ⟨w.heap.size + 1 + 1, 1, none⟩ (.slice Av Lv cv)).setCell ⟨w.heap.size + 1 + 1, 2, none⟩ (.slice Bv Mv dv)) := ⟨_, rfl⟩
  rw [← hw]
  have kw4 : Kept w3 w4 := by rw [hw]; exact (Kept.set_ (Kept.set_ (Kept.set_ (Kept.set_ (Kept.set_ (Kept.set_ (Kept.refl _) bxl.isBox plain_rat) (IsBox.set_ bxl.isBox) plain_rat) (IsBox.set_ (IsBox.set_ bxl.isBox)) plain_rat) (IsBox.set_ (IsBox.set_ (IsBox.set_ bxh.isBox))) plain_rat) (IsBox.set_ (IsBox.set_ (IsBox.set_ (IsBox.set_ bxh.isBox)))) plain_rat) (IsBox.set_ (IsBox.set_ (IsBox.set_ (IsBox.set_ (IsBox.set_ bxh.isBox))))) plain_rat)
  have nbi : BK w4 (w.heap.size) 29 #[.bool s1, .slice A1 L1 c1, .slice B1 M1 d1, .bool s2, .slice A2 L2 c2, .slice B2 M2 d2] := by rw [hw]; exact (BK.far (BK.far (BK.far (BK.far (BK.far (BK.far bxi (show w.heap.size ≠ w.heap.size + 1 by omega) 0 _) (show w.heap.size ≠ w.heap.size + 1 by omega) 1 _) (show w.heap.size ≠ w.heap.size + 1 by omega) 2 _) (show w.heap.size ≠ w.heap.size + 1 + 1 by omega) 0 _) (show w.heap.size ≠ w.heap.size + 1 + 1 by omega) 1 _) (show w.heap.size ≠ w.heap.size + 1 + 1 by omega) 2 _)
  have nbl : BK w4 (w.heap.size + 1) 27 #[.bool su, .slice Au Lu cu, .slice Bu Mu du] := by rw [hw]; exact (BK.far (BK.far (BK.far (BK.set (i := 2) (u := .slice Bu Mu du) (vs' := #[.bool su, .slice Au Lu cu, .slice Bu Mu du]) (BK.set (i := 1) (u := .slice Au Lu cu) (vs' := #[.bool su, .slice Au Lu cu, .slice none 0 0]) (BK.set (i := 0) (u := .bool su) (vs' := #[.bool su, .slice none 0 0, .slice none 0 0]) bxl rfl) rfl) rfl) (show w.heap.size + 1 ≠ w.heap.size + 1 + 1 by omega) 0 _) (show w.heap.size + 1 ≠ w.heap.size + 1 + 1 by omega) 1 _) (show w.heap.size + 1 ≠ w.heap.size + 1 + 1 by omega) 2 _)
  have nbh : BK w4 (w.heap.size + 1 + 1) 27 #[.bool sv, .slice Av Lv cv, .slice Bv Mv dv] := by rw [hw]; exact (BK.set (i := 2) (u := .slice Bv Mv dv) (vs' := #[.bool sv, .slice Av Lv cv, .slice Bv Mv dv]) (BK.set (i := 1) (u := .slice Av Lv cv) (vs' := #[.bool sv, .slice Av Lv cv, .slice none 0 0]) (BK.set (i := 0) (u := .bool sv) (vs' := #[.bool sv, .slice none 0 0, .slice none 0 0]) (BK.far (BK.far (BK.far bxh (show w.heap.size + 1 + 1 ≠ w.heap.size + 1 by omega) 0 _) (show w.heap.size + 1 + 1 ≠ w.heap.size + 1 by omega) 1 _) (show w.heap.size + 1 + 1 ≠ w.heap.size + 1 by omega) 2 _) rfl) rfl) rfl)
  have x4 : Ext w w4 := by rw [hw]; have hxp : Ext w w3 := (by with_reducible repeat' first | exact Ext.refl _ | assumption | apply Ext.alloc_r | apply Ext.drew_r | apply Ext.drewN_r | refine Ext.trans ?_ ‹Ext _ _›); exact (Ext.set_ (Ext.set_ (Ext.set_ (Ext.set_ (Ext.set_ (Ext.set_ hxp (show _ ≤ w.heap.size + 1 by omega)) (show _ ≤ w.heap.size + 1 by omega)) (show _ ≤ w.heap.size + 1 by omega)) (show _ ≤ w.heap.size + 1 + 1 by omega)) (show _ ≤ w.heap.size + 1 + 1 by omega)) (show _ ≤ w.heap.size + 1 + 1 by omega))
  clear bxi
  clear bxl
  clear bxh
  have bxi := nbi
  clear nbi
  have bxl := nbl
  clear nbl
  have bxh := nbh
  clear nbh
  have szw4 : w4.heap.size = w3.heap.size := by rw [hw]; simp
  replace u2 := (u2.ext (by with_reducible repeat' first | exact Ext.refl _ | assumption | apply Ext.alloc_r | apply Ext.drew_r | apply Ext.drewN_r | refine Ext.trans ?_ ‹Ext _ _›)).kept kw4
  replace v2 := (v2.ext (by with_reducible repeat' first | exact Ext.refl _ | assumption | apply Ext.alloc_r | apply Ext.drew_r | apply Ext.drewN_r | refine Ext.trans ?_ ‹Ext _ _›)).kept kw4
  clear hw kw4
  have HU := Lib.hid u2
  have HV := Lib.hid v2
  clear u2 v2
  have ki_0 := bxi.c 0 (.bool s1) rfl
  have ki_1 := bxi.c 1 (.slice A1 L1 c1) rfl
  have ki_2 := bxi.c 2 (.slice B1 M1 d1) rfl
  have ki_3 := bxi.c 3 (.bool s2) rfl
  have ki_4 := bxi.c 4 (.slice A2 L2 c2) rfl
  have ki_5 := bxi.c 5 (.slice B2 M2 d2) rfl
  have kl_0 := bxl.c 0 (.bool su) rfl
  have kl_1 := bxl.c 1 (.slice Au Lu cu) rfl
  have kl_2 := bxl.c 2 (.slice Bu Mu du) rfl
  have kh_0 := bxh.c 0 (.bool sv) rfl
  have kh_1 := bxh.c 1 (.slice Av Lv cv) rfl
  have kh_2 := bxh.c 2 (.slice Bv Mv dv) rfl
  go_wp2_with fail
  clear ki_0 ki_1 ki_2 ki_3 ki_4 ki_5 kl_0 kl_1 kl_2 kh_0 kh_1 kh_2
  have kl_0 := bxl.c 0 (.bool su) rfl
  have kl_1 := bxl.c 1 (.slice Au Lu cu) rfl
  have kl_2 := bxl.c 2 (.slice Bu Mu du) rfl
  have kh_0 := bxh.c 0 (.bool sv) rfl
  have kh_1 := bxh.c 1 (.slice Av Lv cv) rfl
  have kh_2 := bxh.c 2 (.slice Bv Mv dv) rfl
  refine bodyPost_ret (v := .tuple #[Value.agg #[Value.bool su, Value.slice Au Lu cu, Value.slice Bu Mu du], Value.agg #[Value.bool sv, Value.slice Av Lv cv, Value.slice Bv Mv dv]]) (by simp [results, Tryz.results55, go_sem, kl_0, kl_1, kl_2, kh_0, kh_1, kh_2]) rfl ?_
  exact ⟨_, _, _, _, _, _, _, _, _, _, _, _, _, _, rfl, by rw [HLO.out.1]; exact HU.out, by rw [HLO.out.2]; exact HV.out, x4⟩
set_option maxHeartbeats 4000000 in
set_option maxRecDepth 100000 in
theorem bounds_r {w : World} {N : Nat} {s1 s2 : Bool} {A1 B1 A2 B2 : Option Addr} {c1 d1 L1 M1 c2 d2 L2 M2 : Nat} {q1 q2 : Rat} (h1 : RV w s1 A1 c1 L1 B1 d1 M1 N q1) (h2 : RV w s2 A2 c2 L2 B2 d2 M2 N q2) (hN : N < 48) :
    Calls Tryz.prog 55 #[Value.agg #[Value.bool s1, Value.slice A1 L1 c1, Value.slice B1 M1 d1, Value.bool s2, Value.slice A2 L2 c2, Value.slice B2 M2 d2]] w (RetBd w N (minQ q1 q2) (maxQ q1 q2)) := by
  rcases Rat.le_total (a := q1) (b := q2) with h | h
  · exact bounds_le h1 h2 hN h
  · rcases Rat.le_iff_lt_or_eq.1 h with h | h
    · exact bounds_gt h1 h2 hN h
    · exact bounds_le h1 h2 hN (by rw [h]; exact Rat.le_refl)
set_option maxHeartbeats 4000000 in
set_option maxRecDepth 100000 in
theorem lesser_yes {w : World} {N g : Nat} {s1 s2 : Bool} {A1 B1 A2 B2 : Option Addr} {c1 d1 L1 M1 c2 d2 L2 M2 : Nat} {q1 q2 : Rat} (h1 : RO w g s1 A1 c1 L1 B1 d1 M1 N q1) (h2 : RO w g s2 A2 c2 L2 B2 d2 M2 N q2) (hN : N < 48) (hq : q1 ≤ q2) :
    Calls Tryz.prog 60 #[Value.agg #[Value.bool s1, Value.slice A1 L1 c1, Value.slice B1 M1 d1], Value.agg #[Value.bool s2, Value.slice A2 L2 c2, Value.slice B2 M2 d2]] w (RetG w g N (minQ q1 q2)) := by
  obtain ⟨K, hK⟩ : ∃ K : Int, K = cmpQ q1 q2 := ⟨_, rfl⟩
  have hk : (K ≤ 0) := by rw [hK]; exact (cmpQ_le _ _).2 hq
  have HK := Lib.hid hK.symm
  have HLO : Hid (minQ q1 q2 = q1) := by show _ = _; unfold minQ; rw [if_pos hq]
  clear hK hq
  go_enter Tryz.func60, Tryz.ntmps60
  go_wp2_with fail
  obtain ⟨w0, hw0⟩ : ∃ z : World, z = (((w.alloc (.cells #[.bool s1, .slice A1 L1 c1, .slice B1 M1 d1] 27)).alloc (.cells #[.bool s2, .slice A2 L2 c2, .slice B2 M2 d2] 27)).alloc (.cells #[.bool false, .slice none 0 0, .slice none 0 0] 27)) := ⟨_, rfl⟩
  rw [← hw0]
  have bxa : BK w0 (w.heap.size) 27 #[.bool s1, .slice A1 L1 c1, .slice B1 M1 d1] := by rw [hw0]; have h5 := (BK.ext (BK.ext (BK.new w #[.bool s1, .slice A1 L1 c1, .slice B1 M1 d1] 27) (Ext.alloc _ (.cells #[.bool s2, .slice A2 L2 c2, .slice B2 M2 d2] 27))) (Ext.alloc _ (.cells #[.bool false, .slice none 0 0, .slice none 0 0] 27))); simpa only [World.size_alloc] using h5
  have bxb : BK w0 (w.heap.size + 1) 27 #[.bool s2, .slice A2 L2 c2, .slice B2 M2 d2] := by rw [hw0]; have h5 := (BK.ext (BK.new (w.alloc (.cells #[.bool s1, .slice A1 L1 c1, .slice B1 M1 d1] 27)) #[.bool s2, .slice A2 L2 c2, .slice B2 M2 d2] 27) (Ext.alloc _ (.cells #[.bool false, .slice none 0 0, .slice none 0 0] 27))); simpa only [World.size_alloc] using h5
  have bxr : BK w0 (w.heap.size + 1 + 1) 27 #[.bool false, .slice none 0 0, .slice none 0 0] := by rw [hw0]; have h5 := (BK.new ((w.alloc (.cells #[.bool s1, .slice A1 L1 c1, .slice B1 M1 d1] 27)).alloc (.cells #[.bool s2, .slice A2 L2 c2, .slice B2 M2 d2] 27)) #[.bool false, .slice none 0 0, .slice none 0 0] 27); simpa only [World.size_alloc] using h5
  have hszw0 : w0.heap.size = w.heap.size + 1 + 1 + 1 := by rw [hw0]; simp only [World.size_alloc]
  have xw0 : Ext w w0 := by rw [hw0]; exact (((Ext.alloc _ _).trans (Ext.alloc _ _)).trans (Ext.alloc _ _))
  clear hw0
  refine (rcmp_k (h1.rv.ext (by with_reducible repeat' first | exact Ext.refl _ | assumption | apply Ext.alloc_r | apply Ext.drew_r | apply Ext.drewN_r | refine Ext.trans ?_ ‹Ext _ _›)) (h2.rv.ext (by with_reducible repeat' first | exact Ext.refl _ | assumption | apply Ext.alloc_r | apply Ext.drew_r | apply Ext.drewN_r | refine Ext.trans ?_ ‹Ext _ _›)) hN HK.out).mono ?_
  rintro e w1 ⟨rfl, x1⟩
  have szw1 : w0.heap.size ≤ w1.heap.size := x1.size
  replace bxa := bxa.ext x1
  replace bxb := bxb.ext x1
  replace bxr := bxr.ext x1
  have HO := Lib.hid (h1.ext (show Ext w w1 from (by with_reducible repeat' first | exact Ext.refl _ | assumption | apply Ext.alloc_r | apply Ext.drew_r | apply Ext.drewN_r | refine Ext.trans ?_ ‹Ext _ _›)))
  clear h1 h2
  have ka_0 := bxa.c 0 (.bool s1) rfl
  have ka_1 := bxa.c 1 (.slice A1 L1 c1) rfl
  have ka_2 := bxa.c 2 (.slice B1 M1 d1) rfl
  have kb_0 := bxb.c 0 (.bool s2) rfl
  have kb_1 := bxb.c 1 (.slice A2 L2 c2) rfl
  have kb_2 := bxb.c 2 (.slice B2 M2 d2) rfl
  have kr_0 := bxr.c 0 (.bool false) rfl
  have fr_0 := bxr.f 0
  have kr_1 := bxr.c 1 (.slice none 0 0) rfl
  have fr_1 := bxr.f 1
  have kr_2 := bxr.c 2 (.slice none 0 0) rfl
  have fr_2 := bxr.f 2
  go_wp2_with fail
  clear ka_0 ka_1 ka_2 kb_0 kb_1 kb_2 kr_0 fr_0 kr_1 fr_1 kr_2 fr_2
  have HR2 := HO.out
  obtain ⟨w2, hw⟩ : ∃ z : World, z = (((w1.setCell ⟨w.heap.size + 1 + 1, 0, none⟩ (.bool s1)).setCell ⟨w.heap.size + 1 + 1, 1, none⟩ (.slice A1 L1 c1)).setCell ⟨w.heap.size + 1 + 1, 2, none⟩ (.slice B1 M1 d1)) := ⟨_, rfl⟩
  rw [← hw]
  have kw2 : Kept w1 w2 := by rw [hw]; exact (Kept.set_ (Kept.set_ (Kept.set_ (Kept.refl _) bxr.isBox plain_rat) (IsBox.set_ bxr.isBox) plain_rat) (IsBox.set_ (IsBox.set_ bxr.isBox)) plain_rat)
  have nba : BK w2 (w.heap.size) 27 #[.bool s1, .slice A1 L1 c1, .slice B1 M1 d1] := by rw [hw]; exact (BK.far (BK.far (BK.far bxa (show w.heap.size ≠ w.heap.size + 1 + 1 by omega) 0 _) (show w.heap.size ≠ w.heap.size + 1 + 1 by omega) 1 _) (show w.heap.size ≠ w.heap.size + 1 + 1 by omega) 2 _)
  have nbb : BK w2 (w.heap.size + 1) 27 #[.bool s2, .slice A2 L2 c2, .slice B2 M2 d2] := by rw [hw]; exact (BK.far (BK.far (BK.far bxb (show w.heap.size + 1 ≠ w.heap.size + 1 + 1 by omega) 0 _) (show w.heap.size + 1 ≠ w.heap.size + 1 + 1 by omega) 1 _) (show w.heap.size + 1 ≠ w.heap.size + 1 + 1 by omega) 2 _)
  have nbr : BK w2 (w.heap.size + 1 + 1) 27 #[.bool s1, .slice A1 L1 c1, .slice B1 M1 d1] := by rw [hw]; exact (BK.set (i := 2) (u := .slice B1 M1 d1) (vs' := #[.bool s1, .slice A1 L1 c1, .slice B1 M1 d1]) (BK.set (i := 1) (u := .slice A1 L1 c1) (vs' := #[.bool s1, .slice A1 L1 c1, .slice none 0 0]) (BK.set (i := 0) (u := .bool s1) (vs' := #[.bool s1, .slice none 0 0, .slice none 0 0]) bxr rfl) rfl) rfl)
  have x2 : Ext w w2 := by rw [hw]; have hxp : Ext w w1 := (by with_reducible repeat' first | exact Ext.refl _ | assumption | apply Ext.alloc_r | apply Ext.drew_r | apply Ext.drewN_r | refine Ext.trans ?_ ‹Ext _ _›); exact (Ext.set_ (Ext.set_ (Ext.set_ hxp (show _ ≤ w.heap.size + 1 + 1 by omega)) (show _ ≤ w.heap.size + 1 + 1 by omega)) (show _ ≤ w.heap.size + 1 + 1 by omega))
  clear bxa
  clear bxb
  clear bxr
  have bxa := nba
  clear nba
  have bxb := nbb
  clear nbb
  have bxr := nbr
  clear nbr
  have szw2 : w2.heap.size = w1.heap.size := by rw [hw]; simp
  replace HR2 := (HR2.ext (by with_reducible repeat' first | exact Ext.refl _ | assumption | apply Ext.alloc_r | apply Ext.drew_r | apply Ext.drewN_r | refine Ext.trans ?_ ‹Ext _ _›)).kept kw2
  clear hw kw2
  clear HO
  have HO := Lib.hid HR2
  clear HR2
  have kr_0 := bxr.c 0 (.bool s1) rfl
  have kr_1 := bxr.c 1 (.slice A1 L1 c1) rfl
  have kr_2 := bxr.c 2 (.slice B1 M1 d1) rfl
  refine bodyPost_ret (v := .agg #[Value.bool s1, Value.slice A1 L1 c1, Value.slice B1 M1 d1]) (by simp [results, Tryz.results60, go_sem, kr_0, kr_1, kr_2]) rfl ?_
  exact ⟨_, _, _, _, _, _, _, rfl, by rw [HLO.out]; exact HO.out, x2⟩
set_option maxHeartbeats 4000000 in
set_option maxRecDepth 100000 in
theorem lesser_no {w : World} {N g : Nat} {s1 s2 : Bool} {A1 B1 A2 B2 : Option Addr} {c1 d1 L1 M1 c2 d2 L2 M2 : Nat} {q1 q2 : Rat} (h1 : RO w g s1 A1 c1 L1 B1 d1 M1 N q1) (h2 : RO w g s2 A2 c2 L2 B2 d2 M2 N q2) (hN : N < 48) (hq : ¬ q1 ≤ q2) :
    Calls Tryz.prog 60 #[Value.agg #[Value.bool s1, Value.slice A1 L1 c1, Value.slice B1 M1 d1], Value.agg #[Value.bool s2, Value.slice A2 L2 c2, Value.slice B2 M2 d2]] w (RetG w g N (minQ q1 q2)) := by
  obtain ⟨K, hK⟩ : ∃ K : Int, K = cmpQ q1 q2 := ⟨_, rfl⟩
  have hk : ¬ (K ≤ 0) := by rw [hK]; exact fun h => hq ((cmpQ_le _ _).1 h)
  have HK := Lib.hid hK.symm
  have HLO : Hid (minQ q1 q2 = q2) := by show _ = _; unfold minQ; rw [if_neg hq]
  clear hK hq
  go_enter Tryz.func60, Tryz.ntmps60
  go_wp2_with fail
  obtain ⟨w0, hw0⟩ : ∃ z : World, z = (((w.alloc (.cells #[.bool s1, .slice A1 L1 c1, .slice B1 M1 d1] 27)).alloc (.cells #[.bool s2, .slice A2 L2 c2, .slice B2 M2 d2] 27)).alloc (.cells #[.bool false, .slice none 0 0, .slice none 0 0] 27)) := ⟨_, rfl⟩
  rw [← hw0]
  have bxa : BK w0 (w.heap.size) 27 #[.bool s1, .slice A1 L1 c1, .slice B1 M1 d1] := by rw [hw0]; have h5 := (BK.ext (BK.ext (BK.new w #[.bool s1, .slice A1 L1 c1, .slice B1 M1 d1] 27) (Ext.alloc _ (.cells #[.bool s2, .slice A2 L2 c2, .slice B2 M2 d2] 27))) (Ext.alloc _ (.cells #[.bool false, .slice none 0 0, .slice none 0 0] 27))); simpa only [World.size_alloc] using h5
  have bxb : BK w0 (w.heap.size + 1) 27 #[.bool s2, .slice A2 L2 c2, .slice B2 M2 d2] := by rw [hw0]; have h5 := (BK.ext (BK.new (w.alloc (.cells #[.bool s1, .slice A1 L1 c1, .slice B1 M1 d1] 27)) #[.bool s2, .slice A2 L2 c2, .slice B2 M2 d2] 27) (Ext.alloc _ (.cells #[.bool false, .slice none 0 0, .slice none 0 0] 27))); simpa only [World.size_alloc] using h5
  have bxr : BK w0 (w.heap.size + 1 + 1) 27 #[.bool false, .slice none 0 0, .slice none 0 0] := by rw [hw0]; have h5 := (BK.new ((w.alloc (.cells #[.bool s1, .slice A1 L1 c1, .slice B1 M1 d1] 27)).alloc (.cells #[.bool s2, .slice A2 L2 c2, .slice B2 M2 d2] 27)) #[.bool false, .slice none 0 0, .slice none 0 0] 27); simpa only [World.size_alloc] using h5
  have hszw0 : w0.heap.size = w.heap.size + 1 + 1 + 1 := by rw [hw0]; simp only [World.size_alloc]
  have xw0 : Ext w w0 := by rw [hw0]; exact (((Ext.alloc _ _).trans (Ext.alloc _ _)).trans (Ext.alloc _ _))
  clear hw0
  refine (rcmp_k (h1.rv.ext (by with_reducible repeat' first | exact Ext.refl _ | assumption | apply Ext.alloc_r | apply Ext.drew_r | apply Ext.drewN_r | refine Ext.trans ?_ ‹Ext _ _›)) (h2.rv.ext (by with_reducible repeat' first | exact Ext.refl _ | assumption | apply Ext.alloc_r | apply Ext.drew_r | apply Ext.drewN_r | refine Ext.trans ?_ ‹Ext _ _›)) hN HK.out).mono ?_
  rintro e w1 ⟨rfl, x1⟩
  have szw1 : w0.heap.size ≤ w1.heap.size := x1.size
  replace bxa := bxa.ext x1
  replace bxb := bxb.ext x1
  replace bxr := bxr.ext x1
  have HO := Lib.hid (h2.ext (show Ext w w1 from (by with_reducible repeat' first | exact Ext.refl _ | assumption | apply Ext.alloc_r | apply Ext.drew_r | apply Ext.drewN_r | refine Ext.trans ?_ ‹Ext _ _›)))
  clear h1 h2
  have ka_0 := bxa.c 0 (.bool s1) rfl
  have ka_1 := bxa.c 1 (.slice A1 L1 c1) rfl
  have ka_2 := bxa.c 2 (.slice B1 M1 d1) rfl
  have kb_0 := bxb.c 0 (.bool s2) rfl
  have kb_1 := bxb.c 1 (.slice A2 L2 c2) rfl
  have kb_2 := bxb.c 2 (.slice B2 M2 d2) rfl
  have kr_0 := bxr.c 0 (.bool false) rfl
  have fr_0 := bxr.f 0
  have kr_1 := bxr.c 1 (.slice none 0 0) rfl
  have fr_1 := bxr.f 1
  have kr_2 := bxr.c 2 (.slice none 0 0) rfl
  have fr_2 := bxr.f 2
  go_wp2_with fail
  clear ka_0 ka_1 ka_2 kb_0 kb_1 kb_2 kr_0 fr_0 kr_1 fr_1 kr_2 fr_2
  have HR2 := HO.out
  obtain ⟨w2, hw⟩ : ∃ z : World, z = (((w1.setCell ⟨w.heap.size + 1 + 1, 0, none⟩ (.bool s2)).setCell ⟨w.heap.size + 1 + 1, 1, none⟩ (.slice A2 L2 c2)).setCell ⟨w.heap.size + 1 + 1, 2, none⟩ (.slice B2 M2 d2)) := ⟨_, rfl⟩
  rw [← hw]
  have kw2 : Kept w1 w2 := by rw [hw]; exact (Kept.set_ (Kept.set_ (Kept.set_ (Kept.refl _) bxr.isBox plain_rat) (IsBox.set_ bxr.isBox) plain_rat) (IsBox.set_ (IsBox.set_ bxr.isBox)) plain_rat)
  have nba : BK w2 (w.heap.size) 27 #[.bool s1, .slice A1 L1 c1, .slice B1 M1 d1] := by rw [hw]; exact (BK.far (BK.far (BK.far bxa (show w.heap.size ≠ w.heap.size + 1 + 1 by omega) 0 _) (show w.heap.size ≠ w.heap.size + 1 + 1 by omega) 1 _) (show w.heap.size ≠ w.heap.size + 1 + 1 by omega) 2 _)
  have nbb : BK w2 (w.heap.size + 1) 27 #[.bool s2, .slice A2 L2 c2, .slice B2 M2 d2] := by rw [hw]; exact (BK.far (BK.far (BK.far bxb (show w.heap.size + 1 ≠ w.heap.size + 1 + 1 by omega) 0 _) (show w.heap.size + 1 ≠ w.heap.size + 1 + 1 by omega) 1 _) (show w.heap.size + 1 ≠ w.heap.size + 1 + 1 by omega) 2 _)
  have nbr : BK w2 (w.heap.size + 1 + 1) 27 #[.bool s2, .slice A2 L2 c2, .slice B2 M2 d2] := by rw [hw]; exact (BK.set (i := 2) (u := .slice B2 M2 d2) (vs' := #[.bool s2, .slice A2 L2 c2, .slice B2 M2 d2]) (BK.set (i := 1) (u := .slice A2 L2 c2) (vs' := #[.bool s2, .slice A2 L2 c2, .slice none 0 0]) (BK.set (i := 0) (u := .bool s2) (vs' := #[.bool s2, .slice none 0 0, .slice none 0 0]) bxr rfl) rfl) rfl)
  have x2 : Ext w w2 := by rw [hw]; have hxp : Ext w w1 := (by with_reducible repeat' first | exact Ext.refl _ | assumption | apply Ext.alloc_r | apply Ext.drew_r | apply Ext.drewN_r | refine Ext.trans ?_ ‹Ext _ _›); exact (Ext.set_ (Ext.set_ (Ext.set_ hxp (show _ ≤ w.heap.size + 1 + 1 by omega)) (show _ ≤ w.heap.size + 1 + 1 by omega)) (show _ ≤ w.heap.size + 1 + 1 by omega))
  clear bxa
  clear bxb
  clear bxr
  have bxa := nba
  clear nba
  have bxb := nbb
  clear nbb
  have bxr := nbr
  clear nbr
  have szw2 : w2.heap.size = w1.heap.size := by rw [hw]; simp
  replace HR2 := (HR2.ext (by with_reducible repeat' first | exact Ext.refl _ | assumption | apply Ext.alloc_r | apply Ext.drew_r | apply Ext.drewN_r | refine Ext.trans ?_ ‹Ext _ _›)).kept kw2
  clear hw kw2
  clear HO
  have HO := Lib.hid HR2
  clear HR2
  have kr_0 := bxr.c 0 (.bool s2) rfl
  have kr_1 := bxr.c 1 (.slice A2 L2 c2) rfl
  have kr_2 := bxr.c 2 (.slice B2 M2 d2) rfl
  refine bodyPost_ret (v := .agg #[Value.bool s2, Value.slice A2 L2 c2, Value.slice B2 M2 d2]) (by simp [results, Tryz.results60, go_sem, kr_0, kr_1, kr_2]) rfl ?_
  exact ⟨_, _, _, _, _, _, _, rfl, by rw [HLO.out]; exact HO.out, x2⟩
theorem lesser_r {w : World} {N g : Nat} {s1 s2 : Bool} {A1 B1 A2 B2 : Option Addr} {c1 d1 L1 M1 c2 d2 L2 M2 : Nat} {q1 q2 : Rat} (h1 : RO w g s1 A1 c1 L1 B1 d1 M1 N q1) (h2 : RO w g s2 A2 c2 L2 B2 d2 M2 N q2) (hN : N < 48) :
    Calls Tryz.prog 60 #[Value.agg #[Value.bool s1, Value.slice A1 L1 c1, Value.slice B1 M1 d1], Value.agg #[Value.bool s2, Value.slice A2 L2 c2, Value.slice B2 M2 d2]] w (RetG w g N (minQ q1 q2)) := by
  by_cases h : q1 ≤ q2
  · exact lesser_yes h1 h2 hN h
  · exact lesser_no h1 h2 hN h
set_option maxHeartbeats 4000000 in
set_option maxRecDepth 100000 in
theorem greater_yes {w : World} {N g : Nat} {s1 s2 : Bool} {A1 B1 A2 B2 : Option Addr} {c1 d1 L1 M1 c2 d2 L2 M2 : Nat} {q1 q2 : Rat} (h1 : RO w g s1 A1 c1 L1 B1 d1 M1 N q1) (h2 : RO w g s2 A2 c2 L2 B2 d2 M2 N q2) (hN : N < 48) (hq : q2 ≤ q1) :
    Calls Tryz.prog 61 #[Value.agg #[Value.bool s1, Value.slice A1 L1 c1, Value.slice B1 M1 d1], Value.agg #[Value.bool s2, Value.slice A2 L2 c2, Value.slice B2 M2 d2]] w (RetG w g N (maxQ q1 q2)) := by
  obtain ⟨K, hK⟩ : ∃ K : Int, K = cmpQ q1 q2 := ⟨_, rfl⟩
  have hk : (0 ≤ K) := by rw [hK]; exact (cmpQ_ge _ _).2 hq
  have HK := Lib.hid hK.symm
  have HLO : Hid (maxQ q1 q2 = q1) := by show _ = _; unfold maxQ; rw [if_pos hq]
  clear hK hq
  go_enter Tryz.func61, Tryz.ntmps61
  go_wp2_with fail
  obtain ⟨w0, hw0⟩ : ∃ z : World, z = (((w.alloc (.cells #[.bool s1, .slice A1 L1 c1, .slice B1 M1 d1] 27)).alloc (.cells #[.bool s2, .slice A2 L2 c2, .slice B2 M2 d2] 27)).alloc (.cells #[.bool false, .slice none 0 0, .slice none 0 0] 27)) := ⟨_, rfl⟩
  rw [← hw0]
  have bxa : BK w0 (w.heap.size) 27 #[.bool s1, .slice A1 L1 c1, .slice B1 M1 d1] := by rw [hw0]; have h5 := (BK.ext (BK.ext (BK.new w #[.bool s1, .slice A1 L1 c1, .slice B1 M1 d1] 27) (Ext.alloc _ (.cells #[.bool s2, .slice A2 L2 c2, .slice B2 M2 d2] 27))) (Ext.alloc _ (.cells #[.bool false, .slice none 0 0, .slice none 0 0] 27))); simpa only [World.size_alloc] using h5
  have bxb : BK w0 (w.heap.size + 1) 27 #[.bool s2, .slice A2 L2 c2, .slice B2 M2 d2] := by rw [hw0]; have h5 := (BK.ext (BK.new (w.alloc (.cells #[.bool s1, .slice A1 L1 c1, .slice B1 M1 d1] 27)) #[.bool s2, .slice A2 L2 c2, .slice B2 M2 d2] 27) (Ext.alloc _ (.cells #[.bool false, .slice none 0 0, .slice none 0 0] 27))); simpa only [World.size_alloc] using h5
  have bxr : BK w0 (w.heap.size + 1 + 1) 27 #[.bool false, .slice none 0 0, .slice none 0 0] := by rw [hw0]; have h5 := (BK.new ((w.alloc (.cells #[.bool s1, .slice A1 L1 c1, .slice B1 M1 d1] 27)).alloc (.cells #[.bool s2, .slice A2 L2 c2, .slice B2 M2 d2] 27)) #[.bool false, .slice none 0 0, .slice none 0 0] 27); simpa only [World.size_alloc] using h5
  have hszw0 : w0.heap.size = w.heap.size + 1 + 1 + 1 := by rw [hw0]; simp only [World.size_alloc]
  have xw0 : Ext w w0 := by rw [hw0]; exact (((Ext.alloc _ _).trans (Ext.alloc _ _)).trans (Ext.alloc _ _))
  clear hw0
  refine (rcmp_k (h1.rv.ext (by with_reducible repeat' first | exact Ext.refl _ | assumption | apply Ext.alloc_r | apply Ext.drew_r | apply Ext.drewN_r | refine Ext.trans ?_ ‹Ext _ _›)) (h2.rv.ext (by with_reducible repeat' first | exact Ext.refl _ | assumption | apply Ext.alloc_r | apply Ext.drew_r | apply Ext.drewN_r | refine Ext.trans ?_ ‹Ext _ _›)) hN HK.out).mono ?_
  rintro e w1 ⟨rfl, x1⟩
  have szw1 : w0.heap.size ≤ w1.heap.size := x1.size
  replace bxa := bxa.ext x1
  replace bxb := bxb.ext x1
  replace bxr := bxr.ext x1
  have HO := Lib.hid (h1.ext (show Ext w w1 from (by with_reducible repeat' first | exact Ext.refl _ | assumption | apply Ext.alloc_r | apply Ext.drew_r | apply Ext.drewN_r | refine Ext.trans ?_ ‹Ext _ _›)))
  clear h1 h2
  have ka_0 := bxa.c 0 (.bool s1) rfl
  have ka_1 := bxa.c 1 (.slice A1 L1 c1) rfl
  have ka_2 := bxa.c 2 (.slice B1 M1 d1) rfl
  have kb_0 := bxb.c 0 (.bool s2) rfl
  have kb_1 := bxb.c 1 (.slice A2 L2 c2) rfl
  have kb_2 := bxb.c 2 (.slice B2 M2 d2) rfl
  have kr_0 := bxr.c 0 (.bool false) rfl
  have fr_0 := bxr.f 0
  have kr_1 := bxr.c 1 (.slice none 0 0) rfl
  have fr_1 := bxr.f 1
  have kr_2 := bxr.c 2 (.slice none 0 0) rfl
  have fr_2 := bxr.f 2
  go_wp2_with fail
  clear ka_0 ka_1 ka_2 kb_0 kb_1 kb_2 kr_0 fr_0 kr_1 fr_1 kr_2 fr_2
  have HR2 := HO.out
  obtain ⟨w2, hw⟩ : ∃ z : World, z = (((w1.setCell ⟨w.heap.size + 1 + 1, 0, none⟩ (.bool s1)).setCell ⟨w.heap.size + 1 + 1, 1, none⟩ (.slice A1 L1 c1)).setCell ⟨w.heap.size + 1 + 1, 2, none⟩ (.slice B1 M1 d1)) := ⟨_, rfl⟩
  rw [← hw]
  have kw2 : Kept w1 w2 := by rw [hw]; exact (Kept.set_ (Kept.set_ (Kept.set_ (Kept.refl _) bxr.isBox plain_rat) (IsBox.set_ bxr.isBox) plain_rat) (IsBox.set_ (IsBox.set_ bxr.isBox)) plain_rat)
  have nba : BK w2 (w.heap.size) 27 #[.bool s1, .slice A1 L1 c1, .slice B1 M1 d1] := by rw [hw]; exact (BK.far (BK.far (BK.far bxa (show w.heap.size ≠ w.heap.size + 1 + 1 by omega) 0 _) (show w.heap.size ≠ w.heap.size + 1 + 1 by omega) 1 _) (show w.heap.size ≠ w.heap.size + 1 + 1 by omega) 2 _)
  have nbb : BK w2 (w.heap.size + 1) 27 #[.bool s2, .slice A2 L2 c2, .slice B2 M2 d2] := by rw [hw]; exact (BK.far (BK.far (BK.far bxb (show w.heap.size + 1 ≠ w.heap.size + 1 + 1 by omega) 0 _) (show w.heap.size + 1 ≠ w.heap.size + 1 + 1 by omega) 1 _) (show w.heap.size + 1 ≠ w.heap.size + 1 + 1 by omega) 2 _)
  have nbr : BK w2 (w.heap.size + 1 + 1) 27 #[.bool s1, .slice A1 L1 c1, .slice B1 M1 d1] := by rw [hw]; exact (BK.set (i := 2) (u := .slice B1 M1 d1) (vs' := #[.bool s1, .slice A1 L1 c1, .slice B1 M1 d1]) (BK.set (i := 1) (u := .slice A1 L1 c1) (vs' := #[.bool s1, .slice A1 L1 c1, .slice none 0 0]) (BK.set (i := 0) (u := .bool s1) (vs' := #[.bool s1, .slice none 0 0, .slice none 0 0]) bxr rfl) rfl) rfl)
  have x2 : Ext w w2 := by rw [hw]; have hxp : Ext w w1 := (by with_reducible repeat' first | exact Ext.refl _ | assumption | apply Ext.alloc_r | apply Ext.drew_r | apply Ext.drewN_r | refine Ext.trans ?_ ‹Ext _ _›); exact (Ext.set_ (Ext.set_ (Ext.set_ hxp (show _ ≤ w.heap.size + 1 + 1 by omega)) (show _ ≤ w.heap.size + 1 + 1 by omega)) (show _ ≤ w.heap.size + 1 + 1 by omega))
  clear bxa
  clear bxb
  clear bxr
  have bxa := nba
  clear nba
  have bxb := nbb
  clear nbb
  have bxr := nbr
  clear nbr
  have szw2 : w2.heap.size = w1.heap.size := by rw [hw]; simp
  replace HR2 := (HR2.ext (by with_reducible repeat' first | exact Ext.refl _ | assumption | apply Ext.alloc_r | apply Ext.drew_r | apply Ext.drewN_r | refine Ext.trans ?_ ‹Ext _ _›)).kept kw2
  clear hw kw2
  clear HO
  have HO := Lib.hid HR2
  clear HR2
  have kr_0 := bxr.c 0 (.bool s1) rfl
  have kr_1 := bxr.c 1 (.slice A1 L1 c1) rfl
  have kr_2 := bxr.c 2 (.slice B1 M1 d1) rfl
  refine bodyPost_ret (v := .agg #[Value.bool s1, Value.slice A1 L1 c1, Value.slice B1 M1 d1]) (by simp [results, Tryz.results61, go_sem, kr_0, kr_1, kr_2]) rfl ?_
  exact ⟨_, _, _, _, _, _, _, rfl, by rw [HLO.out]; exact HO.out, x2⟩
set_option maxHeartbeats 4000000 in
set_option maxRecDepth 100000 in
theorem greater_no {w : World} {N g : Nat} {s1 s2 : Bool} {A1 B1 A2 B2 : Option Addr} {c1 d1 L1 M1 c2 d2 L2 M2 : Nat} {q1 q2 : Rat} (h1 : RO w g s1 A1 c1 L1 B1 d1 M1 N q1) (h2 : RO w g s2 A2 c2 L2 B2 d2 M2 N q2) (hN : N < 48) (hq : ¬ q2 ≤ q1) :
    Calls Tryz.prog 61 #[Value.agg #[Value.bool s1, Value.slice A1 L1 c1, Value.slice B1 M1 d1], Value.agg #[Value.bool s2, Value.slice A2 L2 c2, Value.slice B2 M2 d2]] w (RetG w g N (maxQ q1 q2)) := by
  obtain ⟨K, hK⟩ : ∃ K : Int, K = cmpQ q1 q2 := ⟨_, rfl⟩
  have hk : ¬ (0 ≤ K) := by rw [hK]; exact fun h => hq ((cmpQ_ge _ _).1 h)
  have HK := Lib.hid hK.symm
  have HLO : Hid (maxQ q1 q2 = q2) := by show _ = _; unfold maxQ; rw [if_neg hq]
  clear hK hq
  go_enter Tryz.func61, Tryz.ntmps61
  go_wp2_with fail
  obtain ⟨w0, hw0⟩ : ∃ z : World, z = (((w.alloc (.cells #[.bool s1, .slice A1 L1 c1, .slice B1 M1 d1] 27)).alloc (.cells #[.bool s2, .slice A2 L2 c2, .slice B2 M2 d2] 27)).alloc (.cells #[.bool false, .slice none 0 0, .slice none 0 0] 27)) := ⟨_, rfl⟩
  rw [← hw0]
  have bxa : BK w0 (w.heap.size) 27 #[.bool s1, .slice A1 L1 c1, .slice B1 M1 d1] := by rw [hw0]; have h5 := (BK.ext (BK.ext (BK.new w #[.bool s1, .slice A1 L1 c1, .slice B1 M1 d1] 27) (Ext.alloc _ (.cells #[.bool s2, .slice A2 L2 c2, .slice B2 M2 d2] 27))) (Ext.alloc _ (.cells #[.bool false, .slice none 0 0, .slice none 0 0] 27))); simpa only [World.size_alloc] using h5
  have bxb : BK w0 (w.heap.size + 1) 27 #[.bool s2, .slice A2 L2 c2, .slice B2 M2 d2] := by rw [hw0]; have h5 := (BK.ext (BK.new (w.alloc (.cells #[.bool s1, .slice A1 L1 c1, .slice B1 M1 d1] 27)) #[.bool s2, .slice A2 L2 c2, .slice B2 M2 d2] 27) (Ext.alloc _ (.cells #[.bool false, .slice none 0 0, .slice none 0 0] 27))); simpa only [World.size_alloc] using h5
  have bxr : BK w0 (w.heap.size + 1 + 1) 27 #[.bool false, .slice none 0 0, .slice none 0 0] := by rw [hw0]; have h5 := (BK.new ((w.alloc (.cells #[.bool s1, .slice A1 L1 c1, .slice B1 M1 d1] 27)).alloc (.cells #[.bool s2, .slice A2 L2 c2, .slice B2 M2 d2] 27)) #[.bool false, .slice none 0 0, .slice none 0 0] 27); simpa only [World.size_alloc] using h5
  have hszw0 : w0.heap.size = w.heap.size + 1 + 1 + 1 := by rw [hw0]; simp only [World.size_alloc]
  have xw0 : Ext w w0 := by rw [hw0]; exact (((Ext.alloc _ _).trans (Ext.alloc _ _)).trans (Ext.alloc _ _))
  clear hw0
  refine (rcmp_k (h1.rv.ext (by with_reducible repeat' first | exact Ext.refl _ | assumption | apply Ext.alloc_r | apply Ext.drew_r | apply Ext.drewN_r | refine Ext.trans ?_ ‹Ext _ _›)) (h2.rv.ext (by with_reducible repeat' first | exact Ext.refl _ | assumption | apply Ext.alloc_r | apply Ext.drew_r | apply Ext.drewN_r | refine Ext.trans ?_ ‹Ext _ _›)) hN HK.out).mono ?_
  rintro e w1 ⟨rfl, x1⟩
  have szw1 : w0.heap.size ≤ w1.heap.size := x1.size
  replace bxa := bxa.ext x1
  replace bxb := bxb.ext x1
  replace bxr := bxr.ext x1
  have HO := Lib.hid (h2.ext (show Ext w w1 from (by with_reducible repeat' first | exact Ext.refl _ | assumption | apply Ext.alloc_r | apply Ext.drew_r | apply Ext.drewN_r | refine Ext.trans ?_ ‹Ext _ _›)))
  clear h1 h2
  have ka_0 := bxa.c 0 (.bool s1) rfl
  have ka_1 := bxa.c 1 (.slice A1 L1 c1) rfl
  have ka_2 := bxa.c 2 (.slice B1 M1 d1) rfl
  have kb_0 := bxb.c 0 (.bool s2) rfl
  have kb_1 := bxb.c 1 (.slice A2 L2 c2) rfl
  have kb_2 := bxb.c 2 (.slice B2 M2 d2) rfl
  have kr_0 := bxr.c 0 (.bool false) rfl
  have fr_0 := bxr.f 0
  have kr_1 := bxr.c 1 (.slice none 0 0) rfl
  have fr_1 := bxr.f 1
  have kr_2 := bxr.c 2 (.slice none 0 0) rfl
  have fr_2 := bxr.f 2
  go_wp2_with fail
  clear ka_0 ka_1 ka_2 kb_0 kb_1 kb_2 kr_0 fr_0 kr_1 fr_1 kr_2 fr_2
  have HR2 := HO.out
  obtain ⟨w2, hw⟩ : ∃ z : World, z = (((w1.setCell ⟨w.heap.size + 1 + 1, 0, none⟩ (.bool s2)).setCell ⟨w.heap.size + 1 + 1, 1, none⟩ (.slice A2 L2 c2)).setCell ⟨w.heap.size + 1 + 1, 2, none⟩ (.slice B2 M2 d2)) := ⟨_, rfl⟩
  rw [← hw]
  have kw2 : Kept w1 w2 := by rw [hw]; exact (Kept.set_ (Kept.set_ (Kept.set_ (Kept.refl _) bxr.isBox plain_rat) (IsBox.set_ bxr.isBox) plain_rat) (IsBox.set_ (IsBox.set_ bxr.isBox)) plain_rat)
  have nba : BK w2 (w.heap.size) 27 #[.bool s1, .slice A1 L1 c1, .slice B1 M1 d1] := by rw [hw]; exact (BK.far (BK.far (BK.far bxa (show w.heap.size ≠ w.heap.size + 1 + 1 by omega) 0 _) (show w.heap.size ≠ w.heap.size + 1 + 1 by omega) 1 _) (show w.heap.size ≠ w.heap.size + 1 + 1 by omega) 2 _)
  have nbb : BK w2 (w.heap.size + 1) 27 #[.bool s2, .slice A2 L2 c2, .slice B2 M2 d2] := by rw [hw]; exact (BK.far (BK.far (BK.far bxb (show w.heap.size + 1 ≠ w.heap.size + 1 + 1 by omega) 0 _) (show w.heap.size + 1 ≠ w.heap.size + 1 + 1 by omega) 1 _) (show w.heap.size + 1 ≠ w.heap.size + 1 + 1 by omega) 2 _)
  have nbr : BK w2 (w.heap.size + 1 + 1) 27 #[.bool s2, .slice A2 L2 c2, .slice B2 M2 d2] := by rw [hw]; exact (BK.set (i := 2) (u := .slice B2 M2 d2) (vs' := #[.bool s2, .slice A2 L2 c2, .slice B2 M2 d2]) (BK.set (i := 1) (u := .slice A2 L2 c2) (vs' := #[.bool s2, .slice A2 L2 c2, .slice none 0 0]) (BK.set (i := 0) (u := .bool s2) (vs' := #[.bool s2, .slice none 0 0, .slice none 0 0]) bxr rfl) rfl) rfl)
  have x2 : Ext w w2 := by rw [hw]; have hxp : Ext w w1 := (by with_reducible repeat' first | exact Ext.refl _ | assumption | apply Ext.alloc_r | apply Ext.drew_r | apply Ext.drewN_r | refine Ext.trans ?_ ‹Ext _ _›); exact (Ext.set_ (Ext.set_ (Ext.set_ hxp (show _ ≤ w.heap.size + 1 + 1 by omega)) (show _ ≤ w.heap.size + 1 + 1 by omega)) (show _ ≤ w.heap.size + 1 + 1 by omega))
  clear bxa
  clear bxb
  clear bxr
  have bxa := nba
  clear nba
  have bxb := nbb
  clear nbb
  have bxr := nbr
  clear nbr
  have szw2 : w2.heap.size = w1.heap.size := by rw [hw]; simp
  replace HR2 := (HR2.ext (by with_reducible repeat' first | exact Ext.refl _ | assumption | apply Ext.alloc_r | apply Ext.drew_r | apply Ext.drewN_r | refine Ext.trans ?_ ‹Ext _ _›)).kept kw2
  clear hw kw2
  clear HO
  have HO := Lib.hid HR2
  clear HR2
  have kr_0 := bxr.c 0 (.bool s2) rfl
  have kr_1 := bxr.c 1 (.slice A2 L2 c2) rfl
  have kr_2 := bxr.c 2 (.slice B2 M2 d2) rfl
  refine bodyPost_ret (v := .agg #[Value.bool s2, Value.slice A2 L2 c2, Value.slice B2 M2 d2]) (by simp [results, Tryz.results61, go_sem, kr_0, kr_1, kr_2]) rfl ?_
  exact ⟨_, _, _, _, _, _, _, rfl, by rw [HLO.out]; exact HO.out, x2⟩
theorem greater_r {w : World} {N g : Nat} {s1 s2 : Bool} {A1 B1 A2 B2 : Option Addr} {c1 d1 L1 M1 c2 d2 L2 M2 : Nat} {q1 q2 : Rat} (h1 : RO w g s1 A1 c1 L1 B1 d1 M1 N q1) (h2 : RO w g s2 A2 c2 L2 B2 d2 M2 N q2) (hN : N < 48) :
    Calls Tryz.prog 61 #[Value.agg #[Value.bool s1, Value.slice A1 L1 c1, Value.slice B1 M1 d1], Value.agg #[Value.bool s2, Value.slice A2 L2 c2, Value.slice B2 M2 d2]] w (RetG w g N (maxQ q1 q2)) := by
  by_cases h : q2 ≤ q1
  · exact greater_yes h1 h2 hN h
  · exact greater_no h1 h2 hN h
end Go.Proofs.YtehhkeenjlpikaaGreat
