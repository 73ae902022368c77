import Derived.Test.YtehhkeenjlpikaaElIvD
import Derived.Deep.RegionHeldLaw
import Derived.Deep.LoopGhost
import Derived.Deep.QuietTactic
import Derived.BigQuiet
namespace Go.Proofs.Ytehhkeenjlpikaa
open Go.RowKit
/-- The number of the interval that is nearest to c. -/
def clampQ (p q c : Rat) : Rat := if c < minQ p q then minQ p q else if maxQ p q < c then maxQ p q else c
theorem clampQ_in (p q c : Rat) : inI (clampQ p q c) p q := by
  unfold clampQ
  split
  · exact inI_min p q
  · split
    · exact inI_max p q
    · exact ⟨Rat.not_lt.1 ‹_›, Rat.not_lt.1 ‹_›⟩
/-- The call returns the fraction q, of at most N digits. -/
def RetV (w : World) (N : Nat) (q : Rat) (e : Ending) (w' : World) : Prop := ∃ s A c L B d M, e = .returned (.agg #[.bool s, .slice A L c, .slice B M d]) ∧ RV w' s A c L B d M N q ∧ Ext w w'
set_option maxHeartbeats 4000000 in
set_option maxRecDepth 100000 in
theorem clamp_lo {w : World} {N : Nat} {s1 s2 s3 : Bool} {A1 B1 A2 B2 A3 B3 : Option Addr} {c1 d1 L1 M1 c2 d2 L2 M2 c3 d3 L3 M3 : Nat} {q1 q2 q3 : Rat} (h1 : RV w s1 A1 c1 L1 B1 d1 M1 N q1) (h2 : RV w s2 A2 c2 L2 B2 d2 M2 N q2) (h3 : RV w s3 A3 c3 L3 B3 d3 M3 N q3) (hN : N < 48) (hq : q3 < minQ q1 q2) :
    Calls Try.prog 9 #[Value.agg #[Value.bool s1, Value.slice A1 L1 c1, Value.slice B1 M1 d1, Value.bool s2, Value.slice A2 L2 c2, Value.slice B2 M2 d2], Value.agg #[Value.bool s3, Value.slice A3 L3 c3, Value.slice B3 M3 d3]] w (RetV w N (clampQ q1 q2 q3)) := by
  have HC : Hid (clampQ q1 q2 q3 = minQ q1 q2) := by show _ = _; unfold clampQ; rw [if_pos hq]
  obtain ⟨K, hK⟩ : ∃ K : Int, K = cmpQ q3 (minQ q1 q2) := ⟨_, rfl⟩
  have hk : K < 0 := by rw [hK]; exact (cmpQ_lt _ _).2 hq
  have HK := Lib.hid hK.symm
  clear hK hq
  go_enter Try.func9, Try.ntmps9
  go_wp2_with fail
  obtain ⟨w0, hw0⟩ : ∃ z : World, z = (((w.alloc (.cells #[.bool s1, .slice A1 L1 c1, .slice B1 M1 d1, .bool s2, .slice A2 L2 c2, .slice B2 M2 d2] 29)).alloc (.cells #[.bool s3, .slice A3 L3 c3, .slice B3 M3 d3] 27)).alloc (.cells #[.bool false, .slice none 0 0, .slice none 0 0] 27)) := ⟨_, rfl⟩
  rw [← hw0]
  have bxi : BK w0 (w.heap.size) 29 #[.bool s1, .slice A1 L1 c1, .slice B1 M1 d1, .bool s2, .slice A2 L2 c2, .slice B2 M2 d2] := by rw [hw0]; have h5 := (BK.ext (BK.ext (BK.new w #[.bool s1, .slice A1 L1 c1, .slice B1 M1 d1, .bool s2, .slice A2 L2 c2, .slice B2 M2 d2] 29) (Ext.alloc _ (.cells #[.bool s3, .slice A3 L3 c3, .slice B3 M3 d3] 27))) (Ext.alloc _ (.cells #[.bool false, .slice none 0 0, .slice none 0 0] 27))); simpa only [World.size_alloc] using h5
  have bxa : BK w0 (w.heap.size + 1) 27 #[.bool s3, .slice A3 L3 c3, .slice B3 M3 d3] := by rw [hw0]; have h5 := (BK.ext (BK.new (w.alloc (.cells #[.bool s1, .slice A1 L1 c1, .slice B1 M1 d1, .bool s2, .slice A2 L2 c2, .slice B2 M2 d2] 29)) #[.bool s3, .slice A3 L3 c3, .slice B3 M3 d3] 27) (Ext.alloc _ (.cells #[.bool false, .slice none 0 0, .slice none 0 0] 27))); simpa only [World.size_alloc] using h5
  have bxr : BK w0 (w.heap.size + 1 + 1) 27 #[.bool false, .slice none 0 0, .slice none 0 0] := by rw [hw0]; have h5 := (BK.new ((w.alloc (.cells #[.bool s1, .slice A1 L1 c1, .slice B1 M1 d1, .bool s2, .slice A2 L2 c2, .slice B2 M2 d2] 29)).alloc (.cells #[.bool s3, .slice A3 L3 c3, .slice B3 M3 d3] 27)) #[.bool false, .slice none 0 0, .slice none 0 0] 27); simpa only [World.size_alloc] using h5
  have hszw0 : w0.heap.size = w.heap.size + 1 + 1 + 1 := by rw [hw0]; simp only [World.size_alloc]
  have xw0 : Ext w w0 := by rw [hw0]; exact (((Ext.alloc _ _).trans (Ext.alloc _ _)).trans (Ext.alloc _ _))
  clear hw0
  refine (inormal_r (h1.ext (by repeat' (first | with_reducible exact Ext.refl _ | with_reducible assumption | with_reducible apply Ext.alloc_r | with_reducible apply Ext.drew_r | with_reducible apply Ext.drewN_r | with_reducible refine Ext.trans ?_ ‹Ext _ _›))) (h2.ext (by repeat' (first | with_reducible exact Ext.refl _ | with_reducible assumption | with_reducible apply Ext.alloc_r | with_reducible apply Ext.drew_r | with_reducible apply Ext.drewN_r | with_reducible refine Ext.trans ?_ ‹Ext _ _›))) hN).mono ?_
  rintro e w1 ⟨spa, Apa, cpa, Lpa, Bpa, dpa, Mpa, spb, Apb, cpb, Lpb, Bpb, dpb, Mpb, rfl, pa, pb, x1⟩
  have szw1 : w0.heap.size ≤ w1.heap.size := x1.size
  replace bxi := bxi.ext x1
  replace bxa := bxa.ext x1
  replace bxr := bxr.ext x1
  have HP := Lib.hid (And.intro pa pb)
  clear pa pb
  have ki_0 := bxi.c 0 (.bool s1) rfl
  have ki_1 := bxi.c 1 (.slice A1 L1 c1) rfl
  have ki_2 := bxi.c 2 (.slice B1 M1 d1) rfl
  have ki_3 := bxi.c 3 (.bool s2) rfl
  have ki_4 := bxi.c 4 (.slice A2 L2 c2) rfl
  have ki_5 := bxi.c 5 (.slice B2 M2 d2) rfl
  have ka_0 := bxa.c 0 (.bool s3) rfl
  have ka_1 := bxa.c 1 (.slice A3 L3 c3) rfl
  have ka_2 := bxa.c 2 (.slice B3 M3 d3) rfl
  have kr_0 := bxr.c 0 (.bool false) rfl
  have kr_1 := bxr.c 1 (.slice none 0 0) rfl
  have kr_2 := bxr.c 2 (.slice none 0 0) rfl
  have t1i_0 := fun (o0 : Obj) => ((Ext.alloc w1 o0).cell (bxi.c 0 (.bool s1) rfl))
  have t1i_1 := fun (o0 : Obj) => ((Ext.alloc w1 o0).cell (bxi.c 1 (.slice A1 L1 c1) rfl))
  have t1i_2 := fun (o0 : Obj) => ((Ext.alloc w1 o0).cell (bxi.c 2 (.slice B1 M1 d1) rfl))
  have t1i_3 := fun (o0 : Obj) => ((Ext.alloc w1 o0).cell (bxi.c 3 (.bool s2) rfl))
  have t1i_4 := fun (o0 : Obj) => ((Ext.alloc w1 o0).cell (bxi.c 4 (.slice A2 L2 c2) rfl))
  have t1i_5 := fun (o0 : Obj) => ((Ext.alloc w1 o0).cell (bxi.c 5 (.slice B2 M2 d2) rfl))
  have t1a_0 := fun (o0 : Obj) => ((Ext.alloc w1 o0).cell (bxa.c 0 (.bool s3) rfl))
  have t1a_1 := fun (o0 : Obj) => ((Ext.alloc w1 o0).cell (bxa.c 1 (.slice A3 L3 c3) rfl))
  have t1a_2 := fun (o0 : Obj) => ((Ext.alloc w1 o0).cell (bxa.c 2 (.slice B3 M3 d3) rfl))
  have t1r_0 := fun (o0 : Obj) => ((Ext.alloc w1 o0).cell (bxr.c 0 (.bool false) rfl))
  have t1r_1 := fun (o0 : Obj) => ((Ext.alloc w1 o0).cell (bxr.c 1 (.slice none 0 0) rfl))
  have t1r_2 := fun (o0 : Obj) => ((Ext.alloc w1 o0).cell (bxr.c 2 (.slice none 0 0) rfl))
  go_wp2_with fail
  clear ki_0 ki_1 ki_2 ki_3 ki_4 ki_5 ka_0 ka_1 ka_2 kr_0 kr_1 kr_2 t1i_0 t1i_1 t1i_2 t1i_3 t1i_4 t1i_5 t1a_0 t1a_1 t1a_2 t1r_0 t1r_1 t1r_2
  obtain ⟨w2, hw⟩ : ∃ z : World, z = (w1.alloc (.cells #[.bool spa, .slice Apa Lpa cpa, .slice Bpa Mpa dpa, .bool spb, .slice Apb Lpb cpb, .slice Bpb Mpb dpb] 29)) := ⟨_, rfl⟩
  rw [← hw]
  have x2 : Ext w1 w2 := by rw [hw]; exact (Ext.alloc _ _)
  replace bxi := bxi.ext x2
  replace bxa := bxa.ext x2
  replace bxr := bxr.ext x2
  have bxn : BK w2 (w1.heap.size) 29 #[.bool spa, .slice Apa Lpa cpa, .slice Bpa Mpa dpa, .bool spb, .slice Apb Lpb cpb, .slice Bpb Mpb dpb] := by rw [hw]; have h5 := (BK.new w1 #[.bool spa, .slice Apa Lpa cpa, .slice Bpa Mpa dpa, .bool spb, .slice Apb Lpb cpb, .slice Bpb Mpb dpb] 29); simpa only [World.size_alloc] using h5
  have szw2 : w2.heap.size = w1.heap.size + 1 := by rw [hw]; simp only [World.size_alloc]
  clear hw
  refine (rcmp_k (h3.ext (by repeat' (first | with_reducible exact Ext.refl _ | with_reducible assumption | with_reducible apply Ext.alloc_r | with_reducible apply Ext.drew_r | with_reducible apply Ext.drewN_r | with_reducible refine Ext.trans ?_ ‹Ext _ _›))) (HP.out.1.rv.ext (by repeat' (first | with_reducible exact Ext.refl _ | with_reducible assumption | with_reducible apply Ext.alloc_r | with_reducible apply Ext.drew_r | with_reducible apply Ext.drewN_r | with_reducible refine Ext.trans ?_ ‹Ext _ _›))) hN HK.out).mono ?_
  rintro e w3 ⟨rfl, x3⟩
  have szw3 : w2.heap.size ≤ w3.heap.size := x3.size
  replace bxi := bxi.ext x3
  replace bxa := bxa.ext x3
  replace bxr := bxr.ext x3
  replace bxn := bxn.ext x3
  have ki_0 := bxi.c 0 (.bool s1) rfl
  have ki_1 := bxi.c 1 (.slice A1 L1 c1) rfl
  have ki_2 := bxi.c 2 (.slice B1 M1 d1) rfl
  have ki_3 := bxi.c 3 (.bool s2) rfl
  have ki_4 := bxi.c 4 (.slice A2 L2 c2) rfl
  have ki_5 := bxi.c 5 (.slice B2 M2 d2) rfl
  have ka_0 := bxa.c 0 (.bool s3) rfl
  have ka_1 := bxa.c 1 (.slice A3 L3 c3) rfl
  have ka_2 := bxa.c 2 (.slice B3 M3 d3) rfl
  have kr_0 := bxr.c 0 (.bool false) rfl
  have fr_0 := bxr.f 0
  have kr_1 := bxr.c 1 (.slice none 0 0) rfl
  have fr_1 := bxr.f 1
  have kr_2 := bxr.c 2 (.slice none 0 0) rfl
  have fr_2 := bxr.f 2
  have kn_0 := bxn.c 0 (.bool spa) rfl
  have kn_1 := bxn.c 1 (.slice Apa Lpa cpa) rfl
  have kn_2 := bxn.c 2 (.slice Bpa Mpa dpa) rfl
  have kn_3 := bxn.c 3 (.bool spb) rfl
  have kn_4 := bxn.c 4 (.slice Apb Lpb cpb) rfl
  have kn_5 := bxn.c 5 (.slice Bpb Mpb dpb) rfl
  go_wp2_with fail
  clear ki_0 ki_1 ki_2 ki_3 ki_4 ki_5 ka_0 ka_1 ka_2 kr_0 fr_0 kr_1 fr_1 kr_2 fr_2 kn_0 kn_1 kn_2 kn_3 kn_4 kn_5
  have HR2 := HP.out.1
  obtain ⟨w4, hw⟩ : ∃ z : World, z = (((w3.setCell ⟨w.heap.size + 1 + 1, 0, none⟩ (.bool spa)).setCell ⟨w.heap.size + 1 + 1, 1, none⟩ (.slice Apa Lpa cpa)).setCell ⟨w.heap.size + 1 + 1, 2, none⟩ (.slice Bpa Mpa dpa)) := ⟨_, rfl⟩
  rw [← hw]
  have kw4 : Kept w3 w4 := by rw [hw]; exact (Kept.set_ (Kept.set_ (Kept.set_ (Kept.refl _) bxr.isBox plain_rat) (IsBox.set_ bxr.isBox) plain_rat) (IsBox.set_ (IsBox.set_ bxr.isBox)) plain_rat)
  have nbi : BK w4 (w.heap.size) 29 #[.bool s1, .slice A1 L1 c1, .slice B1 M1 d1, .bool s2, .slice A2 L2 c2, .slice B2 M2 d2] := by rw [hw]; exact (BK.far (BK.far (BK.far bxi (show w.heap.size ≠ w.heap.size + 1 + 1 by omega) 0 _) (show w.heap.size ≠ w.heap.size + 1 + 1 by omega) 1 _) (show w.heap.size ≠ w.heap.size + 1 + 1 by omega) 2 _)
  have nba : BK w4 (w.heap.size + 1) 27 #[.bool s3, .slice A3 L3 c3, .slice B3 M3 d3] := by rw [hw]; exact (BK.far (BK.far (BK.far bxa (show w.heap.size + 1 ≠ w.heap.size + 1 + 1 by omega) 0 _) (show w.heap.size + 1 ≠ w.heap.size + 1 + 1 by omega) 1 _) (show w.heap.size + 1 ≠ w.heap.size + 1 + 1 by omega) 2 _)
  have nbr : BK w4 (w.heap.size + 1 + 1) 27 #[.bool spa, .slice Apa Lpa cpa, .slice Bpa Mpa dpa] := by rw [hw]; exact (BK.set (i := 2) (u := .slice Bpa Mpa dpa) (vs' := #[.bool spa, .slice Apa Lpa cpa, .slice Bpa Mpa dpa]) (BK.set (i := 1) (u := .slice Apa Lpa cpa) (vs' := #[.bool spa, .slice Apa Lpa cpa, .slice none 0 0]) (BK.set (i := 0) (u := .bool spa) (vs' := #[.bool spa, .slice none 0 0, .slice none 0 0]) bxr rfl) rfl) rfl)
  have nbn : BK w4 (w1.heap.size) 29 #[.bool spa, .slice Apa Lpa cpa, .slice Bpa Mpa dpa, .bool spb, .slice Apb Lpb cpb, .slice Bpb Mpb dpb] := by rw [hw]; exact (BK.far (BK.far (BK.far bxn (show w1.heap.size ≠ w.heap.size + 1 + 1 by omega) 0 _) (show w1.heap.size ≠ w.heap.size + 1 + 1 by omega) 1 _) (show w1.heap.size ≠ w.heap.size + 1 + 1 by omega) 2 _)
  have x4 : Ext w w4 := by rw [hw]; have hxp : Ext w w3 := (by repeat' (first | with_reducible exact Ext.refl _ | with_reducible assumption | with_reducible apply Ext.alloc_r | with_reducible apply Ext.drew_r | with_reducible apply Ext.drewN_r | with_reducible refine Ext.trans ?_ ‹Ext _ _›)); exact (Ext.set_ (Ext.set_ (Ext.set_ hxp (show _ ≤ w.heap.size + 1 + 1 by omega)) (show _ ≤ w.heap.size + 1 + 1 by omega)) (show _ ≤ w.heap.size + 1 + 1 by omega))
  clear bxi
  clear bxa
  clear bxr
  clear bxn
  have bxi := nbi
  clear nbi
  have bxa := nba
  clear nba
  have bxr := nbr
  clear nbr
  have bxn := nbn
  clear nbn
  have szw4 : w4.heap.size = w3.heap.size := by rw [hw]; simp
  replace HR2 := (HR2.ext (by repeat' (first | with_reducible exact Ext.refl _ | with_reducible assumption | with_reducible apply Ext.alloc_r | with_reducible apply Ext.drew_r | with_reducible apply Ext.drewN_r | with_reducible refine Ext.trans ?_ ‹Ext _ _›))).kept kw4
  clear hw kw4
  have HR := Lib.hid HR2
  clear HR2
  have kr_0 := bxr.c 0 (.bool spa) rfl
  have kr_1 := bxr.c 1 (.slice Apa Lpa cpa) rfl
  have kr_2 := bxr.c 2 (.slice Bpa Mpa dpa) rfl
  refine bodyPost_ret (v := .agg #[Value.bool spa, Value.slice Apa Lpa cpa, Value.slice Bpa Mpa dpa]) (by simp [results, Try.results9, go_sem, kr_0, kr_1, kr_2]) rfl ?_
  exact ⟨_, _, _, _, _, _, _, rfl, by rw [HC.out]; exact HR.out.rv, x4⟩
set_option maxHeartbeats 4000000 in
set_option maxRecDepth 100000 in
theorem clamp_hi {w : World} {N : Nat} {s1 s2 s3 : Bool} {A1 B1 A2 B2 A3 B3 : Option Addr} {c1 d1 L1 M1 c2 d2 L2 M2 c3 d3 L3 M3 : Nat} {q1 q2 q3 : Rat} (h1 : RV w s1 A1 c1 L1 B1 d1 M1 N q1) (h2 : RV w s2 A2 c2 L2 B2 d2 M2 N q2) (h3 : RV w s3 A3 c3 L3 B3 d3 M3 N q3) (hN : N < 48) (hq : ¬ q3 < minQ q1 q2) (hr : maxQ q1 q2 < q3) :
    Calls Try.prog 9 #[Value.agg #[Value.bool s1, Value.slice A1 L1 c1, Value.slice B1 M1 d1, Value.bool s2, Value.slice A2 L2 c2, Value.slice B2 M2 d2], Value.agg #[Value.bool s3, Value.slice A3 L3 c3, Value.slice B3 M3 d3]] w (RetV w N (clampQ q1 q2 q3)) := by
  have HC : Hid (clampQ q1 q2 q3 = maxQ q1 q2) := by show _ = _; unfold clampQ; rw [if_neg hq, if_pos hr]
  obtain ⟨K, hK⟩ : ∃ K : Int, K = cmpQ q3 (minQ q1 q2) := ⟨_, rfl⟩
  have hk : ¬ K < 0 := by rw [hK]; exact fun h => hq ((cmpQ_lt _ _).1 h)
  have HK := Lib.hid hK.symm
  clear hK hq
  obtain ⟨J, hJ⟩ : ∃ J : Int, J = cmpQ q3 (maxQ q1 q2) := ⟨_, rfl⟩
  have hj : J > 0 := by rw [hJ]; exact (cmpQ_gt _ _).2 hr
  have HJ := Lib.hid hJ.symm
  clear hJ hr
  go_enter Try.func9, Try.ntmps9
  go_wp2_with fail
  obtain ⟨w0, hw0⟩ : ∃ z : World, z = (((w.alloc (.cells #[.bool s1, .slice A1 L1 c1, .slice B1 M1 d1, .bool s2, .slice A2 L2 c2, .slice B2 M2 d2] 29)).alloc (.cells #[.bool s3, .slice A3 L3 c3, .slice B3 M3 d3] 27)).alloc (.cells #[.bool false, .slice none 0 0, .slice none 0 0] 27)) := ⟨_, rfl⟩
  rw [← hw0]
  have bxi : BK w0 (w.heap.size) 29 #[.bool s1, .slice A1 L1 c1, .slice B1 M1 d1, .bool s2, .slice A2 L2 c2, .slice B2 M2 d2] := by rw [hw0]; have h5 := (BK.ext (BK.ext (BK.new w #[.bool s1, .slice A1 L1 c1, .slice B1 M1 d1, .bool s2, .slice A2 L2 c2, .slice B2 M2 d2] 29) (Ext.alloc _ (.cells #[.bool s3, .slice A3 L3 c3, .slice B3 M3 d3] 27))) (Ext.alloc _ (.cells #[.bool false, .slice none 0 0, .slice none 0 0] 27))); simpa only [World.size_alloc] using h5
  have bxa : BK w0 (w.heap.size + 1) 27 #[.bool s3, .slice A3 L3 c3, .slice B3 M3 d3] := by rw [hw0]; have h5 := (BK.ext (BK.new (w.alloc (.cells #[.bool s1, .slice A1 L1 c1, .slice B1 M1 d1, .bool s2, .slice A2 L2 c2, .slice B2 M2 d2] 29)) #[.bool s3, .slice A3 L3 c3, .slice B3 M3 d3] 27) (Ext.alloc _ (.cells #[.bool false, .slice none 0 0, .slice none 0 0] 27))); simpa only [World.size_alloc] using h5
  have bxr : BK w0 (w.heap.size + 1 + 1) 27 #[.bool false, .slice none 0 0, .slice none 0 0] := by rw [hw0]; have h5 := (BK.new ((w.alloc (.cells #[.bool s1, .slice A1 L1 c1, .slice B1 M1 d1, .bool s2, .slice A2 L2 c2, .slice B2 M2 d2] 29)).alloc (.cells #[.bool s3, .slice A3 L3 c3, .slice B3 M3 d3] 27)) #[.bool false, .slice none 0 0, .slice none 0 0] 27); simpa only [World.size_alloc] using h5
  have hszw0 : w0.heap.size = w.heap.size + 1 + 1 + 1 := by rw [hw0]; simp only [World.size_alloc]
  have xw0 : Ext w w0 := by rw [hw0]; exact (((Ext.alloc _ _).trans (Ext.alloc _ _)).trans (Ext.alloc _ _))
  clear hw0
  refine (inormal_r (h1.ext (by repeat' (first | with_reducible exact Ext.refl _ | with_reducible assumption | with_reducible apply Ext.alloc_r | with_reducible apply Ext.drew_r | with_reducible apply Ext.drewN_r | with_reducible refine Ext.trans ?_ ‹Ext _ _›))) (h2.ext (by repeat' (first | with_reducible exact Ext.refl _ | with_reducible assumption | with_reducible apply Ext.alloc_r | with_reducible apply Ext.drew_r | with_reducible apply Ext.drewN_r | with_reducible refine Ext.trans ?_ ‹Ext _ _›))) hN).mono ?_
  rintro e w1 ⟨spa, Apa, cpa, Lpa, Bpa, dpa, Mpa, spb, Apb, cpb, Lpb, Bpb, dpb, Mpb, rfl, pa, pb, x1⟩
  have szw1 : w0.heap.size ≤ w1.heap.size := x1.size
  replace bxi := bxi.ext x1
  replace bxa := bxa.ext x1
  replace bxr := bxr.ext x1
  have HP := Lib.hid (And.intro pa pb)
  clear pa pb
  have ki_0 := bxi.c 0 (.bool s1) rfl
  have ki_1 := bxi.c 1 (.slice A1 L1 c1) rfl
  have ki_2 := bxi.c 2 (.slice B1 M1 d1) rfl
  have ki_3 := bxi.c 3 (.bool s2) rfl
  have ki_4 := bxi.c 4 (.slice A2 L2 c2) rfl
  have ki_5 := bxi.c 5 (.slice B2 M2 d2) rfl
  have ka_0 := bxa.c 0 (.bool s3) rfl
  have ka_1 := bxa.c 1 (.slice A3 L3 c3) rfl
  have ka_2 := bxa.c 2 (.slice B3 M3 d3) rfl
  have kr_0 := bxr.c 0 (.bool false) rfl
  have kr_1 := bxr.c 1 (.slice none 0 0) rfl
  have kr_2 := bxr.c 2 (.slice none 0 0) rfl
  have t1i_0 := fun (o0 : Obj) => ((Ext.alloc w1 o0).cell (bxi.c 0 (.bool s1) rfl))
  have t1i_1 := fun (o0 : Obj) => ((Ext.alloc w1 o0).cell (bxi.c 1 (.slice A1 L1 c1) rfl))
  have t1i_2 := fun (o0 : Obj) => ((Ext.alloc w1 o0).cell (bxi.c 2 (.slice B1 M1 d1) rfl))
  have t1i_3 := fun (o0 : Obj) => ((Ext.alloc w1 o0).cell (bxi.c 3 (.bool s2) rfl))
  have t1i_4 := fun (o0 : Obj) => ((Ext.alloc w1 o0).cell (bxi.c 4 (.slice A2 L2 c2) rfl))
  have t1i_5 := fun (o0 : Obj) => ((Ext.alloc w1 o0).cell (bxi.c 5 (.slice B2 M2 d2) rfl))
  have t1a_0 := fun (o0 : Obj) => ((Ext.alloc w1 o0).cell (bxa.c 0 (.bool s3) rfl))
  have t1a_1 := fun (o0 : Obj) => ((Ext.alloc w1 o0).cell (bxa.c 1 (.slice A3 L3 c3) rfl))
  have t1a_2 := fun (o0 : Obj) => ((Ext.alloc w1 o0).cell (bxa.c 2 (.slice B3 M3 d3) rfl))
  have t1r_0 := fun (o0 : Obj) => ((Ext.alloc w1 o0).cell (bxr.c 0 (.bool false) rfl))
  have t1r_1 := fun (o0 : Obj) => ((Ext.alloc w1 o0).cell (bxr.c 1 (.slice none 0 0) rfl))
  have t1r_2 := fun (o0 : Obj) => ((Ext.alloc w1 o0).cell (bxr.c 2 (.slice none 0 0) rfl))
  go_wp2_with fail
  clear ki_0 ki_1 ki_2 ki_3 ki_4 ki_5 ka_0 ka_1 ka_2 kr_0 kr_1 kr_2 t1i_0 t1i_1 t1i_2 t1i_3 t1i_4 t1i_5 t1a_0 t1a_1 t1a_2 t1r_0 t1r_1 t1r_2
  obtain ⟨w2, hw⟩ : ∃ z : World, z = (w1.alloc (.cells #[.bool spa, .slice Apa Lpa cpa, .slice Bpa Mpa dpa, .bool spb, .slice Apb Lpb cpb, .slice Bpb Mpb dpb] 29)) := ⟨_, rfl⟩
  rw [← hw]
  have x2 : Ext w1 w2 := by rw [hw]; exact (Ext.alloc _ _)
  replace bxi := bxi.ext x2
  replace bxa := bxa.ext x2
  replace bxr := bxr.ext x2
  have bxn : BK w2 (w1.heap.size) 29 #[.bool spa, .slice Apa Lpa cpa, .slice Bpa Mpa dpa, .bool spb, .slice Apb Lpb cpb, .slice Bpb Mpb dpb] := by rw [hw]; have h5 := (BK.new w1 #[.bool spa, .slice Apa Lpa cpa, .slice Bpa Mpa dpa, .bool spb, .slice Apb Lpb cpb, .slice Bpb Mpb dpb] 29); simpa only [World.size_alloc] using h5
  have szw2 : w2.heap.size = w1.heap.size + 1 := by rw [hw]; simp only [World.size_alloc]
  clear hw
  refine (rcmp_k (h3.ext (by repeat' (first | with_reducible exact Ext.refl _ | with_reducible assumption | with_reducible apply Ext.alloc_r | with_reducible apply Ext.drew_r | with_reducible apply Ext.drewN_r | with_reducible refine Ext.trans ?_ ‹Ext _ _›))) (HP.out.1.rv.ext (by repeat' (first | with_reducible exact Ext.refl _ | with_reducible assumption | with_reducible apply Ext.alloc_r | with_reducible apply Ext.drew_r | with_reducible apply Ext.drewN_r | with_reducible refine Ext.trans ?_ ‹Ext _ _›))) hN HK.out).mono ?_
  rintro e w3 ⟨rfl, x3⟩
  have szw3 : w2.heap.size ≤ w3.heap.size := x3.size
  replace bxi := bxi.ext x3
  replace bxa := bxa.ext x3
  replace bxr := bxr.ext x3
  replace bxn := bxn.ext x3
  have ki_0 := bxi.c 0 (.bool s1) rfl
  have ki_1 := bxi.c 1 (.slice A1 L1 c1) rfl
  have ki_2 := bxi.c 2 (.slice B1 M1 d1) rfl
  have ki_3 := bxi.c 3 (.bool s2) rfl
  have ki_4 := bxi.c 4 (.slice A2 L2 c2) rfl
  have ki_5 := bxi.c 5 (.slice B2 M2 d2) rfl
  have ka_0 := bxa.c 0 (.bool s3) rfl
  have ka_1 := bxa.c 1 (.slice A3 L3 c3) rfl
  have ka_2 := bxa.c 2 (.slice B3 M3 d3) rfl
  have kr_0 := bxr.c 0 (.bool false) rfl
  have kr_1 := bxr.c 1 (.slice none 0 0) rfl
  have kr_2 := bxr.c 2 (.slice none 0 0) rfl
  have kn_0 := bxn.c 0 (.bool spa) rfl
  have kn_1 := bxn.c 1 (.slice Apa Lpa cpa) rfl
  have kn_2 := bxn.c 2 (.slice Bpa Mpa dpa) rfl
  have kn_3 := bxn.c 3 (.bool spb) rfl
  have kn_4 := bxn.c 4 (.slice Apb Lpb cpb) rfl
  have kn_5 := bxn.c 5 (.slice Bpb Mpb dpb) rfl
  go_wp2_with fail
  clear ki_0 ki_1 ki_2 ki_3 ki_4 ki_5 ka_0 ka_1 ka_2 kr_0 kr_1 kr_2 kn_0 kn_1 kn_2 kn_3 kn_4 kn_5
  refine (rcmp_k (h3.ext (by repeat' (first | with_reducible exact Ext.refl _ | with_reducible assumption | with_reducible apply Ext.alloc_r | with_reducible apply Ext.drew_r | with_reducible apply Ext.drewN_r | with_reducible refine Ext.trans ?_ ‹Ext _ _›))) (HP.out.2.rv.ext (by repeat' (first | with_reducible exact Ext.refl _ | with_reducible assumption | with_reducible apply Ext.alloc_r | with_reducible apply Ext.drew_r | with_reducible apply Ext.drewN_r | with_reducible refine Ext.trans ?_ ‹Ext _ _›))) hN HJ.out).mono ?_
  rintro e w4 ⟨rfl, x4⟩
  have szw4 : w3.heap.size ≤ w4.heap.size := x4.size
  replace bxi := bxi.ext x4
  replace bxa := bxa.ext x4
  replace bxr := bxr.ext x4
  replace bxn := bxn.ext x4
  have ki_0 := bxi.c 0 (.bool s1) rfl
  have ki_1 := bxi.c 1 (.slice A1 L1 c1) rfl
  have ki_2 := bxi.c 2 (.slice B1 M1 d1) rfl
  have ki_3 := bxi.c 3 (.bool s2) rfl
  have ki_4 := bxi.c 4 (.slice A2 L2 c2) rfl
  have ki_5 := bxi.c 5 (.slice B2 M2 d2) rfl
  have ka_0 := bxa.c 0 (.bool s3) rfl
  have ka_1 := bxa.c 1 (.slice A3 L3 c3) rfl
  have ka_2 := bxa.c 2 (.slice B3 M3 d3) rfl
  have kr_0 := bxr.c 0 (.bool false) rfl
  have fr_0 := bxr.f 0
  have kr_1 := bxr.c 1 (.slice none 0 0) rfl
  have fr_1 := bxr.f 1
  have kr_2 := bxr.c 2 (.slice none 0 0) rfl
  have fr_2 := bxr.f 2
  have kn_0 := bxn.c 0 (.bool spa) rfl
  have kn_1 := bxn.c 1 (.slice Apa Lpa cpa) rfl
  have kn_2 := bxn.c 2 (.slice Bpa Mpa dpa) rfl
  have kn_3 := bxn.c 3 (.bool spb) rfl
  have kn_4 := bxn.c 4 (.slice Apb Lpb cpb) rfl
  have kn_5 := bxn.c 5 (.slice Bpb Mpb dpb) rfl
  go_wp2_with fail
  clear ki_0 ki_1 ki_2 ki_3 ki_4 ki_5 ka_0 ka_1 ka_2 kr_0 fr_0 kr_1 fr_1 kr_2 fr_2 kn_0 kn_1 kn_2 kn_3 kn_4 kn_5
  have HR2 := HP.out.2
  obtain ⟨w5, hw⟩ : ∃ z : World, z = (((w4.setCell ⟨w.heap.size + 1 + 1, 0, none⟩ (.bool spb)).setCell ⟨w.heap.size + 1 + 1, 1, none⟩ (.slice Apb Lpb cpb)).setCell ⟨w.heap.size + 1 + 1, 2, none⟩ (.slice Bpb Mpb dpb)) := ⟨_, rfl⟩
  rw [← hw]
  have kw5 : Kept w4 w5 := by rw [hw]; exact (Kept.set_ (Kept.set_ (Kept.set_ (Kept.refl _) bxr.isBox plain_rat) (IsBox.set_ bxr.isBox) plain_rat) (IsBox.set_ (IsBox.set_ bxr.isBox)) plain_rat)
  have nbi : BK w5 (w.heap.size) 29 #[.bool s1, .slice A1 L1 c1, .slice B1 M1 d1, .bool s2, .slice A2 L2 c2, .slice B2 M2 d2] := by rw [hw]; exact (BK.far (BK.far (BK.far bxi (show w.heap.size ≠ w.heap.size + 1 + 1 by omega) 0 _) (show w.heap.size ≠ w.heap.size + 1 + 1 by omega) 1 _) (show w.heap.size ≠ w.heap.size + 1 + 1 by omega) 2 _)
  have nba : BK w5 (w.heap.size + 1) 27 #[.bool s3, .slice A3 L3 c3, .slice B3 M3 d3] := by rw [hw]; exact (BK.far (BK.far (BK.far bxa (show w.heap.size + 1 ≠ w.heap.size + 1 + 1 by omega) 0 _) (show w.heap.size + 1 ≠ w.heap.size + 1 + 1 by omega) 1 _) (show w.heap.size + 1 ≠ w.heap.size + 1 + 1 by omega) 2 _)
  have nbr : BK w5 (w.heap.size + 1 + 1) 27 #[.bool spb, .slice Apb Lpb cpb, .slice Bpb Mpb dpb] := by rw [hw]; exact (BK.set (i := 2) (u := .slice Bpb Mpb dpb) (vs' := #[.bool spb, .slice Apb Lpb cpb, .slice Bpb Mpb dpb]) (BK.set (i := 1) (u := .slice Apb Lpb cpb) (vs' := #[.bool spb, .slice Apb Lpb cpb, .slice none 0 0]) (BK.set (i := 0) (u := .bool spb) (vs' := #[.bool spb, .slice none 0 0, .slice none 0 0]) bxr rfl) rfl) rfl)
  have nbn : BK w5 (w1.heap.size) 29 #[.bool spa, .slice Apa Lpa cpa, .slice Bpa Mpa dpa, .bool spb, .slice Apb Lpb cpb, .slice Bpb Mpb dpb] := by rw [hw]; exact (BK.far (BK.far (BK.far bxn (show w1.heap.size ≠ w.heap.size + 1 + 1 by omega) 0 _) (show w1.heap.size ≠ w.heap.size + 1 + 1 by omega) 1 _) (show w1.heap.size ≠ w.heap.size + 1 + 1 by omega) 2 _)
  have x5 : Ext w w5 := by rw [hw]; have hxp : Ext w w4 := (by repeat' (first | with_reducible exact Ext.refl _ | with_reducible assumption | with_reducible apply Ext.alloc_r | with_reducible apply Ext.drew_r | with_reducible apply Ext.drewN_r | with_reducible refine Ext.trans ?_ ‹Ext _ _›)); exact (Ext.set_ (Ext.set_ (Ext.set_ hxp (show _ ≤ w.heap.size + 1 + 1 by omega)) (show _ ≤ w.heap.size + 1 + 1 by omega)) (show _ ≤ w.heap.size + 1 + 1 by omega))
  clear bxi
  clear bxa
  clear bxr
  clear bxn
  have bxi := nbi
  clear nbi
  have bxa := nba
  clear nba
  have bxr := nbr
  clear nbr
  have bxn := nbn
  clear nbn
  have szw5 : w5.heap.size = w4.heap.size := by rw [hw]; simp
  replace HR2 := (HR2.ext (by repeat' (first | with_reducible exact Ext.refl _ | with_reducible assumption | with_reducible apply Ext.alloc_r | with_reducible apply Ext.drew_r | with_reducible apply Ext.drewN_r | with_reducible refine Ext.trans ?_ ‹Ext _ _›))).kept kw5
  clear hw kw5
  have HR := Lib.hid HR2
  clear HR2
  have kr_0 := bxr.c 0 (.bool spb) rfl
  have kr_1 := bxr.c 1 (.slice Apb Lpb cpb) rfl
  have kr_2 := bxr.c 2 (.slice Bpb Mpb dpb) rfl
  refine bodyPost_ret (v := .agg #[Value.bool spb, Value.slice Apb Lpb cpb, Value.slice Bpb Mpb dpb]) (by simp [results, Try.results9, go_sem, kr_0, kr_1, kr_2]) rfl ?_
  exact ⟨_, _, _, _, _, _, _, rfl, by rw [HC.out]; exact HR.out.rv, x5⟩
set_option maxHeartbeats 4000000 in
set_option maxRecDepth 100000 in
theorem clamp_mid {w : World} {N : Nat} {s1 s2 s3 : Bool} {A1 B1 A2 B2 A3 B3 : Option Addr} {c1 d1 L1 M1 c2 d2 L2 M2 c3 d3 L3 M3 : Nat} {q1 q2 q3 : Rat} (h1 : RV w s1 A1 c1 L1 B1 d1 M1 N q1) (h2 : RV w s2 A2 c2 L2 B2 d2 M2 N q2) (h3 : RV w s3 A3 c3 L3 B3 d3 M3 N q3) (hN : N < 48) (hq : ¬ q3 < minQ q1 q2) (hr : ¬ maxQ q1 q2 < q3) :
    Calls Try.prog 9 #[Value.agg #[Value.bool s1, Value.slice A1 L1 c1, Value.slice B1 M1 d1, Value.bool s2, Value.slice A2 L2 c2, Value.slice B2 M2 d2], Value.agg #[Value.bool s3, Value.slice A3 L3 c3, Value.slice B3 M3 d3]] w (RetV w N (clampQ q1 q2 q3)) := by
  have HC : Hid (clampQ q1 q2 q3 = q3) := by show _ = _; unfold clampQ; rw [if_neg hq, if_neg hr]
  obtain ⟨K, hK⟩ : ∃ K : Int, K = cmpQ q3 (minQ q1 q2) := ⟨_, rfl⟩
  have hk : ¬ K < 0 := by rw [hK]; exact fun h => hq ((cmpQ_lt _ _).1 h)
  have HK := Lib.hid hK.symm
  clear hK hq
  obtain ⟨J, hJ⟩ : ∃ J : Int, J = cmpQ q3 (maxQ q1 q2) := ⟨_, rfl⟩
  have hj : ¬ J > 0 := by rw [hJ]; exact fun h => hr ((cmpQ_gt _ _).1 h)
  have HJ := Lib.hid hJ.symm
  clear hJ hr
  go_enter Try.func9, Try.ntmps9
  go_wp2_with fail
  obtain ⟨w0, hw0⟩ : ∃ z : World, z = (((w.alloc (.cells #[.bool s1, .slice A1 L1 c1, .slice B1 M1 d1, .bool s2, .slice A2 L2 c2, .slice B2 M2 d2] 29)).alloc (.cells #[.bool s3, .slice A3 L3 c3, .slice B3 M3 d3] 27)).alloc (.cells #[.bool false, .slice none 0 0, .slice none 0 0] 27)) := ⟨_, rfl⟩
  rw [← hw0]
  have bxi : BK w0 (w.heap.size) 29 #[.bool s1, .slice A1 L1 c1, .slice B1 M1 d1, .bool s2, .slice A2 L2 c2, .slice B2 M2 d2] := by rw [hw0]; have h5 := (BK.ext (BK.ext (BK.new w #[.bool s1, .slice A1 L1 c1, .slice B1 M1 d1, .bool s2, .slice A2 L2 c2, .slice B2 M2 d2] 29) (Ext.alloc _ (.cells #[.bool s3, .slice A3 L3 c3, .slice B3 M3 d3] 27))) (Ext.alloc _ (.cells #[.bool false, .slice none 0 0, .slice none 0 0] 27))); simpa only [World.size_alloc] using h5
  have bxa : BK w0 (w.heap.size + 1) 27 #[.bool s3, .slice A3 L3 c3, .slice B3 M3 d3] := by rw [hw0]; have h5 := (BK.ext (BK.new (w.alloc (.cells #[.bool s1, .slice A1 L1 c1, .slice B1 M1 d1, .bool s2, .slice A2 L2 c2, .slice B2 M2 d2] 29)) #[.bool s3, .slice A3 L3 c3, .slice B3 M3 d3] 27) (Ext.alloc _ (.cells #[.bool false, .slice none 0 0, .slice none 0 0] 27))); simpa only [World.size_alloc] using h5
  have bxr : BK w0 (w.heap.size + 1 + 1) 27 #[.bool false, .slice none 0 0, .slice none 0 0] := by rw [hw0]; have h5 := (BK.new ((w.alloc (.cells #[.bool s1, .slice A1 L1 c1, .slice B1 M1 d1, .bool s2, .slice A2 L2 c2, .slice B2 M2 d2] 29)).alloc (.cells #[.bool s3, .slice A3 L3 c3, .slice B3 M3 d3] 27)) #[.bool false, .slice none 0 0, .slice none 0 0] 27); simpa only [World.size_alloc] using h5
  have hszw0 : w0.heap.size = w.heap.size + 1 + 1 + 1 := by rw [hw0]; simp only [World.size_alloc]
  have xw0 : Ext w w0 := by rw [hw0]; exact (((Ext.alloc _ _).trans (Ext.alloc _ _)).trans (Ext.alloc _ _))
  clear hw0
  refine (inormal_r (h1.ext (by repeat' (first | with_reducible exact Ext.refl _ | with_reducible assumption | with_reducible apply Ext.alloc_r | with_reducible apply Ext.drew_r | with_reducible apply Ext.drewN_r | with_reducible refine Ext.trans ?_ ‹Ext _ _›))) (h2.ext (by repeat' (first | with_reducible exact Ext.refl _ | with_reducible assumption | with_reducible apply Ext.alloc_r | with_reducible apply Ext.drew_r | with_reducible apply Ext.drewN_r | with_reducible refine Ext.trans ?_ ‹Ext _ _›))) hN).mono ?_
  rintro e w1 ⟨spa, Apa, cpa, Lpa, Bpa, dpa, Mpa, spb, Apb, cpb, Lpb, Bpb, dpb, Mpb, rfl, pa, pb, x1⟩
  have szw1 : w0.heap.size ≤ w1.heap.size := x1.size
  replace bxi := bxi.ext x1
  replace bxa := bxa.ext x1
  replace bxr := bxr.ext x1
  have HP := Lib.hid (And.intro pa pb)
  clear pa pb
  have ki_0 := bxi.c 0 (.bool s1) rfl
  have ki_1 := bxi.c 1 (.slice A1 L1 c1) rfl
  have ki_2 := bxi.c 2 (.slice B1 M1 d1) rfl
  have ki_3 := bxi.c 3 (.bool s2) rfl
  have ki_4 := bxi.c 4 (.slice A2 L2 c2) rfl
  have ki_5 := bxi.c 5 (.slice B2 M2 d2) rfl
  have ka_0 := bxa.c 0 (.bool s3) rfl
  have ka_1 := bxa.c 1 (.slice A3 L3 c3) rfl
  have ka_2 := bxa.c 2 (.slice B3 M3 d3) rfl
  have kr_0 := bxr.c 0 (.bool false) rfl
  have kr_1 := bxr.c 1 (.slice none 0 0) rfl
  have kr_2 := bxr.c 2 (.slice none 0 0) rfl
  have t1i_0 := fun (o0 : Obj) => ((Ext.alloc w1 o0).cell (bxi.c 0 (.bool s1) rfl))
  have t1i_1 := fun (o0 : Obj) => ((Ext.alloc w1 o0).cell (bxi.c 1 (.slice A1 L1 c1) rfl))
  have t1i_2 := fun (o0 : Obj) => ((Ext.alloc w1 o0).cell (bxi.c 2 (.slice B1 M1 d1) rfl))
  have t1i_3 := fun (o0 : Obj) => ((Ext.alloc w1 o0).cell (bxi.c 3 (.bool s2) rfl))
  have t1i_4 := fun (o0 : Obj) => ((Ext.alloc w1 o0).cell (bxi.c 4 (.slice A2 L2 c2) rfl))
  have t1i_5 := fun (o0 : Obj) => ((Ext.alloc w1 o0).cell (bxi.c 5 (.slice B2 M2 d2) rfl))
  have t1a_0 := fun (o0 : Obj) => ((Ext.alloc w1 o0).cell (bxa.c 0 (.bool s3) rfl))
  have t1a_1 := fun (o0 : Obj) => ((Ext.alloc w1 o0).cell (bxa.c 1 (.slice A3 L3 c3) rfl))
  have t1a_2 := fun (o0 : Obj) => ((Ext.alloc w1 o0).cell (bxa.c 2 (.slice B3 M3 d3) rfl))
  have t1r_0 := fun (o0 : Obj) => ((Ext.alloc w1 o0).cell (bxr.c 0 (.bool false) rfl))
  have t1r_1 := fun (o0 : Obj) => ((Ext.alloc w1 o0).cell (bxr.c 1 (.slice none 0 0) rfl))
  have t1r_2 := fun (o0 : Obj) => ((Ext.alloc w1 o0).cell (bxr.c 2 (.slice none 0 0) rfl))
  go_wp2_with fail
  clear ki_0 ki_1 ki_2 ki_3 ki_4 ki_5 ka_0 ka_1 ka_2 kr_0 kr_1 kr_2 t1i_0 t1i_1 t1i_2 t1i_3 t1i_4 t1i_5 t1a_0 t1a_1 t1a_2 t1r_0 t1r_1 t1r_2
  obtain ⟨w2, hw⟩ : ∃ z : World, z = (w1.alloc (.cells #[.bool spa, .slice Apa Lpa cpa, .slice Bpa Mpa dpa, .bool spb, .slice Apb Lpb cpb, .slice Bpb Mpb dpb] 29)) := ⟨_, rfl⟩
  rw [← hw]
  have x2 : Ext w1 w2 := by rw [hw]; exact (Ext.alloc _ _)
  replace bxi := bxi.ext x2
  replace bxa := bxa.ext x2
  replace bxr := bxr.ext x2
  have bxn : BK w2 (w1.heap.size) 29 #[.bool spa, .slice Apa Lpa cpa, .slice Bpa Mpa dpa, .bool spb, .slice Apb Lpb cpb, .slice Bpb Mpb dpb] := by rw [hw]; have h5 := (BK.new w1 #[.bool spa, .slice Apa Lpa cpa, .slice Bpa Mpa dpa, .bool spb, .slice Apb Lpb cpb, .slice Bpb Mpb dpb] 29); simpa only [World.size_alloc] using h5
  have szw2 : w2.heap.size = w1.heap.size + 1 := by rw [hw]; simp only [World.size_alloc]
  clear hw
  refine (rcmp_k (h3.ext (by repeat' (first | with_reducible exact Ext.refl _ | with_reducible assumption | with_reducible apply Ext.alloc_r | with_reducible apply Ext.drew_r | with_reducible apply Ext.drewN_r | with_reducible refine Ext.trans ?_ ‹Ext _ _›))) (HP.out.1.rv.ext (by repeat' (first | with_reducible exact Ext.refl _ | with_reducible assumption | with_reducible apply Ext.alloc_r | with_reducible apply Ext.drew_r | with_reducible apply Ext.drewN_r | with_reducible refine Ext.trans ?_ ‹Ext _ _›))) hN HK.out).mono ?_
  rintro e w3 ⟨rfl, x3⟩
  have szw3 : w2.heap.size ≤ w3.heap.size := x3.size
  replace bxi := bxi.ext x3
  replace bxa := bxa.ext x3
  replace bxr := bxr.ext x3
  replace bxn := bxn.ext x3
  have ki_0 := bxi.c 0 (.bool s1) rfl
  have ki_1 := bxi.c 1 (.slice A1 L1 c1) rfl
  have ki_2 := bxi.c 2 (.slice B1 M1 d1) rfl
  have ki_3 := bxi.c 3 (.bool s2) rfl
  have ki_4 := bxi.c 4 (.slice A2 L2 c2) rfl
  have ki_5 := bxi.c 5 (.slice B2 M2 d2) rfl
  have ka_0 := bxa.c 0 (.bool s3) rfl
  have ka_1 := bxa.c 1 (.slice A3 L3 c3) rfl
  have ka_2 := bxa.c 2 (.slice B3 M3 d3) rfl
  have kr_0 := bxr.c 0 (.bool false) rfl
  have kr_1 := bxr.c 1 (.slice none 0 0) rfl
  have kr_2 := bxr.c 2 (.slice none 0 0) rfl
  have kn_0 := bxn.c 0 (.bool spa) rfl
  have kn_1 := bxn.c 1 (.slice Apa Lpa cpa) rfl
  have kn_2 := bxn.c 2 (.slice Bpa Mpa dpa) rfl
  have kn_3 := bxn.c 3 (.bool spb) rfl
  have kn_4 := bxn.c 4 (.slice Apb Lpb cpb) rfl
  have kn_5 := bxn.c 5 (.slice Bpb Mpb dpb) rfl
  go_wp2_with fail
  clear ki_0 ki_1 ki_2 ki_3 ki_4 ki_5 ka_0 ka_1 ka_2 kr_0 kr_1 kr_2 kn_0 kn_1 kn_2 kn_3 kn_4 kn_5
  refine (rcmp_k (h3.ext (by repeat' (first | with_reducible exact Ext.refl _ | with_reducible assumption | with_reducible apply Ext.alloc_r | with_reducible apply Ext.drew_r | with_reducible apply Ext.drewN_r | with_reducible refine Ext.trans ?_ ‹Ext _ _›))) (HP.out.2.rv.ext (by repeat' (first | with_reducible exact Ext.refl _ | with_reducible assumption | with_reducible apply Ext.alloc_r | with_reducible apply Ext.drew_r | with_reducible apply Ext.drewN_r | with_reducible refine Ext.trans ?_ ‹Ext _ _›))) hN HJ.out).mono ?_
  rintro e w4 ⟨rfl, x4⟩
  have szw4 : w3.heap.size ≤ w4.heap.size := x4.size
  replace bxi := bxi.ext x4
  replace bxa := bxa.ext x4
  replace bxr := bxr.ext x4
  replace bxn := bxn.ext x4
  have ki_0 := bxi.c 0 (.bool s1) rfl
  have ki_1 := bxi.c 1 (.slice A1 L1 c1) rfl
  have ki_2 := bxi.c 2 (.slice B1 M1 d1) rfl
  have ki_3 := bxi.c 3 (.bool s2) rfl
  have ki_4 := bxi.c 4 (.slice A2 L2 c2) rfl
  have ki_5 := bxi.c 5 (.slice B2 M2 d2) rfl
  have ka_0 := bxa.c 0 (.bool s3) rfl
  have ka_1 := bxa.c 1 (.slice A3 L3 c3) rfl
  have ka_2 := bxa.c 2 (.slice B3 M3 d3) rfl
  have kr_0 := bxr.c 0 (.bool false) rfl
  have fr_0 := bxr.f 0
  have kr_1 := bxr.c 1 (.slice none 0 0) rfl
  have fr_1 := bxr.f 1
  have kr_2 := bxr.c 2 (.slice none 0 0) rfl
  have fr_2 := bxr.f 2
  have kn_0 := bxn.c 0 (.bool spa) rfl
  have kn_1 := bxn.c 1 (.slice Apa Lpa cpa) rfl
  have kn_2 := bxn.c 2 (.slice Bpa Mpa dpa) rfl
  have kn_3 := bxn.c 3 (.bool spb) rfl
  have kn_4 := bxn.c 4 (.slice Apb Lpb cpb) rfl
  have kn_5 := bxn.c 5 (.slice Bpb Mpb dpb) rfl
  go_wp2_with fail
  clear ki_0 ki_1 ki_2 ki_3 ki_4 ki_5 ka_0 ka_1 ka_2 kr_0 fr_0 kr_1 fr_1 kr_2 fr_2 kn_0 kn_1 kn_2 kn_3 kn_4 kn_5
  obtain ⟨w5, hw⟩ : ∃ z : World, z = (((w4.setCell ⟨w.heap.size + 1 + 1, 0, none⟩ (.bool s3)).setCell ⟨w.heap.size + 1 + 1, 1, none⟩ (.slice A3 L3 c3)).setCell ⟨w.heap.size + 1 + 1, 2, none⟩ (.slice B3 M3 d3)) := ⟨_, rfl⟩
  rw [← hw]
  have kw5 : Kept w4 w5 := by rw [hw]; exact (Kept.set_ (Kept.set_ (Kept.set_ (Kept.refl _) bxr.isBox plain_rat) (IsBox.set_ bxr.isBox) plain_rat) (IsBox.set_ (IsBox.set_ bxr.isBox)) plain_rat)
  have nbi : BK w5 (w.heap.size) 29 #[.bool s1, .slice A1 L1 c1, .slice B1 M1 d1, .bool s2, .slice A2 L2 c2, .slice B2 M2 d2] := by rw [hw]; exact (BK.far (BK.far (BK.far bxi (show w.heap.size ≠ w.heap.size + 1 + 1 by omega) 0 _) (show w.heap.size ≠ w.heap.size + 1 + 1 by omega) 1 _) (show w.heap.size ≠ w.heap.size + 1 + 1 by omega) 2 _)
  have nba : BK w5 (w.heap.size + 1) 27 #[.bool s3, .slice A3 L3 c3, .slice B3 M3 d3] := by rw [hw]; exact (BK.far (BK.far (BK.far bxa (show w.heap.size + 1 ≠ w.heap.size + 1 + 1 by omega) 0 _) (show w.heap.size + 1 ≠ w.heap.size + 1 + 1 by omega) 1 _) (show w.heap.size + 1 ≠ w.heap.size + 1 + 1 by omega) 2 _)
  have nbr : BK w5 (w.heap.size + 1 + 1) 27 #[.bool s3, .slice A3 L3 c3, .slice B3 M3 d3] := by rw [hw]; exact (BK.set (i := 2) (u := .slice B3 M3 d3) (vs' := #[.bool s3, .slice A3 L3 c3, .slice B3 M3 d3]) (BK.set (i := 1) (u := .slice A3 L3 c3) (vs' := #[.bool s3, .slice A3 L3 c3, .slice none 0 0]) (BK.set (i := 0) (u := .bool s3) (vs' := #[.bool s3, .slice none 0 0, .slice none 0 0]) bxr rfl) rfl) rfl)
  have nbn : BK w5 (w1.heap.size) 29 #[.bool spa, .slice Apa Lpa cpa, .slice Bpa Mpa dpa, .bool spb, .slice Apb Lpb cpb, .slice Bpb Mpb dpb] := by rw [hw]; exact (BK.far (BK.far (BK.far bxn (show w1.heap.size ≠ w.heap.size + 1 + 1 by omega) 0 _) (show w1.heap.size ≠ w.heap.size + 1 + 1 by omega) 1 _) (show w1.heap.size ≠ w.heap.size + 1 + 1 by omega) 2 _)
  have x5 : Ext w w5 := by rw [hw]; have hxp : Ext w w4 := (by repeat' (first | with_reducible exact Ext.refl _ | with_reducible assumption | with_reducible apply Ext.alloc_r | with_reducible apply Ext.drew_r | with_reducible apply Ext.drewN_r | with_reducible refine Ext.trans ?_ ‹Ext _ _›)); exact (Ext.set_ (Ext.set_ (Ext.set_ hxp (show _ ≤ w.heap.size + 1 + 1 by omega)) (show _ ≤ w.heap.size + 1 + 1 by omega)) (show _ ≤ w.heap.size + 1 + 1 by omega))
  clear bxi
  clear bxa
  clear bxr
  clear bxn
  have bxi := nbi
  clear nbi
  have bxa := nba
  clear nba
  have bxr := nbr
  clear nbr
  have bxn := nbn
  clear nbn
  have szw5 : w5.heap.size = w4.heap.size := by rw [hw]; simp
  clear hw kw5
  have kr_0 := bxr.c 0 (.bool s3) rfl
  have kr_1 := bxr.c 1 (.slice A3 L3 c3) rfl
  have kr_2 := bxr.c 2 (.slice B3 M3 d3) rfl
  refine bodyPost_ret (v := .agg #[Value.bool s3, Value.slice A3 L3 c3, Value.slice B3 M3 d3]) (by simp [results, Try.results9, go_sem, kr_0, kr_1, kr_2]) rfl ?_
  exact ⟨_, _, _, _, _, _, _, rfl, by rw [HC.out]; exact h3.ext x5, x5⟩
theorem clamp_r {w : World} {N : Nat} {s1 s2 s3 : Bool} {A1 B1 A2 B2 A3 B3 : Option Addr} {c1 d1 L1 M1 c2 d2 L2 M2 c3 d3 L3 M3 : Nat} {q1 q2 q3 : Rat} (h1 : RV w s1 A1 c1 L1 B1 d1 M1 N q1) (h2 : RV w s2 A2 c2 L2 B2 d2 M2 N q2) (h3 : RV w s3 A3 c3 L3 B3 d3 M3 N q3) (hN : N < 48) :
    Calls Try.prog 9 #[Value.agg #[Value.bool s1, Value.slice A1 L1 c1, Value.slice B1 M1 d1, Value.bool s2, Value.slice A2 L2 c2, Value.slice B2 M2 d2], Value.agg #[Value.bool s3, Value.slice A3 L3 c3, Value.slice B3 M3 d3]] w (RetV w N (clampQ q1 q2 q3)) := by
  by_cases hq : q3 < minQ q1 q2
  · exact clamp_lo h1 h2 h3 hN hq
  · by_cases hr : maxQ q1 q2 < q3
    · exact clamp_hi h1 h2 h3 hN hq hr
    · exact clamp_mid h1 h2 h3 hN hq hr
end Go.Proofs.Ytehhkeenjlpikaa
