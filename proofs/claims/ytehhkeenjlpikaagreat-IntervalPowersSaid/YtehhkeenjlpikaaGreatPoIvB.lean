import Derived.Test.YtehhkeenjlpikaaGreatPoIvA
import Derived.Deep.RegionHeldLaw
import Derived.Deep.LoopGhost
import Derived.Deep.QuietTactic
import Derived.BigQuiet
namespace Go.Proofs.YtehhkeenjlpikaaGreat
open Go.RowKit
set_option maxHeartbeats 4000000 in
set_option maxRecDepth 100000 in
theorem inormal_r {w : World} {N : Nat} {s1 s2 : Bool} {A1 B1 A2 B2 : Option Addr} {c1 d1 L1 M1 c2 d2 L2 M2 : Nat} {q1 q2 : Rat} (h1 : RV w s1 A1 c1 L1 B1 d1 M1 N q1) (h2 : RV w s2 A2 c2 L2 B2 d2 M2 N q2) (hN : N < 48) :
    Calls Tryz.prog 34 #[Value.agg #[Value.bool s1, Value.slice A1 L1 c1, Value.slice B1 M1 d1, Value.bool s2, Value.slice A2 L2 c2, Value.slice B2 M2 d2]] w (RetI w N (minQ q1 q2) (maxQ q1 q2)) := by
  go_enter Tryz.func34, Tryz.ntmps34
  go_wp2_with fail
  obtain ⟨w0, hw0⟩ : ∃ z : World, z = ((w.alloc (.cells #[.bool s1, .slice A1 L1 c1, .slice B1 M1 d1, .bool s2, .slice A2 L2 c2, .slice B2 M2 d2] 29)).alloc (.cells #[.bool false, .slice none 0 0, .slice none 0 0, .bool false, .slice none 0 0, .slice none 0 0] 29)) := ⟨_, rfl⟩
  rw [← hw0]
  have bxi : BK w0 (w.heap.size) 29 #[.bool s1, .slice A1 L1 c1, .slice B1 M1 d1, .bool s2, .slice A2 L2 c2, .slice B2 M2 d2] := by rw [hw0]; have h5 := (BK.ext (BK.new w #[.bool s1, .slice A1 L1 c1, .slice B1 M1 d1, .bool s2, .slice A2 L2 c2, .slice B2 M2 d2] 29) (Ext.alloc _ (.cells #[.bool false, .slice none 0 0, .slice none 0 0, .bool false, .slice none 0 0, .slice none 0 0] 29))); simpa only [World.size_alloc] using h5
  have bxr : BK w0 (w.heap.size + 1) 29 #[.bool false, .slice none 0 0, .slice none 0 0, .bool false, .slice none 0 0, .slice none 0 0] := by rw [hw0]; have h5 := (BK.new (w.alloc (.cells #[.bool s1, .slice A1 L1 c1, .slice B1 M1 d1, .bool s2, .slice A2 L2 c2, .slice B2 M2 d2] 29)) #[.bool false, .slice none 0 0, .slice none 0 0, .bool false, .slice none 0 0, .slice none 0 0] 29); simpa only [World.size_alloc] using h5
  have hszw0 : w0.heap.size = w.heap.size + 1 + 1 := by rw [hw0]; simp only [World.size_alloc]
  have xw0 : Ext w w0 := by rw [hw0]; exact ((Ext.alloc _ _).trans (Ext.alloc _ _))
  clear hw0
  refine (bounds_r (h1.ext (by with_reducible repeat' first | exact Ext.refl _ | assumption | apply Ext.alloc_r | apply Ext.drew_r | apply Ext.drewN_r | refine Ext.trans ?_ ‹Ext _ _›)) (h2.ext (by with_reducible repeat' first | exact Ext.refl _ | assumption | apply Ext.alloc_r | apply Ext.drew_r | apply Ext.drewN_r | refine Ext.trans ?_ ‹Ext _ _›)) hN).mono ?_
  rintro e w1 ⟨spa, Apa, cpa, Lpa, Bpa, dpa, Mpa, spb, Apb, cpb, Lpb, Bpb, dpb, Mpb, rfl, pa, pb, x1⟩
  have szw1 : w0.heap.size ≤ w1.heap.size := x1.size
  replace bxi := bxi.ext x1
  replace bxr := bxr.ext x1
  have Hp := Lib.hid (And.intro pa pb)
  clear pa pb
  have ki_0 := bxi.c 0 (.bool s1) rfl
  have ki_1 := bxi.c 1 (.slice A1 L1 c1) rfl
  have ki_2 := bxi.c 2 (.slice B1 M1 d1) rfl
  have ki_3 := bxi.c 3 (.bool s2) rfl
  have ki_4 := bxi.c 4 (.slice A2 L2 c2) rfl
  have ki_5 := bxi.c 5 (.slice B2 M2 d2) rfl
  have kr_0 := bxr.c 0 (.bool false) rfl
  have fr_0 := bxr.f 0
  have kr_1 := bxr.c 1 (.slice none 0 0) rfl
  have fr_1 := bxr.f 1
  have kr_2 := bxr.c 2 (.slice none 0 0) rfl
  have fr_2 := bxr.f 2
  have kr_3 := bxr.c 3 (.bool false) rfl
  have fr_3 := bxr.f 3
  have kr_4 := bxr.c 4 (.slice none 0 0) rfl
  have fr_4 := bxr.f 4
  have kr_5 := bxr.c 5 (.slice none 0 0) rfl
  have fr_5 := bxr.f 5
  have t1i_0 := fun (o0 : Obj) => ((Ext.alloc w1 o0).cell (bxi.c 0 (.bool s1) rfl))
  have t2i_0 := fun (o0 : Obj) (o1 : Obj) => ((Ext.alloc (w1.alloc o0) o1).cell ((Ext.alloc w1 o0).cell (bxi.c 0 (.bool s1) rfl)))
  have t1i_1 := fun (o0 : Obj) => ((Ext.alloc w1 o0).cell (bxi.c 1 (.slice A1 L1 c1) rfl))
  have t2i_1 := fun (o0 : Obj) (o1 : Obj) => ((Ext.alloc (w1.alloc o0) o1).cell ((Ext.alloc w1 o0).cell (bxi.c 1 (.slice A1 L1 c1) rfl)))
  have t1i_2 := fun (o0 : Obj) => ((Ext.alloc w1 o0).cell (bxi.c 2 (.slice B1 M1 d1) rfl))
  have t2i_2 := fun (o0 : Obj) (o1 : Obj) => ((Ext.alloc (w1.alloc o0) o1).cell ((Ext.alloc w1 o0).cell (bxi.c 2 (.slice B1 M1 d1) rfl)))
  have t1i_3 := fun (o0 : Obj) => ((Ext.alloc w1 o0).cell (bxi.c 3 (.bool s2) rfl))
  have t2i_3 := fun (o0 : Obj) (o1 : Obj) => ((Ext.alloc (w1.alloc o0) o1).cell ((Ext.alloc w1 o0).cell (bxi.c 3 (.bool s2) rfl)))
  have t1i_4 := fun (o0 : Obj) => ((Ext.alloc w1 o0).cell (bxi.c 4 (.slice A2 L2 c2) rfl))
  have t2i_4 := fun (o0 : Obj) (o1 : Obj) => ((Ext.alloc (w1.alloc o0) o1).cell ((Ext.alloc w1 o0).cell (bxi.c 4 (.slice A2 L2 c2) rfl)))
  have t1i_5 := fun (o0 : Obj) => ((Ext.alloc w1 o0).cell (bxi.c 5 (.slice B2 M2 d2) rfl))
  have t2i_5 := fun (o0 : Obj) (o1 : Obj) => ((Ext.alloc (w1.alloc o0) o1).cell ((Ext.alloc w1 o0).cell (bxi.c 5 (.slice B2 M2 d2) rfl)))
  have t1r_0 := fun (o0 : Obj) => ((Ext.alloc w1 o0).cell (bxr.c 0 (.bool false) rfl))
  have z1r_0 := fun (o0 : Obj) => (Ext.frozen (Ext.alloc w1 o0) (bxr.c 0 (.bool false) rfl) (bxr.f 0))
  have t2r_0 := fun (o0 : Obj) (o1 : Obj) => ((Ext.alloc (w1.alloc o0) o1).cell ((Ext.alloc w1 o0).cell (bxr.c 0 (.bool false) rfl)))
  have z2r_0 := fun (o0 : Obj) (o1 : Obj) => (Ext.frozen (Ext.alloc (w1.alloc o0) o1) ((Ext.alloc w1 o0).cell (bxr.c 0 (.bool false) rfl)) (Ext.frozen (Ext.alloc w1 o0) (bxr.c 0 (.bool false) rfl) (bxr.f 0)))
  have t1r_1 := fun (o0 : Obj) => ((Ext.alloc w1 o0).cell (bxr.c 1 (.slice none 0 0) rfl))
  have z1r_1 := fun (o0 : Obj) => (Ext.frozen (Ext.alloc w1 o0) (bxr.c 1 (.slice none 0 0) rfl) (bxr.f 1))
  have t2r_1 := fun (o0 : Obj) (o1 : Obj) => ((Ext.alloc (w1.alloc o0) o1).cell ((Ext.alloc w1 o0).cell (bxr.c 1 (.slice none 0 0) rfl)))
  have z2r_1 := fun (o0 : Obj) (o1 : Obj) => (Ext.frozen (Ext.alloc (w1.alloc o0) o1) ((Ext.alloc w1 o0).cell (bxr.c 1 (.slice none 0 0) rfl)) (Ext.frozen (Ext.alloc w1 o0) (bxr.c 1 (.slice none 0 0) rfl) (bxr.f 1)))
  have t1r_2 := fun (o0 : Obj) => ((Ext.alloc w1 o0).cell (bxr.c 2 (.slice none 0 0) rfl))
  have z1r_2 := fun (o0 : Obj) => (Ext.frozen (Ext.alloc w1 o0) (bxr.c 2 (.slice none 0 0) rfl) (bxr.f 2))
  have t2r_2 := fun (o0 : Obj) (o1 : Obj) => ((Ext.alloc (w1.alloc o0) o1).cell ((Ext.alloc w1 o0).cell (bxr.c 2 (.slice none 0 0) rfl)))
  have z2r_2 := fun (o0 : Obj) (o1 : Obj) => (Ext.frozen (Ext.alloc (w1.alloc o0) o1) ((Ext.alloc w1 o0).cell (bxr.c 2 (.slice none 0 0) rfl)) (Ext.frozen (Ext.alloc w1 o0) (bxr.c 2 (.slice none 0 0) rfl) (bxr.f 2)))
  have t1r_3 := fun (o0 : Obj) => ((Ext.alloc w1 o0).cell (bxr.c 3 (.bool false) rfl))
  have z1r_3 := fun (o0 : Obj) => (Ext.frozen (Ext.alloc w1 o0) (bxr.c 3 (.bool false) rfl) (bxr.f 3))
  have t2r_3 := fun (o0 : Obj) (o1 : Obj) => ((Ext.alloc (w1.alloc o0) o1).cell ((Ext.alloc w1 o0).cell (bxr.c 3 (.bool false) rfl)))
  have z2r_3 := fun (o0 : Obj) (o1 : Obj) => (Ext.frozen (Ext.alloc (w1.alloc o0) o1) ((Ext.alloc w1 o0).cell (bxr.c 3 (.bool false) rfl)) (Ext.frozen (Ext.alloc w1 o0) (bxr.c 3 (.bool false) rfl) (bxr.f 3)))
  have t1r_4 := fun (o0 : Obj) => ((Ext.alloc w1 o0).cell (bxr.c 4 (.slice none 0 0) rfl))
  have z1r_4 := fun (o0 : Obj) => (Ext.frozen (Ext.alloc w1 o0) (bxr.c 4 (.slice none 0 0) rfl) (bxr.f 4))
  have t2r_4 := fun (o0 : Obj) (o1 : Obj) => ((Ext.alloc (w1.alloc o0) o1).cell ((Ext.alloc w1 o0).cell (bxr.c 4 (.slice none 0 0) rfl)))
  have z2r_4 := fun (o0 : Obj) (o1 : Obj) => (Ext.frozen (Ext.alloc (w1.alloc o0) o1) ((Ext.alloc w1 o0).cell (bxr.c 4 (.slice none 0 0) rfl)) (Ext.frozen (Ext.alloc w1 o0) (bxr.c 4 (.slice none 0 0) rfl) (bxr.f 4)))
  have t1r_5 := fun (o0 : Obj) => ((Ext.alloc w1 o0).cell (bxr.c 5 (.slice none 0 0) rfl))
  have z1r_5 := fun (o0 : Obj) => (Ext.frozen (Ext.alloc w1 o0) (bxr.c 5 (.slice none 0 0) rfl) (bxr.f 5))
  have t2r_5 := fun (o0 : Obj) (o1 : Obj) => ((Ext.alloc (w1.alloc o0) o1).cell ((Ext.alloc w1 o0).cell (bxr.c 5 (.slice none 0 0) rfl)))
  have z2r_5 := fun (o0 : Obj) (o1 : Obj) => (Ext.frozen (Ext.alloc (w1.alloc o0) o1) ((Ext.alloc w1 o0).cell (bxr.c 5 (.slice none 0 0) rfl)) (Ext.frozen (Ext.alloc w1 o0) (bxr.c 5 (.slice none 0 0) rfl) (bxr.f 5)))
  go_wp2_with fail
  clear ki_0 ki_1 ki_2 ki_3 ki_4 ki_5 kr_0 fr_0 kr_1 fr_1 kr_2 fr_2 kr_3 fr_3 kr_4 fr_4 kr_5 fr_5 t1i_0 t2i_0 t1i_1 t2i_1 t1i_2 t2i_2 t1i_3 t2i_3 t1i_4 t2i_4 t1i_5 t2i_5 t1r_0 z1r_0 t2r_0 z2r_0 t1r_1 z1r_1 t2r_1 z2r_1 t1r_2 z1r_2 t2r_2 z2r_2 t1r_3 z1r_3 t2r_3 z2r_3 t1r_4 z1r_4 t2r_4 z2r_4 t1r_5 z1r_5 t2r_5 z2r_5
  obtain ⟨w2, hw⟩ : ∃ z : World, z = ((w1.alloc (.cells #[.bool spa, .slice Apa Lpa cpa, .slice Bpa Mpa dpa] 27)).alloc (.cells #[.bool spb, .slice Apb Lpb cpb, .slice Bpb Mpb dpb] 27)) := ⟨_, rfl⟩
  rw [← hw]
  have x2 : Ext w1 w2 := by rw [hw]; exact ((Ext.alloc _ _).trans (Ext.alloc _ _))
  replace bxi := bxi.ext x2
  replace bxr := bxr.ext x2
  have bxl : BK w2 (w1.heap.size) 27 #[.bool spa, .slice Apa Lpa cpa, .slice Bpa Mpa dpa] := by rw [hw]; have h5 := (BK.ext (BK.new w1 #[.bool spa, .slice Apa Lpa cpa, .slice Bpa Mpa dpa] 27) (Ext.alloc _ (.cells #[.bool spb, .slice Apb Lpb cpb, .slice Bpb Mpb dpb] 27))); simpa only [World.size_alloc] using h5
  have bxh : BK w2 (w1.heap.size + 1) 27 #[.bool spb, .slice Apb Lpb cpb, .slice Bpb Mpb dpb] := by rw [hw]; have h5 := (BK.new (w1.alloc (.cells #[.bool spa, .slice Apa Lpa cpa, .slice Bpa Mpa dpa] 27)) #[.bool spb, .slice Apb Lpb cpb, .slice Bpb Mpb dpb] 27); simpa only [World.size_alloc] using h5
  have szw2 : w2.heap.size = w1.heap.size + 1 + 1 := by rw [hw]; simp only [World.size_alloc]
  clear hw
  have pa := Hp.out.1
  have pb := Hp.out.2
  clear Hp
  have pa2 := (pa.ext (show Ext _ w2 from (by with_reducible repeat' first | exact Ext.refl _ | assumption | apply Ext.alloc_r | apply Ext.drew_r | apply Ext.drewN_r | refine Ext.trans ?_ ‹Ext _ _›))).mono (show w.heap.size ≤ _ by first | omega | (simp only [World.size_drew]; omega))
  have pb2 := (pb.ext (show Ext _ w2 from (by with_reducible repeat' first | exact Ext.refl _ | assumption | apply Ext.alloc_r | apply Ext.drew_r | apply Ext.drewN_r | refine Ext.trans ?_ ‹Ext _ _›))).mono (show w.heap.size ≤ _ by first | omega | (simp only [World.size_drew]; omega))
  clear pa pb
  obtain ⟨w3, hw⟩ : ∃ z : World, z = ((((((w2.setCell ⟨w.heap.size + 1, 0, none⟩ (.bool spa)).setCell ⟨w.heap.size + 1, 1, none⟩ (.slice Apa Lpa cpa)).setCell ⟨w.heap.size + 1, 2, none⟩ (.slice Bpa Mpa dpa)).setCell ⟨w.heap.size + 1, 3, none⟩ (.bool spb)).setCell ⟨w.heap.size + 1, 4, none⟩ (.slice Apb Lpb cpb)).setCell ⟨w.heap.size + 1, 5, none⟩ (.slice Bpb Mpb dpb)) := ⟨_, rfl⟩
  rw [← hw]
  have kw3 : Kept w2 w3 := by rw [hw]; exact (Kept.set_ (Kept.set_ (Kept.set_ (Kept.set_ (Kept.set_ (Kept.set_ (Kept.refl _) bxr.isBox plain_iv) (IsBox.set_ bxr.isBox) plain_iv) (IsBox.set_ (IsBox.set_ bxr.isBox)) plain_iv) (IsBox.set_ (IsBox.set_ (IsBox.set_ bxr.isBox))) plain_iv) (IsBox.set_ (IsBox.set_ (IsBox.set_ (IsBox.set_ bxr.isBox)))) plain_iv) (IsBox.set_ (IsBox.set_ (IsBox.set_ (IsBox.set_ (IsBox.set_ bxr.isBox))))) plain_iv)
  have nbi : BK w3 (w.heap.size) 29 #[.bool s1, .slice A1 L1 c1, .slice B1 M1 d1, .bool s2, .slice A2 L2 c2, .slice B2 M2 d2] := by rw [hw]; exact (BK.far (BK.far (BK.far (BK.far (BK.far (BK.far bxi (show w.heap.size ≠ w.heap.size + 1 by omega) 0 _) (show w.heap.size ≠ w.heap.size + 1 by omega) 1 _) (show w.heap.size ≠ w.heap.size + 1 by omega) 2 _) (show w.heap.size ≠ w.heap.size + 1 by omega) 3 _) (show w.heap.size ≠ w.heap.size + 1 by omega) 4 _) (show w.heap.size ≠ w.heap.size + 1 by omega) 5 _)
  have nbr : BK w3 (w.heap.size + 1) 29 #[.bool spa, .slice Apa Lpa cpa, .slice Bpa Mpa dpa, .bool spb, .slice Apb Lpb cpb, .slice Bpb Mpb dpb] := by rw [hw]; exact (BK.set (i := 5) (u := .slice Bpb Mpb dpb) (vs' := #[.bool spa, .slice Apa Lpa cpa, .slice Bpa Mpa dpa, .bool spb, .slice Apb Lpb cpb, .slice Bpb Mpb dpb]) (BK.set (i := 4) (u := .slice Apb Lpb cpb) (vs' := #[.bool spa, .slice Apa Lpa cpa, .slice Bpa Mpa dpa, .bool spb, .slice Apb Lpb cpb, .slice none 0 0]) (BK.set (i := 3) (u := .bool spb) (vs' := #[.bool spa, .slice Apa Lpa cpa, .slice Bpa Mpa dpa, .bool spb, .slice none 0 0, .slice none 0 0]) (BK.set (i := 2) (u := .slice Bpa Mpa dpa) (vs' := #[.bool spa, .slice Apa Lpa cpa, .slice Bpa Mpa dpa, .bool false, .slice none 0 0, .slice none 0 0]) (BK.set (i := 1) (u := .slice Apa Lpa cpa) (vs' := #[.bool spa, .slice Apa Lpa cpa, .slice none 0 0, .bool false, .slice none 0 0, .slice none 0 0]) (BK.set (i := 0) (u := .bool spa) (vs' := #[.bool spa, .slice none 0 0, .slice none 0 0, .bool false, .slice none 0 0, .slice none 0 0]) bxr rfl) rfl) rfl) rfl) rfl) rfl)
  have nbl : BK w3 (w1.heap.size) 27 #[.bool spa, .slice Apa Lpa cpa, .slice Bpa Mpa dpa] := by rw [hw]; exact (BK.far (BK.far (BK.far (BK.far (BK.far (BK.far bxl (show w1.heap.size ≠ w.heap.size + 1 by omega) 0 _) (show w1.heap.size ≠ w.heap.size + 1 by omega) 1 _) (show w1.heap.size ≠ w.heap.size + 1 by omega) 2 _) (show w1.heap.size ≠ w.heap.size + 1 by omega) 3 _) (show w1.heap.size ≠ w.heap.size + 1 by omega) 4 _) (show w1.heap.size ≠ w.heap.size + 1 by omega) 5 _)
  have nbh : BK w3 (w1.heap.size + 1) 27 #[.bool spb, .slice Apb Lpb cpb, .slice Bpb Mpb dpb] := by rw [hw]; exact (BK.far (BK.far (BK.far (BK.far (BK.far (BK.far bxh (show w1.heap.size + 1 ≠ w.heap.size + 1 by omega) 0 _) (show w1.heap.size + 1 ≠ w.heap.size + 1 by omega) 1 _) (show w1.heap.size + 1 ≠ w.heap.size + 1 by omega) 2 _) (show w1.heap.size + 1 ≠ w.heap.size + 1 by omega) 3 _) (show w1.heap.size + 1 ≠ w.heap.size + 1 by omega) 4 _) (show w1.heap.size + 1 ≠ w.heap.size + 1 by omega) 5 _)
  have x3 : Ext w w3 := by rw [hw]; have hxp : Ext w w2 := (by with_reducible repeat' first | exact Ext.refl _ | assumption | apply Ext.alloc_r | apply Ext.drew_r | apply Ext.drewN_r | refine Ext.trans ?_ ‹Ext _ _›); exact (Ext.set_ (Ext.set_ (Ext.set_ (Ext.set_ (Ext.set_ (Ext.set_ hxp (show _ ≤ w.heap.size + 1 by omega)) (show _ ≤ w.heap.size + 1 by omega)) (show _ ≤ w.heap.size + 1 by omega)) (show _ ≤ w.heap.size + 1 by omega)) (show _ ≤ w.heap.size + 1 by omega)) (show _ ≤ w.heap.size + 1 by omega))
  clear bxi
  clear bxr
  clear bxl
  clear bxh
  have bxi := nbi
  clear nbi
  have bxr := nbr
  clear nbr
  have bxl := nbl
  clear nbl
  have bxh := nbh
  clear nbh
  have szw3 : w3.heap.size = w2.heap.size := by rw [hw]; simp
  replace pa2 := (pa2.ext (by with_reducible repeat' first | exact Ext.refl _ | assumption | apply Ext.alloc_r | apply Ext.drew_r | apply Ext.drewN_r | refine Ext.trans ?_ ‹Ext _ _›)).kept kw3
  replace pb2 := (pb2.ext (by with_reducible repeat' first | exact Ext.refl _ | assumption | apply Ext.alloc_r | apply Ext.drew_r | apply Ext.drewN_r | refine Ext.trans ?_ ‹Ext _ _›)).kept kw3
  clear hw kw3
  have HU := Lib.hid pa2
  have HV := Lib.hid pb2
  clear pa2 pb2
  have ki_0 := bxi.c 0 (.bool s1) rfl
  have ki_1 := bxi.c 1 (.slice A1 L1 c1) rfl
  have ki_2 := bxi.c 2 (.slice B1 M1 d1) rfl
  have ki_3 := bxi.c 3 (.bool s2) rfl
  have ki_4 := bxi.c 4 (.slice A2 L2 c2) rfl
  have ki_5 := bxi.c 5 (.slice B2 M2 d2) rfl
  have kr_0 := bxr.c 0 (.bool spa) rfl
  have kr_1 := bxr.c 1 (.slice Apa Lpa cpa) rfl
  have kr_2 := bxr.c 2 (.slice Bpa Mpa dpa) rfl
  have kr_3 := bxr.c 3 (.bool spb) rfl
  have kr_4 := bxr.c 4 (.slice Apb Lpb cpb) rfl
  have kr_5 := bxr.c 5 (.slice Bpb Mpb dpb) rfl
  have kl_0 := bxl.c 0 (.bool spa) rfl
  have kl_1 := bxl.c 1 (.slice Apa Lpa cpa) rfl
  have kl_2 := bxl.c 2 (.slice Bpa Mpa dpa) rfl
  have kh_0 := bxh.c 0 (.bool spb) rfl
  have kh_1 := bxh.c 1 (.slice Apb Lpb cpb) rfl
  have kh_2 := bxh.c 2 (.slice Bpb Mpb dpb) rfl
  go_wp2_with fail
  clear ki_0 ki_1 ki_2 ki_3 ki_4 ki_5 kr_0 kr_1 kr_2 kr_3 kr_4 kr_5 kl_0 kl_1 kl_2 kh_0 kh_1 kh_2
  have kr_0 := bxr.c 0 (.bool spa) rfl
  have kr_1 := bxr.c 1 (.slice Apa Lpa cpa) rfl
  have kr_2 := bxr.c 2 (.slice Bpa Mpa dpa) rfl
  have kr_3 := bxr.c 3 (.bool spb) rfl
  have kr_4 := bxr.c 4 (.slice Apb Lpb cpb) rfl
  have kr_5 := bxr.c 5 (.slice Bpb Mpb dpb) rfl
  refine bodyPost_ret (v := Value.agg #[Value.bool spa, Value.slice Apa Lpa cpa, Value.slice Bpa Mpa dpa, Value.bool spb, Value.slice Apb Lpb cpb, Value.slice Bpb Mpb dpb]) (by simp [results, Tryz.results34, go_sem, kr_0, kr_1, kr_2, kr_3, kr_4, kr_5]) rfl ?_
  exact ⟨_, _, _, _, _, _, _, _, _, _, _, _, _, _, rfl, HU.out, HV.out, x3⟩
end Go.Proofs.YtehhkeenjlpikaaGreat
