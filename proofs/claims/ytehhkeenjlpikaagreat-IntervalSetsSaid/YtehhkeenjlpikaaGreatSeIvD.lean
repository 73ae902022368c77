import Derived.Test.YtehhkeenjlpikaaGreatSeIvC
import Derived.Deep.RegionHeldLaw
import Derived.Deep.LoopGhost
import Derived.Deep.QuietTactic
import Derived.BigQuiet
namespace Go.Proofs.YtehhkeenjlpikaaGreat
open Go.RowKit
theorem rsign_k {w : World} {N : Nat} {s1 : Bool} {A1 B1 : Option Addr} {c1 d1 L1 M1 : Nat} {q1 : Rat} {k : Int} (h1 : RV w s1 A1 c1 L1 B1 d1 M1 N q1) (e : q1.num.sign = k) :
    Calls Tryz.prog 48 #[Value.agg #[Value.bool s1, Value.slice A1 L1 c1, Value.slice B1 M1 d1]] w fun e w' => e = .returned (.int .i64 k) ∧ Ext w w' := by rw [← e]; exact rsign_r h1
/-- Two fractions in boxes laid behind w. -/
def PutM (w w' : World) (g N : Nat) (p q : Rat) (x y : Value) : Prop := ∃ b b' s A c L B d M s' A' c' L' B' d' M', x = .pointer (some ⟨b, 0, none⟩) ∧ y = .pointer (some ⟨b', 0, none⟩) ∧ w.heap.size ≤ b ∧ w.heap.size ≤ b' ∧ BK w' b 27 #[.bool s, .slice A L c, .slice B M d] ∧ BK w' b' 27 #[.bool s', .slice A' L' c', .slice B' M' d'] ∧ RO w' g s A c L B d M N p ∧ RO w' g s' A' c' L' B' d' M' N q ∧ Ext w w'
theorem PutM.mk {w w' : World} {g N b b' : Nat} {p q : Rat} {s s' : Bool} {A B A' B' : Option Addr} {c L d M c' L' d' M' : Nat} (h1 : w.heap.size ≤ b) (h2 : w.heap.size ≤ b') (k1 : BK w' b 27 #[.bool s, .slice A L c, .slice B M d]) (k2 : BK w' b' 27 #[.bool s', .slice A' L' c', .slice B' M' d']) (r1 : RO w' g s A c L B d M N p) (r2 : RO w' g s' A' c' L' B' d' M' N q) (hx : Ext w w') : PutM w w' g N p q (.pointer (some ⟨b, 0, none⟩)) (.pointer (some ⟨b', 0, none⟩)) :=
  ⟨b, b', s, A, c, L, B, d, M, s', A', c', L', B', d', M', rfl, rfl, h1, h2, k1, k2, r1, r2, hx⟩
set_option maxHeartbeats 4000000 in
set_option maxRecDepth 100000 in
theorem imeet_yes {w : World} {N : Nat} {s1 s2 s3 s4 : Bool} {A1 B1 A2 B2 A3 B3 A4 B4 : Option Addr} {c1 d1 L1 M1 c2 d2 L2 M2 c3 d3 L3 M3 c4 d4 L4 M4 : Nat} {q1 q2 q3 q4 : Rat} (h1 : RV w s1 A1 c1 L1 B1 d1 M1 N q1) (h2 : RV w s2 A2 c2 L2 B2 d2 M2 N q2) (h3 : RV w s3 A3 c3 L3 B3 d3 M3 N q3) (h4 : RV w s4 A4 c4 L4 B4 d4 M4 N q4) (hN : N < 48) (hq : maxQ (minQ q1 q2) (minQ q3 q4) ≤ minQ (maxQ q1 q2) (maxQ q3 q4)) :
    Calls Tryz.prog 41 #[Value.agg #[Value.bool s1, Value.slice A1 L1 c1, Value.slice B1 M1 d1, Value.bool s2, Value.slice A2 L2 c2, Value.slice B2 M2 d2], Value.agg #[Value.bool s3, Value.slice A3 L3 c3, Value.slice B3 M3 d3, Value.bool s4, Value.slice A4 L4 c4, Value.slice B4 M4 d4]] w fun e w' => ∃ s A c L B d M s' A' c' L' B' d' M', e = .returned (.tuple #[.agg #[.bool s, .slice A L c, .slice B M d, .bool s', .slice A' L' c', .slice B' M' d'], .bool true]) ∧ RO w' w.heap.size s A c L B d M N (maxQ (minQ q1 q2) (minQ q3 q4)) ∧ RO w' w.heap.size s' A' c' L' B' d' M' N (minQ (maxQ q1 q2) (maxQ q3 q4)) ∧ Ext w w' := by
  obtain ⟨K, hK⟩ : ∃ K : Int, K = cmpQ (maxQ (minQ q1 q2) (minQ q3 q4)) (minQ (maxQ q1 q2) (maxQ q3 q4)) := ⟨_, rfl⟩
  have hk : ¬ K > 0 := by rw [hK]; exact fun h => Rat.not_lt.2 hq ((cmpQ_gt _ _).1 h)
  have HK := Lib.hid hK.symm
  clear hK hq
  go_enter Tryz.func41, Tryz.ntmps41
  go_wp2_with fail
  obtain ⟨w0, hw0⟩ : ∃ z : World, z = (((w.alloc (.cells #[.bool s1, .slice A1 L1 c1, .slice B1 M1 d1, .bool s2, .slice A2 L2 c2, .slice B2 M2 d2] 29)).alloc (.cells #[.bool s3, .slice A3 L3 c3, .slice B3 M3 d3, .bool s4, .slice A4 L4 c4, .slice B4 M4 d4] 29)).alloc (.cells #[.bool false, .slice none 0 0, .slice none 0 0, .bool false, .slice none 0 0, .slice none 0 0] 29)) := ⟨_, rfl⟩
  rw [← hw0]
  have bxi : BK w0 (w.heap.size) 29 #[.bool s1, .slice A1 L1 c1, .slice B1 M1 d1, .bool s2, .slice A2 L2 c2, .slice B2 M2 d2] := by rw [hw0]; have h5 := (BK.ext (BK.ext (BK.new w #[.bool s1, .slice A1 L1 c1, .slice B1 M1 d1, .bool s2, .slice A2 L2 c2, .slice B2 M2 d2] 29) (Ext.alloc _ (.cells #[.bool s3, .slice A3 L3 c3, .slice B3 M3 d3, .bool s4, .slice A4 L4 c4, .slice B4 M4 d4] 29))) (Ext.alloc _ (.cells #[.bool false, .slice none 0 0, .slice none 0 0, .bool false, .slice none 0 0, .slice none 0 0] 29))); simpa only [World.size_alloc] using h5
  have bxj : BK w0 (w.heap.size + 1) 29 #[.bool s3, .slice A3 L3 c3, .slice B3 M3 d3, .bool s4, .slice A4 L4 c4, .slice B4 M4 d4] := by rw [hw0]; have h5 := (BK.ext (BK.new (w.alloc (.cells #[.bool s1, .slice A1 L1 c1, .slice B1 M1 d1, .bool s2, .slice A2 L2 c2, .slice B2 M2 d2] 29)) #[.bool s3, .slice A3 L3 c3, .slice B3 M3 d3, .bool s4, .slice A4 L4 c4, .slice B4 M4 d4] 29) (Ext.alloc _ (.cells #[.bool false, .slice none 0 0, .slice none 0 0, .bool false, .slice none 0 0, .slice none 0 0] 29))); simpa only [World.size_alloc] using h5
  have bxr : BK w0 (w.heap.size + 1 + 1) 29 #[.bool false, .slice none 0 0, .slice none 0 0, .bool false, .slice none 0 0, .slice none 0 0] := by rw [hw0]; have h5 := (BK.new ((w.alloc (.cells #[.bool s1, .slice A1 L1 c1, .slice B1 M1 d1, .bool s2, .slice A2 L2 c2, .slice B2 M2 d2] 29)).alloc (.cells #[.bool s3, .slice A3 L3 c3, .slice B3 M3 d3, .bool s4, .slice A4 L4 c4, .slice B4 M4 d4] 29)) #[.bool false, .slice none 0 0, .slice none 0 0, .bool false, .slice none 0 0, .slice none 0 0] 29); simpa only [World.size_alloc] using h5
  have hszw0 : w0.heap.size = w.heap.size + 1 + 1 + 1 := by rw [hw0]; simp only [World.size_alloc]
  have xw0 : Ext w w0 := by rw [hw0]; exact (((Ext.alloc _ _).trans (Ext.alloc _ _)).trans (Ext.alloc _ _))
  clear hw0
  refine (bounds_r (h1.ext (by with_reducible repeat' first | exact Ext.refl _ | assumption | apply Ext.alloc_r | apply Ext.drew_r | apply Ext.drewN_r | refine Ext.trans ?_ ‹Ext _ _›)) (h2.ext (by with_reducible repeat' first | exact Ext.refl _ | assumption | apply Ext.alloc_r | apply Ext.drew_r | apply Ext.drewN_r | refine Ext.trans ?_ ‹Ext _ _›)) (by omega)).mono ?_
  rintro e w1 ⟨spa, Apa, cpa, Lpa, Bpa, dpa, Mpa, spb, Apb, cpb, Lpb, Bpb, dpb, Mpb, rfl, pa, pb, x1⟩
  have szw1 : w0.heap.size ≤ w1.heap.size := x1.size
  replace bxi := bxi.ext x1
  replace bxj := bxj.ext x1
  replace bxr := bxr.ext x1
  have Hp := Lib.hid (And.intro pa pb)
  clear pa pb
  have ki_0 := bxi.c 0 (.bool s1) rfl
  have ki_1 := bxi.c 1 (.slice A1 L1 c1) rfl
  have ki_2 := bxi.c 2 (.slice B1 M1 d1) rfl
  have ki_3 := bxi.c 3 (.bool s2) rfl
  have ki_4 := bxi.c 4 (.slice A2 L2 c2) rfl
  have ki_5 := bxi.c 5 (.slice B2 M2 d2) rfl
  have kj_0 := bxj.c 0 (.bool s3) rfl
  have kj_1 := bxj.c 1 (.slice A3 L3 c3) rfl
  have kj_2 := bxj.c 2 (.slice B3 M3 d3) rfl
  have kj_3 := bxj.c 3 (.bool s4) rfl
  have kj_4 := bxj.c 4 (.slice A4 L4 c4) rfl
  have kj_5 := bxj.c 5 (.slice B4 M4 d4) rfl
  have kr_0 := bxr.c 0 (.bool false) rfl
  have kr_1 := bxr.c 1 (.slice none 0 0) rfl
  have kr_2 := bxr.c 2 (.slice none 0 0) rfl
  have kr_3 := bxr.c 3 (.bool false) rfl
  have kr_4 := bxr.c 4 (.slice none 0 0) rfl
  have kr_5 := bxr.c 5 (.slice none 0 0) rfl
  have t1i_0 := fun (o0 : Obj) => ((Ext.alloc w1 o0).cell (bxi.c 0 (.bool s1) rfl))
  have t2i_0 := fun (o0 : Obj) (o1 : Obj) => ((Ext.alloc (w1.alloc o0) o1).cell ((Ext.alloc w1 o0).cell (bxi.c 0 (.bool s1) rfl)))
  have t1i_1 := fun (o0 : Obj) => ((Ext.alloc w1 o0).cell (bxi.c 1 (.slice A1 L1 c1) rfl))
  have t2i_1 := fun (o0 : Obj) (o1 : Obj) => ((Ext.alloc (w1.alloc o0) o1).cell ((Ext.alloc w1 o0).cell (bxi.c 1 (.slice A1 L1 c1) rfl)))
  have t1i_2 := fun (o0 : Obj) => ((Ext.alloc w1 o0).cell (bxi.c 2 (.slice B1 M1 d1) rfl))
  have t2i_2 := fun (o0 : Obj) (o1 : Obj) => ((Ext.alloc (w1.alloc o0) o1).cell ((Ext.alloc w1 o0).cell (bxi.c 2 (.slice B1 M1 d1) rfl)))
  have t1i_3 := fun (o0 : Obj) => ((Ext.alloc w1 o0).cell (bxi.c 3 (.bool s2) rfl))
  have t2i_3 := fun (o0 : Obj) (o1 : Obj) => ((Ext.alloc (w1.alloc o0) o1).cell ((Ext.alloc w1 o0).cell (bxi.c 3 (.bool s2) rfl)))
  have t1i_4 := fun (o0 : Obj) => ((Ext.alloc w1 o0).cell (bxi.c 4 (.slice A2 L2 c2) rfl))
  have t2i_4 := fun (o0 : Obj) (o1 : Obj) => ((Ext.alloc (w1.alloc o0) o1).cell ((Ext.alloc w1 o0).cell (bxi.c 4 (.slice A2 L2 c2) rfl)))
  have t1i_5 := fun (o0 : Obj) => ((Ext.alloc w1 o0).cell (bxi.c 5 (.slice B2 M2 d2) rfl))
  have t2i_5 := fun (o0 : Obj) (o1 : Obj) => ((Ext.alloc (w1.alloc o0) o1).cell ((Ext.alloc w1 o0).cell (bxi.c 5 (.slice B2 M2 d2) rfl)))
  have t1j_0 := fun (o0 : Obj) => ((Ext.alloc w1 o0).cell (bxj.c 0 (.bool s3) rfl))
  have t2j_0 := fun (o0 : Obj) (o1 : Obj) => ((Ext.alloc (w1.alloc o0) o1).cell ((Ext.alloc w1 o0).cell (bxj.c 0 (.bool s3) rfl)))
  have t1j_1 := fun (o0 : Obj) => ((Ext.alloc w1 o0).cell (bxj.c 1 (.slice A3 L3 c3) rfl))
  have t2j_1 := fun (o0 : Obj) (o1 : Obj) => ((Ext.alloc (w1.alloc o0) o1).cell ((Ext.alloc w1 o0).cell (bxj.c 1 (.slice A3 L3 c3) rfl)))
  have t1j_2 := fun (o0 : Obj) => ((Ext.alloc w1 o0).cell (bxj.c 2 (.slice B3 M3 d3) rfl))
  have t2j_2 := fun (o0 : Obj) (o1 : Obj) => ((Ext.alloc (w1.alloc o0) o1).cell ((Ext.alloc w1 o0).cell (bxj.c 2 (.slice B3 M3 d3) rfl)))
  have t1j_3 := fun (o0 : Obj) => ((Ext.alloc w1 o0).cell (bxj.c 3 (.bool s4) rfl))
  have t2j_3 := fun (o0 : Obj) (o1 : Obj) => ((Ext.alloc (w1.alloc o0) o1).cell ((Ext.alloc w1 o0).cell (bxj.c 3 (.bool s4) rfl)))
  have t1j_4 := fun (o0 : Obj) => ((Ext.alloc w1 o0).cell (bxj.c 4 (.slice A4 L4 c4) rfl))
  have t2j_4 := fun (o0 : Obj) (o1 : Obj) => ((Ext.alloc (w1.alloc o0) o1).cell ((Ext.alloc w1 o0).cell (bxj.c 4 (.slice A4 L4 c4) rfl)))
  have t1j_5 := fun (o0 : Obj) => ((Ext.alloc w1 o0).cell (bxj.c 5 (.slice B4 M4 d4) rfl))
  have t2j_5 := fun (o0 : Obj) (o1 : Obj) => ((Ext.alloc (w1.alloc o0) o1).cell ((Ext.alloc w1 o0).cell (bxj.c 5 (.slice B4 M4 d4) rfl)))
  have t1r_0 := fun (o0 : Obj) => ((Ext.alloc w1 o0).cell (bxr.c 0 (.bool false) rfl))
  have t2r_0 := fun (o0 : Obj) (o1 : Obj) => ((Ext.alloc (w1.alloc o0) o1).cell ((Ext.alloc w1 o0).cell (bxr.c 0 (.bool false) rfl)))
  have t1r_1 := fun (o0 : Obj) => ((Ext.alloc w1 o0).cell (bxr.c 1 (.slice none 0 0) rfl))
  have t2r_1 := fun (o0 : Obj) (o1 : Obj) => ((Ext.alloc (w1.alloc o0) o1).cell ((Ext.alloc w1 o0).cell (bxr.c 1 (.slice none 0 0) rfl)))
  have t1r_2 := fun (o0 : Obj) => ((Ext.alloc w1 o0).cell (bxr.c 2 (.slice none 0 0) rfl))
  have t2r_2 := fun (o0 : Obj) (o1 : Obj) => ((Ext.alloc (w1.alloc o0) o1).cell ((Ext.alloc w1 o0).cell (bxr.c 2 (.slice none 0 0) rfl)))
  have t1r_3 := fun (o0 : Obj) => ((Ext.alloc w1 o0).cell (bxr.c 3 (.bool false) rfl))
  have t2r_3 := fun (o0 : Obj) (o1 : Obj) => ((Ext.alloc (w1.alloc o0) o1).cell ((Ext.alloc w1 o0).cell (bxr.c 3 (.bool false) rfl)))
  have t1r_4 := fun (o0 : Obj) => ((Ext.alloc w1 o0).cell (bxr.c 4 (.slice none 0 0) rfl))
  have t2r_4 := fun (o0 : Obj) (o1 : Obj) => ((Ext.alloc (w1.alloc o0) o1).cell ((Ext.alloc w1 o0).cell (bxr.c 4 (.slice none 0 0) rfl)))
  have t1r_5 := fun (o0 : Obj) => ((Ext.alloc w1 o0).cell (bxr.c 5 (.slice none 0 0) rfl))
  have t2r_5 := fun (o0 : Obj) (o1 : Obj) => ((Ext.alloc (w1.alloc o0) o1).cell ((Ext.alloc w1 o0).cell (bxr.c 5 (.slice none 0 0) rfl)))
  go_wp2_with fail
  clear ki_0 ki_1 ki_2 ki_3 ki_4 ki_5 kj_0 kj_1 kj_2 kj_3 kj_4 kj_5 kr_0 kr_1 kr_2 kr_3 kr_4 kr_5 t1i_0 t2i_0 t1i_1 t2i_1 t1i_2 t2i_2 t1i_3 t2i_3 t1i_4 t2i_4 t1i_5 t2i_5 t1j_0 t2j_0 t1j_1 t2j_1 t1j_2 t2j_2 t1j_3 t2j_3 t1j_4 t2j_4 t1j_5 t2j_5 t1r_0 t2r_0 t1r_1 t2r_1 t1r_2 t2r_2 t1r_3 t2r_3 t1r_4 t2r_4 t1r_5 t2r_5
  obtain ⟨w2, hw⟩ : ∃ z : World, z = ((w1.alloc (.cells #[.bool spa, .slice Apa Lpa cpa, .slice Bpa Mpa dpa] 27)).alloc (.cells #[.bool spb, .slice Apb Lpb cpb, .slice Bpb Mpb dpb] 27)) := ⟨_, rfl⟩
  rw [← hw]
  have x2 : Ext w1 w2 := by rw [hw]; exact ((Ext.alloc _ _).trans (Ext.alloc _ _))
  replace bxi := bxi.ext x2
  replace bxj := bxj.ext x2
  replace bxr := bxr.ext x2
  have bxla : BK w2 (w1.heap.size) 27 #[.bool spa, .slice Apa Lpa cpa, .slice Bpa Mpa dpa] := by rw [hw]; have h5 := (BK.ext (BK.new w1 #[.bool spa, .slice Apa Lpa cpa, .slice Bpa Mpa dpa] 27) (Ext.alloc _ (.cells #[.bool spb, .slice Apb Lpb cpb, .slice Bpb Mpb dpb] 27))); simpa only [World.size_alloc] using h5
  have bxha : BK w2 (w1.heap.size + 1) 27 #[.bool spb, .slice Apb Lpb cpb, .slice Bpb Mpb dpb] := by rw [hw]; have h5 := (BK.new (w1.alloc (.cells #[.bool spa, .slice Apa Lpa cpa, .slice Bpa Mpa dpa] 27)) #[.bool spb, .slice Apb Lpb cpb, .slice Bpb Mpb dpb] 27); simpa only [World.size_alloc] using h5
  have szw2 : w2.heap.size = w1.heap.size + 1 + 1 := by rw [hw]; simp only [World.size_alloc]
  clear hw
  have pa := Hp.out.1
  have pb := Hp.out.2
  clear Hp
  have HP := Lib.hid (And.intro pa pb)
  clear pa pb
  refine (bounds_r (h3.ext (by with_reducible repeat' first | exact Ext.refl _ | assumption | apply Ext.alloc_r | apply Ext.drew_r | apply Ext.drewN_r | refine Ext.trans ?_ ‹Ext _ _›)) (h4.ext (by with_reducible repeat' first | exact Ext.refl _ | assumption | apply Ext.alloc_r | apply Ext.drew_r | apply Ext.drewN_r | refine Ext.trans ?_ ‹Ext _ _›)) (by omega)).mono ?_
  rintro e w3 ⟨sqa, Aqa, cqa, Lqa, Bqa, dqa, Mqa, sqb, Aqb, cqb, Lqb, Bqb, dqb, Mqb, rfl, qa, qb, x3⟩
  have szw3 : w2.heap.size ≤ w3.heap.size := x3.size
  replace bxi := bxi.ext x3
  replace bxj := bxj.ext x3
  replace bxr := bxr.ext x3
  replace bxla := bxla.ext x3
  replace bxha := bxha.ext x3
  have Hq := Lib.hid (And.intro qa qb)
  clear qa qb
  have ki_0 := bxi.c 0 (.bool s1) rfl
  have ki_1 := bxi.c 1 (.slice A1 L1 c1) rfl
  have ki_2 := bxi.c 2 (.slice B1 M1 d1) rfl
  have ki_3 := bxi.c 3 (.bool s2) rfl
  have ki_4 := bxi.c 4 (.slice A2 L2 c2) rfl
  have ki_5 := bxi.c 5 (.slice B2 M2 d2) rfl
  have kj_0 := bxj.c 0 (.bool s3) rfl
  have kj_1 := bxj.c 1 (.slice A3 L3 c3) rfl
  have kj_2 := bxj.c 2 (.slice B3 M3 d3) rfl
  have kj_3 := bxj.c 3 (.bool s4) rfl
  have kj_4 := bxj.c 4 (.slice A4 L4 c4) rfl
  have kj_5 := bxj.c 5 (.slice B4 M4 d4) rfl
  have kr_0 := bxr.c 0 (.bool false) rfl
  have kr_1 := bxr.c 1 (.slice none 0 0) rfl
  have kr_2 := bxr.c 2 (.slice none 0 0) rfl
  have kr_3 := bxr.c 3 (.bool false) rfl
  have kr_4 := bxr.c 4 (.slice none 0 0) rfl
  have kr_5 := bxr.c 5 (.slice none 0 0) rfl
  have kla_0 := bxla.c 0 (.bool spa) rfl
  have kla_1 := bxla.c 1 (.slice Apa Lpa cpa) rfl
  have kla_2 := bxla.c 2 (.slice Bpa Mpa dpa) rfl
  have kha_0 := bxha.c 0 (.bool spb) rfl
  have kha_1 := bxha.c 1 (.slice Apb Lpb cpb) rfl
  have kha_2 := bxha.c 2 (.slice Bpb Mpb dpb) rfl
  have t1i_0 := fun (o0 : Obj) => ((Ext.alloc w3 o0).cell (bxi.c 0 (.bool s1) rfl))
  have t2i_0 := fun (o0 : Obj) (o1 : Obj) => ((Ext.alloc (w3.alloc o0) o1).cell ((Ext.alloc w3 o0).cell (bxi.c 0 (.bool s1) rfl)))
  have t1i_1 := fun (o0 : Obj) => ((Ext.alloc w3 o0).cell (bxi.c 1 (.slice A1 L1 c1) rfl))
  have t2i_1 := fun (o0 : Obj) (o1 : Obj) => ((Ext.alloc (w3.alloc o0) o1).cell ((Ext.alloc w3 o0).cell (bxi.c 1 (.slice A1 L1 c1) rfl)))
  have t1i_2 := fun (o0 : Obj) => ((Ext.alloc w3 o0).cell (bxi.c 2 (.slice B1 M1 d1) rfl))
  have t2i_2 := fun (o0 : Obj) (o1 : Obj) => ((Ext.alloc (w3.alloc o0) o1).cell ((Ext.alloc w3 o0).cell (bxi.c 2 (.slice B1 M1 d1) rfl)))
  have t1i_3 := fun (o0 : Obj) => ((Ext.alloc w3 o0).cell (bxi.c 3 (.bool s2) rfl))
  have t2i_3 := fun (o0 : Obj) (o1 : Obj) => ((Ext.alloc (w3.alloc o0) o1).cell ((Ext.alloc w3 o0).cell (bxi.c 3 (.bool s2) rfl)))
  have t1i_4 := fun (o0 : Obj) => ((Ext.alloc w3 o0).cell (bxi.c 4 (.slice A2 L2 c2) rfl))
  have t2i_4 := fun (o0 : Obj) (o1 : Obj) => ((Ext.alloc (w3.alloc o0) o1).cell ((Ext.alloc w3 o0).cell (bxi.c 4 (.slice A2 L2 c2) rfl)))
  have t1i_5 := fun (o0 : Obj) => ((Ext.alloc w3 o0).cell (bxi.c 5 (.slice B2 M2 d2) rfl))
  have t2i_5 := fun (o0 : Obj) (o1 : Obj) => ((Ext.alloc (w3.alloc o0) o1).cell ((Ext.alloc w3 o0).cell (bxi.c 5 (.slice B2 M2 d2) rfl)))
  have t1j_0 := fun (o0 : Obj) => ((Ext.alloc w3 o0).cell (bxj.c 0 (.bool s3) rfl))
  have t2j_0 := fun (o0 : Obj) (o1 : Obj) => ((Ext.alloc (w3.alloc o0) o1).cell ((Ext.alloc w3 o0).cell (bxj.c 0 (.bool s3) rfl)))
  have t1j_1 := fun (o0 : Obj) => ((Ext.alloc w3 o0).cell (bxj.c 1 (.slice A3 L3 c3) rfl))
  have t2j_1 := fun (o0 : Obj) (o1 : Obj) => ((Ext.alloc (w3.alloc o0) o1).cell ((Ext.alloc w3 o0).cell (bxj.c 1 (.slice A3 L3 c3) rfl)))
  have t1j_2 := fun (o0 : Obj) => ((Ext.alloc w3 o0).cell (bxj.c 2 (.slice B3 M3 d3) rfl))
  have t2j_2 := fun (o0 : Obj) (o1 : Obj) => ((Ext.alloc (w3.alloc o0) o1).cell ((Ext.alloc w3 o0).cell (bxj.c 2 (.slice B3 M3 d3) rfl)))
  have t1j_3 := fun (o0 : Obj) => ((Ext.alloc w3 o0).cell (bxj.c 3 (.bool s4) rfl))
  have t2j_3 := fun (o0 : Obj) (o1 : Obj) => ((Ext.alloc (w3.alloc o0) o1).cell ((Ext.alloc w3 o0).cell (bxj.c 3 (.bool s4) rfl)))
  have t1j_4 := fun (o0 : Obj) => ((Ext.alloc w3 o0).cell (bxj.c 4 (.slice A4 L4 c4) rfl))
  have t2j_4 := fun (o0 : Obj) (o1 : Obj) => ((Ext.alloc (w3.alloc o0) o1).cell ((Ext.alloc w3 o0).cell (bxj.c 4 (.slice A4 L4 c4) rfl)))
  have t1j_5 := fun (o0 : Obj) => ((Ext.alloc w3 o0).cell (bxj.c 5 (.slice B4 M4 d4) rfl))
  have t2j_5 := fun (o0 : Obj) (o1 : Obj) => ((Ext.alloc (w3.alloc o0) o1).cell ((Ext.alloc w3 o0).cell (bxj.c 5 (.slice B4 M4 d4) rfl)))
  have t1r_0 := fun (o0 : Obj) => ((Ext.alloc w3 o0).cell (bxr.c 0 (.bool false) rfl))
  have t2r_0 := fun (o0 : Obj) (o1 : Obj) => ((Ext.alloc (w3.alloc o0) o1).cell ((Ext.alloc w3 o0).cell (bxr.c 0 (.bool false) rfl)))
  have t1r_1 := fun (o0 : Obj) => ((Ext.alloc w3 o0).cell (bxr.c 1 (.slice none 0 0) rfl))
  have t2r_1 := fun (o0 : Obj) (o1 : Obj) => ((Ext.alloc (w3.alloc o0) o1).cell ((Ext.alloc w3 o0).cell (bxr.c 1 (.slice none 0 0) rfl)))
  have t1r_2 := fun (o0 : Obj) => ((Ext.alloc w3 o0).cell (bxr.c 2 (.slice none 0 0) rfl))
  have t2r_2 := fun (o0 : Obj) (o1 : Obj) => ((Ext.alloc (w3.alloc o0) o1).cell ((Ext.alloc w3 o0).cell (bxr.c 2 (.slice none 0 0) rfl)))
  have t1r_3 := fun (o0 : Obj) => ((Ext.alloc w3 o0).cell (bxr.c 3 (.bool false) rfl))
  have t2r_3 := fun (o0 : Obj) (o1 : Obj) => ((Ext.alloc (w3.alloc o0) o1).cell ((Ext.alloc w3 o0).cell (bxr.c 3 (.bool false) rfl)))
  have t1r_4 := fun (o0 : Obj) => ((Ext.alloc w3 o0).cell (bxr.c 4 (.slice none 0 0) rfl))
  have t2r_4 := fun (o0 : Obj) (o1 : Obj) => ((Ext.alloc (w3.alloc o0) o1).cell ((Ext.alloc w3 o0).cell (bxr.c 4 (.slice none 0 0) rfl)))
  have t1r_5 := fun (o0 : Obj) => ((Ext.alloc w3 o0).cell (bxr.c 5 (.slice none 0 0) rfl))
  have t2r_5 := fun (o0 : Obj) (o1 : Obj) => ((Ext.alloc (w3.alloc o0) o1).cell ((Ext.alloc w3 o0).cell (bxr.c 5 (.slice none 0 0) rfl)))
  have t1la_0 := fun (o0 : Obj) => ((Ext.alloc w3 o0).cell (bxla.c 0 (.bool spa) rfl))
  have t2la_0 := fun (o0 : Obj) (o1 : Obj) => ((Ext.alloc (w3.alloc o0) o1).cell ((Ext.alloc w3 o0).cell (bxla.c 0 (.bool spa) rfl)))
  have t1la_1 := fun (o0 : Obj) => ((Ext.alloc w3 o0).cell (bxla.c 1 (.slice Apa Lpa cpa) rfl))
  have t2la_1 := fun (o0 : Obj) (o1 : Obj) => ((Ext.alloc (w3.alloc o0) o1).cell ((Ext.alloc w3 o0).cell (bxla.c 1 (.slice Apa Lpa cpa) rfl)))
  have t1la_2 := fun (o0 : Obj) => ((Ext.alloc w3 o0).cell (bxla.c 2 (.slice Bpa Mpa dpa) rfl))
  have t2la_2 := fun (o0 : Obj) (o1 : Obj) => ((Ext.alloc (w3.alloc o0) o1).cell ((Ext.alloc w3 o0).cell (bxla.c 2 (.slice Bpa Mpa dpa) rfl)))
  have t1ha_0 := fun (o0 : Obj) => ((Ext.alloc w3 o0).cell (bxha.c 0 (.bool spb) rfl))
  have t2ha_0 := fun (o0 : Obj) (o1 : Obj) => ((Ext.alloc (w3.alloc o0) o1).cell ((Ext.alloc w3 o0).cell (bxha.c 0 (.bool spb) rfl)))
  have t1ha_1 := fun (o0 : Obj) => ((Ext.alloc w3 o0).cell (bxha.c 1 (.slice Apb Lpb cpb) rfl))
  have t2ha_1 := fun (o0 : Obj) (o1 : Obj) => ((Ext.alloc (w3.alloc o0) o1).cell ((Ext.alloc w3 o0).cell (bxha.c 1 (.slice Apb Lpb cpb) rfl)))
  have t1ha_2 := fun (o0 : Obj) => ((Ext.alloc w3 o0).cell (bxha.c 2 (.slice Bpb Mpb dpb) rfl))
  have t2ha_2 := fun (o0 : Obj) (o1 : Obj) => ((Ext.alloc (w3.alloc o0) o1).cell ((Ext.alloc w3 o0).cell (bxha.c 2 (.slice Bpb Mpb dpb) rfl)))
  go_wp2_with fail
  clear ki_0 ki_1 ki_2 ki_3 ki_4 ki_5 kj_0 kj_1 kj_2 kj_3 kj_4 kj_5 kr_0 kr_1 kr_2 kr_3 kr_4 kr_5 kla_0 kla_1 kla_2 kha_0 kha_1 kha_2 t1i_0 t2i_0 t1i_1 t2i_1 t1i_2 t2i_2 t1i_3 t2i_3 t1i_4 t2i_4 t1i_5 t2i_5 t1j_0 t2j_0 t1j_1 t2j_1 t1j_2 t2j_2 t1j_3 t2j_3 t1j_4 t2j_4 t1j_5 t2j_5 t1r_0 t2r_0 t1r_1 t2r_1 t1r_2 t2r_2 t1r_3 t2r_3 t1r_4 t2r_4 t1r_5 t2r_5 t1la_0 t2la_0 t1la_1 t2la_1 t1la_2 t2la_2 t1ha_0 t2ha_0 t1ha_1 t2ha_1 t1ha_2 t2ha_2
  obtain ⟨w4, hw⟩ : ∃ z : World, z = ((w3.alloc (.cells #[.bool sqa, .slice Aqa Lqa cqa, .slice Bqa Mqa dqa] 27)).alloc (.cells #[.bool sqb, .slice Aqb Lqb cqb, .slice Bqb Mqb dqb] 27)) := ⟨_, rfl⟩
  rw [← hw]
  have x4 : Ext w3 w4 := by rw [hw]; exact ((Ext.alloc _ _).trans (Ext.alloc _ _))
  replace bxi := bxi.ext x4
  replace bxj := bxj.ext x4
  replace bxr := bxr.ext x4
  replace bxla := bxla.ext x4
  replace bxha := bxha.ext x4
  have bxlb : BK w4 (w3.heap.size) 27 #[.bool sqa, .slice Aqa Lqa cqa, .slice Bqa Mqa dqa] := by rw [hw]; have h5 := (BK.ext (BK.new w3 #[.bool sqa, .slice Aqa Lqa cqa, .slice Bqa Mqa dqa] 27) (Ext.alloc _ (.cells #[.bool sqb, .slice Aqb Lqb cqb, .slice Bqb Mqb dqb] 27))); simpa only [World.size_alloc] using h5
  have bxhb : BK w4 (w3.heap.size + 1) 27 #[.bool sqb, .slice Aqb Lqb cqb, .slice Bqb Mqb dqb] := by rw [hw]; have h5 := (BK.new (w3.alloc (.cells #[.bool sqa, .slice Aqa Lqa cqa, .slice Bqa Mqa dqa] 27)) #[.bool sqb, .slice Aqb Lqb cqb, .slice Bqb Mqb dqb] 27); simpa only [World.size_alloc] using h5
  have szw4 : w4.heap.size = w3.heap.size + 1 + 1 := by rw [hw]; simp only [World.size_alloc]
  clear hw
  have qa := Hq.out.1
  have qb := Hq.out.2
  clear Hq
  have HQ := Lib.hid (And.intro qa qb)
  clear qa qb
  obtain ⟨g, hg⟩ : ∃ g, g = w.heap.size := ⟨_, rfl⟩
  have hgw : w.heap.size ≤ g := by omega
  have hgw2 : g ≤ w.heap.size := by omega
  clear hg
  have HP2 := Lib.hid (And.intro (HP.out.1.mono (g' := g) (by omega)) (HP.out.2.mono (g' := g) (by omega)))
  have HQ2 := Lib.hid (And.intro (HQ.out.1.mono (g' := g) (by omega)) (HQ.out.2.mono (g' := g) (by omega)))
  have kla_0 := bxla.c 0 (.bool spa) rfl
  have kla_1 := bxla.c 1 (.slice Apa Lpa cpa) rfl
  have kla_2 := bxla.c 2 (.slice Bpa Mpa dpa) rfl
  have kha_0 := bxha.c 0 (.bool spb) rfl
  have kha_1 := bxha.c 1 (.slice Apb Lpb cpb) rfl
  have kha_2 := bxha.c 2 (.slice Bpb Mpb dpb) rfl
  have klb_0 := bxlb.c 0 (.bool sqa) rfl
  have klb_1 := bxlb.c 1 (.slice Aqa Lqa cqa) rfl
  have klb_2 := bxlb.c 2 (.slice Bqa Mqa dqa) rfl
  have khb_0 := bxhb.c 0 (.bool sqb) rfl
  have khb_1 := bxhb.c 1 (.slice Aqb Lqb cqb) rfl
  have khb_2 := bxhb.c 2 (.slice Bqb Mqb dqb) rfl
  have HSZ := Lib.hid (And.intro True.intro (And.intro hszw0 (And.intro szw1 (And.intro szw2 (And.intro szw3 szw4)))))
  clear hszw0 szw1 szw2 szw3 szw4
  go_wp2_with fail
  go_cut [10, 11] (fun s10 s11 wx => PutM w4 wx g N (maxQ (minQ q1 q2) (minQ q3 q4)) (minQ (maxQ q1 q2) (maxQ q3 q4)) s10 s11)
  case first =>
    have HK : Hid (∀ w', Ext w4 w' → Ext w4 w' ∧ w'.cell? ⟨w1.heap.size, 0, none⟩ = some (.bool spa) ∧ w'.cell? ⟨w1.heap.size, 1, none⟩ = some (.slice Apa Lpa cpa) ∧ w'.cell? ⟨w1.heap.size, 2, none⟩ = some (.slice Bpa Mpa dpa) ∧ w'.cell? ⟨w1.heap.size + 1, 0, none⟩ = some (.bool spb) ∧ w'.cell? ⟨w1.heap.size + 1, 1, none⟩ = some (.slice Apb Lpb cpb) ∧ w'.cell? ⟨w1.heap.size + 1, 2, none⟩ = some (.slice Bpb Mpb dpb) ∧ w'.cell? ⟨w3.heap.size, 0, none⟩ = some (.bool sqa) ∧ w'.cell? ⟨w3.heap.size, 1, none⟩ = some (.slice Aqa Lqa cqa) ∧ w'.cell? ⟨w3.heap.size, 2, none⟩ = some (.slice Bqa Mqa dqa) ∧ w'.cell? ⟨w3.heap.size + 1, 0, none⟩ = some (.bool sqb) ∧ w'.cell? ⟨w3.heap.size + 1, 1, none⟩ = some (.slice Aqb Lqb cqb) ∧ w'.cell? ⟨w3.heap.size + 1, 2, none⟩ = some (.slice Bqb Mqb dqb)) := fun w' hk => ⟨hk, hk.cell kla_0, hk.cell kla_1, hk.cell kla_2, hk.cell kha_0, hk.cell kha_1, hk.cell kha_2, hk.cell klb_0, hk.cell klb_1, hk.cell klb_2, hk.cell khb_0, hk.cell khb_1, hk.cell khb_2⟩
    first
    | go_region_held3 (fun w' => Ext w4 w' ∧ w'.cell? ⟨w1.heap.size, 0, none⟩ = some (.bool spa) ∧ w'.cell? ⟨w1.heap.size, 1, none⟩ = some (.slice Apa Lpa cpa) ∧ w'.cell? ⟨w1.heap.size, 2, none⟩ = some (.slice Bpa Mpa dpa) ∧ w'.cell? ⟨w1.heap.size + 1, 0, none⟩ = some (.bool spb) ∧ w'.cell? ⟨w1.heap.size + 1, 1, none⟩ = some (.slice Apb Lpb cpb) ∧ w'.cell? ⟨w1.heap.size + 1, 2, none⟩ = some (.slice Bpb Mpb dpb) ∧ w'.cell? ⟨w3.heap.size, 0, none⟩ = some (.bool sqa) ∧ w'.cell? ⟨w3.heap.size, 1, none⟩ = some (.slice Aqa Lqa cqa) ∧ w'.cell? ⟨w3.heap.size, 2, none⟩ = some (.slice Bqa Mqa dqa) ∧ w'.cell? ⟨w3.heap.size + 1, 0, none⟩ = some (.bool sqb) ∧ w'.cell? ⟨w3.heap.size + 1, 1, none⟩ = some (.slice Aqb Lqb cqb) ∧ w'.cell? ⟨w3.heap.size + 1, 2, none⟩ = some (.slice Bqb Mqb dqb))
        ((with_reducible refine HK.out _ ?_; (repeat' first | (with_reducible first | exact Ext.refl _ | assumption | apply Ext.alloc_r | apply Ext.drew_r | apply Ext.drewN_r | apply Ext.set_r | exact Nat.le_refl _) | omega | with_reducible refine Ext.trans ?_ ‹Ext _ _›)))
        (first
          | (go_at_call_of 60 (#[Value.agg #[Value.bool spb, Value.slice Apb Lpb cpb, Value.slice Bpb Mpb dpb], Value.agg #[Value.bool sqb, Value.slice Aqb Lqb cqb, Value.slice Bqb Mqb dqb]]); have hgd := u; clear hgd; refine (lesser_r (HP2.out.2.ext (by with_reducible repeat' first | exact Ext.refl _ | assumption | apply Ext.alloc_r | apply Ext.drew_r | apply Ext.drewN_r | refine Ext.trans ?_ ‹Ext _ _›)) (HQ2.out.2.ext (by with_reducible repeat' first | exact Ext.refl _ | assumption | apply Ext.alloc_r | apply Ext.drew_r | apply Ext.drewN_r | refine Ext.trans ?_ ‹Ext _ _›)) hN).mono ?_; rintro e w6 ⟨sv, Av, cv, Lv, Bv, dv, Mv, rfl, v, x6⟩; (have zs6 := x6.size); (try simp only [World.size_alloc] at zs6); (try ((with_reducible have h6_0 := box_ext (vs := #[.bool false, .slice none 0 0, .slice none 0 0]) x6); have h6_0c0 := (h6_0.1 0 (.bool false) rfl).1; have h6_0f0 := (h6_0.1 0 (.bool false) rfl).2; have h6_0c1 := (h6_0.1 1 (.slice none 0 0) rfl).1; have h6_0f1 := (h6_0.1 1 (.slice none 0 0) rfl).2; have h6_0c2 := (h6_0.1 2 (.slice none 0 0) rfl).1; have h6_0f2 := (h6_0.1 2 (.slice none 0 0) rfl).2; have h6_0b := h6_0.2.1; have h6_0z := h6_0.2.2; (try simp only [World.size_alloc] at h6_0b h6_0z h6_0c0 h6_0f0 h6_0c1 h6_0f1 h6_0c2 h6_0f2); have h6_0m := Nat.ne_of_lt h6_0z; have h6_0n := Nat.ne_of_gt h6_0z; clear h6_0)); (try ((with_reducible have h6_1 := box_ext (vs := #[.bool false, .slice none 0 0, .slice none 0 0]) ((Ext.alloc _ _).trans x6)); have h6_1c0 := (h6_1.1 0 (.bool false) rfl).1; have h6_1f0 := (h6_1.1 0 (.bool false) rfl).2; have h6_1c1 := (h6_1.1 1 (.slice none 0 0) rfl).1; have h6_1f1 := (h6_1.1 1 (.slice none 0 0) rfl).2; have h6_1c2 := (h6_1.1 2 (.slice none 0 0) rfl).1; have h6_1f2 := (h6_1.1 2 (.slice none 0 0) rfl).2; have h6_1b := h6_1.2.1; have h6_1z := h6_1.2.2; (try simp only [World.size_alloc] at h6_1b h6_1z h6_1c0 h6_1f0 h6_1c1 h6_1f1 h6_1c2 h6_1f2); have h6_1m := Nat.ne_of_lt h6_1z; have h6_1n := Nat.ne_of_gt h6_1z; clear h6_1)); (try (have hh : Ext w5 w6 := ?g600; (case g600 => ((with_reducible repeat' first | exact Ext.refl _ | assumption | apply Ext.alloc_r | apply Ext.drew_r | apply Ext.drewN_r | refine Ext.trans ?_ ‹Ext _ _›); done)); replace h5_0f0 := hh.frozen h5_0c0 h5_0f0; replace h5_0c0 := hh.cell h5_0c0; replace h5_0f1 := hh.frozen h5_0c1 h5_0f1; replace h5_0c1 := hh.cell h5_0c1; replace h5_0f2 := hh.frozen h5_0c2 h5_0f2; replace h5_0c2 := hh.cell h5_0c2; replace h5_0b := h5_0b.ext hh; have h5_0z2 := Nat.lt_of_lt_of_le h5_0z hh.size; have h5_0m2 := Nat.ne_of_lt h5_0z2; have h5_0n2 := Nat.ne_of_gt h5_0z2; clear hh)); (try (have hh : Ext w5 w6 := ?g601; (case g601 => ((with_reducible repeat' first | exact Ext.refl _ | assumption | apply Ext.alloc_r | apply Ext.drew_r | apply Ext.drewN_r | refine Ext.trans ?_ ‹Ext _ _›); done)); replace h5_1f0 := hh.frozen h5_1c0 h5_1f0; replace h5_1c0 := hh.cell h5_1c0; replace h5_1f1 := hh.frozen h5_1c1 h5_1f1; replace h5_1c1 := hh.cell h5_1c1; replace h5_1f2 := hh.frozen h5_1c2 h5_1f2; replace h5_1c2 := hh.cell h5_1c2; replace h5_1b := h5_1b.ext hh; have h5_1z2 := Nat.lt_of_lt_of_le h5_1z hh.size; have h5_1m2 := Nat.ne_of_lt h5_1z2; have h5_1n2 := Nat.ne_of_gt h5_1z2; clear hh)))
          | (go_at_call_of 61 (#[Value.agg #[Value.bool spa, Value.slice Apa Lpa cpa, Value.slice Bpa Mpa dpa], Value.agg #[Value.bool sqa, Value.slice Aqa Lqa cqa, Value.slice Bqa Mqa dqa]]); refine (greater_r (HP2.out.1.ext (by with_reducible repeat' first | exact Ext.refl _ | assumption | apply Ext.alloc_r | apply Ext.drew_r | apply Ext.drewN_r | refine Ext.trans ?_ ‹Ext _ _›)) (HQ2.out.1.ext (by with_reducible repeat' first | exact Ext.refl _ | assumption | apply Ext.alloc_r | apply Ext.drew_r | apply Ext.drewN_r | refine Ext.trans ?_ ‹Ext _ _›)) hN).mono ?_; rintro e w5 ⟨su, Au, cu, Lu, Bu, du, Mu, rfl, u, x5⟩; (have zs5 := x5.size); (try simp only [World.size_alloc, World.size_drew] at zs5); (try ((with_reducible have h5_0 := box_ext (vs := #[.bool false, .slice none 0 0, .slice none 0 0]) ((Ext.drew _).trans x5)); have h5_0c0 := (h5_0.1 0 (.bool false) rfl).1; have h5_0f0 := (h5_0.1 0 (.bool false) rfl).2; have h5_0c1 := (h5_0.1 1 (.slice none 0 0) rfl).1; have h5_0f1 := (h5_0.1 1 (.slice none 0 0) rfl).2; have h5_0c2 := (h5_0.1 2 (.slice none 0 0) rfl).1; have h5_0f2 := (h5_0.1 2 (.slice none 0 0) rfl).2; have h5_0b := h5_0.2.1; have h5_0z := h5_0.2.2; (try simp only [World.size_alloc] at h5_0b h5_0z h5_0c0 h5_0f0 h5_0c1 h5_0f1 h5_0c2 h5_0f2); have h5_0m := Nat.ne_of_lt h5_0z; have h5_0n := Nat.ne_of_gt h5_0z; clear h5_0)); (try ((with_reducible have h5_1 := box_ext (vs := #[.bool false, .slice none 0 0, .slice none 0 0]) (((Ext.alloc _ _).trans (Ext.drew _)).trans x5)); have h5_1c0 := (h5_1.1 0 (.bool false) rfl).1; have h5_1f0 := (h5_1.1 0 (.bool false) rfl).2; have h5_1c1 := (h5_1.1 1 (.slice none 0 0) rfl).1; have h5_1f1 := (h5_1.1 1 (.slice none 0 0) rfl).2; have h5_1c2 := (h5_1.1 2 (.slice none 0 0) rfl).1; have h5_1f2 := (h5_1.1 2 (.slice none 0 0) rfl).2; have h5_1b := h5_1.2.1; have h5_1z := h5_1.2.2; (try simp only [World.size_alloc] at h5_1b h5_1z h5_1c0 h5_1f0 h5_1c1 h5_1f1 h5_1c2 h5_1f2); have h5_1m := Nat.ne_of_lt h5_1z; have h5_1n := Nat.ne_of_gt h5_1z; clear h5_1))))
    | fail
    all_goals (clear HK; go_wp2_with fail; go_meet)
    all_goals
      refine PutM.mk (s := su) (A := Au) (c := cu) (L := Lu) (B := Bu) (d := du) (M := Mu) (s' := sv) (A' := Av) (c' := cv) (L' := Lv) (B' := Bv) (d' := dv) (M' := Mv) ?_ ?_ ?_ ?_ (u.kept ?_) (v.kept ?_) ?_
      · (first | exact Nat.le_refl _ | omega | (simp only [World.size_alloc, World.size_drew]; omega) | (simp; omega))
      · (first | exact Nat.le_refl _ | omega | (simp only [World.size_alloc, World.size_drew]; omega) | (simp; omega))
      · (repeat' (first | with_reducible assumption | with_reducible apply BK.set12 | with_reducible apply BK.set6 | with_reducible apply BK.set3 | (with_reducible apply BK.far3; (case hne => (first | assumption | omega | (simp; done) | (simp only [World.size_alloc, World.size_drew]; omega)))) | (with_reducible apply BK.new_; (first | rfl | (simp; done))) | with_reducible apply BK.alloc_ | with_reducible apply BK.drew_ | with_reducible refine BK.ext ?_ ‹Ext _ _›))
      · (repeat' (first | with_reducible assumption | with_reducible apply BK.set12 | with_reducible apply BK.set6 | with_reducible apply BK.set3 | (with_reducible apply BK.far3; (case hne => (first | assumption | omega | (simp; done) | (simp only [World.size_alloc, World.size_drew]; omega)))) | (with_reducible apply BK.new_; (first | rfl | (simp; done))) | with_reducible apply BK.alloc_ | with_reducible apply BK.drew_ | with_reducible refine BK.ext ?_ ‹Ext _ _›))
      · (repeat' (first | with_reducible exact Kept.refl _ | with_reducible apply Kept.alloc_r | with_reducible apply Kept.drew_r | (with_reducible apply Kept.setR6; (case hb => ((with_reducible repeat' first | assumption | apply IsBox.set_ | (apply IsBox.new; (first | rfl | simp); done) | apply IsBox.alloc_ | apply IsBox.drew_ | refine IsBox.ext ?_ ‹Ext _ _›); done))) | (with_reducible apply Kept.setA6; (case hb => ((with_reducible repeat' first | assumption | apply IsBox.set_ | (apply IsBox.new; (first | rfl | simp); done) | apply IsBox.alloc_ | apply IsBox.drew_ | refine IsBox.ext ?_ ‹Ext _ _›); done))) | (with_reducible apply Kept.setI6; (case hb => ((with_reducible repeat' first | assumption | apply IsBox.set_ | (apply IsBox.new; (first | rfl | simp); done) | apply IsBox.alloc_ | apply IsBox.drew_ | refine IsBox.ext ?_ ‹Ext _ _›); done))) | with_reducible refine Kept.trans ?_ (Ext.kept ‹Ext _ _›)))
      · (repeat' (first | with_reducible exact Kept.refl _ | with_reducible apply Kept.alloc_r | with_reducible apply Kept.drew_r | (with_reducible apply Kept.setR6; (case hb => ((with_reducible repeat' first | assumption | apply IsBox.set_ | (apply IsBox.new; (first | rfl | simp); done) | apply IsBox.alloc_ | apply IsBox.drew_ | refine IsBox.ext ?_ ‹Ext _ _›); done))) | (with_reducible apply Kept.setA6; (case hb => ((with_reducible repeat' first | assumption | apply IsBox.set_ | (apply IsBox.new; (first | rfl | simp); done) | apply IsBox.alloc_ | apply IsBox.drew_ | refine IsBox.ext ?_ ‹Ext _ _›); done))) | (with_reducible apply Kept.setI6; (case hb => ((with_reducible repeat' first | assumption | apply IsBox.set_ | (apply IsBox.new; (first | rfl | simp); done) | apply IsBox.alloc_ | apply IsBox.drew_ | refine IsBox.ext ?_ ‹Ext _ _›); done))) | with_reducible refine Kept.trans ?_ (Ext.kept ‹Ext _ _›)))
      · (repeat' first | (with_reducible first | exact Ext.refl _ | assumption | apply Ext.alloc_r | apply Ext.drew_r | apply Ext.drewN_r | apply Ext.set_r | exact Nat.le_refl _) | omega | with_reducible refine Ext.trans ?_ ‹Ext _ _›)
  case rest =>
    obtain ⟨hszw0, szw1, szw2, szw3, szw4⟩ := HSZ.out.2
    clear kla_0 kla_1 kla_2 kha_0 kha_1 kha_2 klb_0 klb_1 klb_2 khb_0 khb_1 khb_2
    obtain ⟨b10, b11, su, Au, cu, Lu, Bu, du, Mu, sv, Av, cv, Lv, Bv, dv, Mv, rfl, rfl, hb10, hb11, bxlo, bxhi, u, v, hxc⟩ := hcut
    obtain ⟨wq, rfl⟩ : ∃ z : World, z = wc := ⟨_, rfl⟩
    have hszq := hxc.size
    have HU := Lib.hid (And.intro u v)
    clear u v HP HQ HP2 HQ2
    clear bxi
    clear bxj
    clear bxla
    clear bxha
    clear bxlb
    clear bxhb
    replace bxr := bxr.ext hxc
    have kr_0 := bxr.c 0 (.bool false) rfl
    have kr_1 := bxr.c 1 (.slice none 0 0) rfl
    have kr_2 := bxr.c 2 (.slice none 0 0) rfl
    have kr_3 := bxr.c 3 (.bool false) rfl
    have kr_4 := bxr.c 4 (.slice none 0 0) rfl
    have kr_5 := bxr.c 5 (.slice none 0 0) rfl
    have klo_0 := bxlo.c 0 (.bool su) rfl
    have klo_1 := bxlo.c 1 (.slice Au Lu cu) rfl
    have klo_2 := bxlo.c 2 (.slice Bu Mu du) rfl
    have khi_0 := bxhi.c 0 (.bool sv) rfl
    have khi_1 := bxhi.c 1 (.slice Av Lv cv) rfl
    have khi_2 := bxhi.c 2 (.slice Bv Mv dv) rfl
    go_wp2_with fail
    clear kr_0 kr_1 kr_2 kr_3 kr_4 kr_5 klo_0 klo_1 klo_2 khi_0 khi_1 khi_2
    refine (rcmp_k (HU.out.1.rv.ext (by with_reducible repeat' first | exact Ext.refl _ | assumption | apply Ext.alloc_r | apply Ext.drew_r | apply Ext.drewN_r | refine Ext.trans ?_ ‹Ext _ _›)) (HU.out.2.rv.ext (by with_reducible repeat' first | exact Ext.refl _ | assumption | apply Ext.alloc_r | apply Ext.drew_r | apply Ext.drewN_r | refine Ext.trans ?_ ‹Ext _ _›)) hN HK.out).mono ?_
    rintro e w7 ⟨rfl, x7⟩
    have szw7 : wq.heap.size ≤ w7.heap.size := x7.size
    replace bxr := bxr.ext x7
    replace bxlo := bxlo.ext x7
    replace bxhi := bxhi.ext x7
    have kr_0 := bxr.c 0 (.bool false) rfl
    have fr_0 := bxr.f 0
    have kr_1 := bxr.c 1 (.slice none 0 0) rfl
    have fr_1 := bxr.f 1
    have kr_2 := bxr.c 2 (.slice none 0 0) rfl
    have fr_2 := bxr.f 2
    have kr_3 := bxr.c 3 (.bool false) rfl
    have fr_3 := bxr.f 3
    have kr_4 := bxr.c 4 (.slice none 0 0) rfl
    have fr_4 := bxr.f 4
    have kr_5 := bxr.c 5 (.slice none 0 0) rfl
    have fr_5 := bxr.f 5
    have klo_0 := bxlo.c 0 (.bool su) rfl
    have klo_1 := bxlo.c 1 (.slice Au Lu cu) rfl
    have klo_2 := bxlo.c 2 (.slice Bu Mu du) rfl
    have khi_0 := bxhi.c 0 (.bool sv) rfl
    have khi_1 := bxhi.c 1 (.slice Av Lv cv) rfl
    have khi_2 := bxhi.c 2 (.slice Bv Mv dv) rfl
    go_wp2_with fail
    clear kr_0 fr_0 kr_1 fr_1 kr_2 fr_2 kr_3 fr_3 kr_4 fr_4 kr_5 fr_5 klo_0 klo_1 klo_2 khi_0 khi_1 khi_2
    have u2 := (HU.out.1.ext (show Ext _ w7 from (by with_reducible repeat' first | exact Ext.refl _ | assumption | apply Ext.alloc_r | apply Ext.drew_r | apply Ext.drewN_r | refine Ext.trans ?_ ‹Ext _ _›))).mono (show w.heap.size ≤ _ by omega)
    have v2 := (HU.out.2.ext (show Ext _ w7 from (by with_reducible repeat' first | exact Ext.refl _ | assumption | apply Ext.alloc_r | apply Ext.drew_r | apply Ext.drewN_r | refine Ext.trans ?_ ‹Ext _ _›))).mono (show w.heap.size ≤ _ by omega)
    clear HU
    obtain ⟨w8, hw⟩ : ∃ z : World, z = ((((((w7.setCell ⟨w.heap.size + 1 + 1, 0, none⟩ (.bool su)).setCell ⟨w.heap.size + 1 + 1, 1, none⟩ (.slice Au Lu cu)).setCell ⟨w.heap.size + 1 + 1, 2, none⟩ (.slice Bu Mu du)).setCell ⟨w.heap.size + 1 + 1, 3, none⟩ (.bool sv)).setCell ⟨w.heap.size + 1 + 1, 4, none⟩ (.slice Av Lv cv)).setCell ⟨w.heap.size + 1 + 1, 5, none⟩ (.slice Bv Mv dv)) := ⟨_, rfl⟩
    rw [← hw]
    have kw8 : Kept w7 w8 := by rw [hw]; exact (Kept.set_ (Kept.set_ (Kept.set_ (Kept.set_ (Kept.set_ (Kept.set_ (Kept.refl _) bxr.isBox plain_iv) (IsBox.set_ bxr.isBox) plain_iv) (IsBox.set_ (IsBox.set_ bxr.isBox)) plain_iv) (IsBox.set_ (IsBox.set_ (IsBox.set_ bxr.isBox))) plain_iv) (IsBox.set_ (IsBox.set_ (IsBox.set_ (IsBox.set_ bxr.isBox)))) plain_iv) (IsBox.set_ (IsBox.set_ (IsBox.set_ (IsBox.set_ (IsBox.set_ bxr.isBox))))) plain_iv)
    have nbr : BK w8 (w.heap.size + 1 + 1) 29 #[.bool su, .slice Au Lu cu, .slice Bu Mu du, .bool sv, .slice Av Lv cv, .slice Bv Mv dv] := by rw [hw]; exact (BK.set (i := 5) (u := .slice Bv Mv dv) (vs' := #[.bool su, .slice Au Lu cu, .slice Bu Mu du, .bool sv, .slice Av Lv cv, .slice Bv Mv dv]) (BK.set (i := 4) (u := .slice Av Lv cv) (vs' := #[.bool su, .slice Au Lu cu, .slice Bu Mu du, .bool sv, .slice Av Lv cv, .slice none 0 0]) (BK.set (i := 3) (u := .bool sv) (vs' := #[.bool su, .slice Au Lu cu, .slice Bu Mu du, .bool sv, .slice none 0 0, .slice none 0 0]) (BK.set (i := 2) (u := .slice Bu Mu du) (vs' := #[.bool su, .slice Au Lu cu, .slice Bu Mu du, .bool false, .slice none 0 0, .slice none 0 0]) (BK.set (i := 1) (u := .slice Au Lu cu) (vs' := #[.bool su, .slice Au Lu cu, .slice none 0 0, .bool false, .slice none 0 0, .slice none 0 0]) (BK.set (i := 0) (u := .bool su) (vs' := #[.bool su, .slice none 0 0, .slice none 0 0, .bool false, .slice none 0 0, .slice none 0 0]) bxr rfl) rfl) rfl) rfl) rfl) rfl)
    have nblo : BK w8 (b10) 27 #[.bool su, .slice Au Lu cu, .slice Bu Mu du] := by rw [hw]; exact (BK.far (BK.far (BK.far (BK.far (BK.far (BK.far bxlo (show b10 ≠ w.heap.size + 1 + 1 by omega) 0 _) (show b10 ≠ w.heap.size + 1 + 1 by omega) 1 _) (show b10 ≠ w.heap.size + 1 + 1 by omega) 2 _) (show b10 ≠ w.heap.size + 1 + 1 by omega) 3 _) (show b10 ≠ w.heap.size + 1 + 1 by omega) 4 _) (show b10 ≠ w.heap.size + 1 + 1 by omega) 5 _)
    have nbhi : BK w8 (b11) 27 #[.bool sv, .slice Av Lv cv, .slice Bv Mv dv] := by rw [hw]; exact (BK.far (BK.far (BK.far (BK.far (BK.far (BK.far bxhi (show b11 ≠ w.heap.size + 1 + 1 by omega) 0 _) (show b11 ≠ w.heap.size + 1 + 1 by omega) 1 _) (show b11 ≠ w.heap.size + 1 + 1 by omega) 2 _) (show b11 ≠ w.heap.size + 1 + 1 by omega) 3 _) (show b11 ≠ w.heap.size + 1 + 1 by omega) 4 _) (show b11 ≠ w.heap.size + 1 + 1 by omega) 5 _)
    have x8 : Ext w w8 := by rw [hw]; have hxp : Ext w w7 := (by with_reducible repeat' first | exact Ext.refl _ | assumption | apply Ext.alloc_r | apply Ext.drew_r | apply Ext.drewN_r | refine Ext.trans ?_ ‹Ext _ _›); exact (Ext.set_ (Ext.set_ (Ext.set_ (Ext.set_ (Ext.set_ (Ext.set_ hxp (show _ ≤ w.heap.size + 1 + 1 by omega)) (show _ ≤ w.heap.size + 1 + 1 by omega)) (show _ ≤ w.heap.size + 1 + 1 by omega)) (show _ ≤ w.heap.size + 1 + 1 by omega)) (show _ ≤ w.heap.size + 1 + 1 by omega)) (show _ ≤ w.heap.size + 1 + 1 by omega))
    clear bxr
    clear bxlo
    clear bxhi
    have bxr := nbr
    clear nbr
    have bxlo := nblo
    clear nblo
    have bxhi := nbhi
    clear nbhi
    have szw8 : w8.heap.size = w7.heap.size := by rw [hw]; simp
    replace u2 := (u2.ext (by with_reducible repeat' first | exact Ext.refl _ | assumption | apply Ext.alloc_r | apply Ext.drew_r | apply Ext.drewN_r | refine Ext.trans ?_ ‹Ext _ _›)).kept kw8
    replace v2 := (v2.ext (by with_reducible repeat' first | exact Ext.refl _ | assumption | apply Ext.alloc_r | apply Ext.drew_r | apply Ext.drewN_r | refine Ext.trans ?_ ‹Ext _ _›)).kept kw8
    clear hw kw8
    have HU := Lib.hid u2
    have HV := Lib.hid v2
    clear u2 v2
    have kr_0 := bxr.c 0 (.bool su) rfl
    have kr_1 := bxr.c 1 (.slice Au Lu cu) rfl
    have kr_2 := bxr.c 2 (.slice Bu Mu du) rfl
    have kr_3 := bxr.c 3 (.bool sv) rfl
    have kr_4 := bxr.c 4 (.slice Av Lv cv) rfl
    have kr_5 := bxr.c 5 (.slice Bv Mv dv) rfl
    refine bodyPost_ret (v := .tuple #[Value.agg #[Value.bool su, Value.slice Au Lu cu, Value.slice Bu Mu du, Value.bool sv, Value.slice Av Lv cv, Value.slice Bv Mv dv], .bool true]) (by simp [results, Tryz.results41, go_sem, kr_0, kr_1, kr_2, kr_3, kr_4, kr_5]) rfl ?_
    exact ⟨_, _, _, _, _, _, _, _, _, _, _, _, _, _, rfl, HU.out, HV.out, x8⟩
set_option maxHeartbeats 4000000 in
set_option maxRecDepth 100000 in
theorem imeet_no {w : World} {N : Nat} {s1 s2 s3 s4 : Bool} {A1 B1 A2 B2 A3 B3 A4 B4 : Option Addr} {c1 d1 L1 M1 c2 d2 L2 M2 c3 d3 L3 M3 c4 d4 L4 M4 : Nat} {q1 q2 q3 q4 : Rat} (h1 : RV w s1 A1 c1 L1 B1 d1 M1 N q1) (h2 : RV w s2 A2 c2 L2 B2 d2 M2 N q2) (h3 : RV w s3 A3 c3 L3 B3 d3 M3 N q3) (h4 : RV w s4 A4 c4 L4 B4 d4 M4 N q4) (hN : N < 48) (hq : minQ (maxQ q1 q2) (maxQ q3 q4) < maxQ (minQ q1 q2) (minQ q3 q4)) :
    Calls Tryz.prog 41 #[Value.agg #[Value.bool s1, Value.slice A1 L1 c1, Value.slice B1 M1 d1, Value.bool s2, Value.slice A2 L2 c2, Value.slice B2 M2 d2], Value.agg #[Value.bool s3, Value.slice A3 L3 c3, Value.slice B3 M3 d3, Value.bool s4, Value.slice A4 L4 c4, Value.slice B4 M4 d4]] w fun e w' => e = .returned (.tuple #[.agg #[.bool false, .slice none 0 0, .slice none 0 0, .bool false, .slice none 0 0, .slice none 0 0], .bool false]) ∧ Ext w w' := by
  obtain ⟨K, hK⟩ : ∃ K : Int, K = cmpQ (maxQ (minQ q1 q2) (minQ q3 q4)) (minQ (maxQ q1 q2) (maxQ q3 q4)) := ⟨_, rfl⟩
  have hk : K > 0 := by rw [hK]; exact (cmpQ_gt _ _).2 hq
  have HK := Lib.hid hK.symm
  clear hK hq
  go_enter Tryz.func41, Tryz.ntmps41
  go_wp2_with fail
  obtain ⟨w0, hw0⟩ : ∃ z : World, z = (((w.alloc (.cells #[.bool s1, .slice A1 L1 c1, .slice B1 M1 d1, .bool s2, .slice A2 L2 c2, .slice B2 M2 d2] 29)).alloc (.cells #[.bool s3, .slice A3 L3 c3, .slice B3 M3 d3, .bool s4, .slice A4 L4 c4, .slice B4 M4 d4] 29)).alloc (.cells #[.bool false, .slice none 0 0, .slice none 0 0, .bool false, .slice none 0 0, .slice none 0 0] 29)) := ⟨_, rfl⟩
  rw [← hw0]
  have bxi : BK w0 (w.heap.size) 29 #[.bool s1, .slice A1 L1 c1, .slice B1 M1 d1, .bool s2, .slice A2 L2 c2, .slice B2 M2 d2] := by rw [hw0]; have h5 := (BK.ext (BK.ext (BK.new w #[.bool s1, .slice A1 L1 c1, .slice B1 M1 d1, .bool s2, .slice A2 L2 c2, .slice B2 M2 d2] 29) (Ext.alloc _ (.cells #[.bool s3, .slice A3 L3 c3, .slice B3 M3 d3, .bool s4, .slice A4 L4 c4, .slice B4 M4 d4] 29))) (Ext.alloc _ (.cells #[.bool false, .slice none 0 0, .slice none 0 0, .bool false, .slice none 0 0, .slice none 0 0] 29))); simpa only [World.size_alloc] using h5
  have bxj : BK w0 (w.heap.size + 1) 29 #[.bool s3, .slice A3 L3 c3, .slice B3 M3 d3, .bool s4, .slice A4 L4 c4, .slice B4 M4 d4] := by rw [hw0]; have h5 := (BK.ext (BK.new (w.alloc (.cells #[.bool s1, .slice A1 L1 c1, .slice B1 M1 d1, .bool s2, .slice A2 L2 c2, .slice B2 M2 d2] 29)) #[.bool s3, .slice A3 L3 c3, .slice B3 M3 d3, .bool s4, .slice A4 L4 c4, .slice B4 M4 d4] 29) (Ext.alloc _ (.cells #[.bool false, .slice none 0 0, .slice none 0 0, .bool false, .slice none 0 0, .slice none 0 0] 29))); simpa only [World.size_alloc] using h5
  have bxr : BK w0 (w.heap.size + 1 + 1) 29 #[.bool false, .slice none 0 0, .slice none 0 0, .bool false, .slice none 0 0, .slice none 0 0] := by rw [hw0]; have h5 := (BK.new ((w.alloc (.cells #[.bool s1, .slice A1 L1 c1, .slice B1 M1 d1, .bool s2, .slice A2 L2 c2, .slice B2 M2 d2] 29)).alloc (.cells #[.bool s3, .slice A3 L3 c3, .slice B3 M3 d3, .bool s4, .slice A4 L4 c4, .slice B4 M4 d4] 29)) #[.bool false, .slice none 0 0, .slice none 0 0, .bool false, .slice none 0 0, .slice none 0 0] 29); simpa only [World.size_alloc] using h5
  have hszw0 : w0.heap.size = w.heap.size + 1 + 1 + 1 := by rw [hw0]; simp only [World.size_alloc]
  have xw0 : Ext w w0 := by rw [hw0]; exact (((Ext.alloc _ _).trans (Ext.alloc _ _)).trans (Ext.alloc _ _))
  clear hw0
  refine (bounds_r (h1.ext (by with_reducible repeat' first | exact Ext.refl _ | assumption | apply Ext.alloc_r | apply Ext.drew_r | apply Ext.drewN_r | refine Ext.trans ?_ ‹Ext _ _›)) (h2.ext (by with_reducible repeat' first | exact Ext.refl _ | assumption | apply Ext.alloc_r | apply Ext.drew_r | apply Ext.drewN_r | refine Ext.trans ?_ ‹Ext _ _›)) (by omega)).mono ?_
  rintro e w1 ⟨spa, Apa, cpa, Lpa, Bpa, dpa, Mpa, spb, Apb, cpb, Lpb, Bpb, dpb, Mpb, rfl, pa, pb, x1⟩
  have szw1 : w0.heap.size ≤ w1.heap.size := x1.size
  replace bxi := bxi.ext x1
  replace bxj := bxj.ext x1
  replace bxr := bxr.ext x1
  have Hp := Lib.hid (And.intro pa pb)
  clear pa pb
  have ki_0 := bxi.c 0 (.bool s1) rfl
  have ki_1 := bxi.c 1 (.slice A1 L1 c1) rfl
  have ki_2 := bxi.c 2 (.slice B1 M1 d1) rfl
  have ki_3 := bxi.c 3 (.bool s2) rfl
  have ki_4 := bxi.c 4 (.slice A2 L2 c2) rfl
  have ki_5 := bxi.c 5 (.slice B2 M2 d2) rfl
  have kj_0 := bxj.c 0 (.bool s3) rfl
  have kj_1 := bxj.c 1 (.slice A3 L3 c3) rfl
  have kj_2 := bxj.c 2 (.slice B3 M3 d3) rfl
  have kj_3 := bxj.c 3 (.bool s4) rfl
  have kj_4 := bxj.c 4 (.slice A4 L4 c4) rfl
  have kj_5 := bxj.c 5 (.slice B4 M4 d4) rfl
  have kr_0 := bxr.c 0 (.bool false) rfl
  have kr_1 := bxr.c 1 (.slice none 0 0) rfl
  have kr_2 := bxr.c 2 (.slice none 0 0) rfl
  have kr_3 := bxr.c 3 (.bool false) rfl
  have kr_4 := bxr.c 4 (.slice none 0 0) rfl
  have kr_5 := bxr.c 5 (.slice none 0 0) rfl
  have t1i_0 := fun (o0 : Obj) => ((Ext.alloc w1 o0).cell (bxi.c 0 (.bool s1) rfl))
  have t2i_0 := fun (o0 : Obj) (o1 : Obj) => ((Ext.alloc (w1.alloc o0) o1).cell ((Ext.alloc w1 o0).cell (bxi.c 0 (.bool s1) rfl)))
  have t1i_1 := fun (o0 : Obj) => ((Ext.alloc w1 o0).cell (bxi.c 1 (.slice A1 L1 c1) rfl))
  have t2i_1 := fun (o0 : Obj) (o1 : Obj) => ((Ext.alloc (w1.alloc o0) o1).cell ((Ext.alloc w1 o0).cell (bxi.c 1 (.slice A1 L1 c1) rfl)))
  have t1i_2 := fun (o0 : Obj) => ((Ext.alloc w1 o0).cell (bxi.c 2 (.slice B1 M1 d1) rfl))
  have t2i_2 := fun (o0 : Obj) (o1 : Obj) => ((Ext.alloc (w1.alloc o0) o1).cell ((Ext.alloc w1 o0).cell (bxi.c 2 (.slice B1 M1 d1) rfl)))
  have t1i_3 := fun (o0 : Obj) => ((Ext.alloc w1 o0).cell (bxi.c 3 (.bool s2) rfl))
  have t2i_3 := fun (o0 : Obj) (o1 : Obj) => ((Ext.alloc (w1.alloc o0) o1).cell ((Ext.alloc w1 o0).cell (bxi.c 3 (.bool s2) rfl)))
  have t1i_4 := fun (o0 : Obj) => ((Ext.alloc w1 o0).cell (bxi.c 4 (.slice A2 L2 c2) rfl))
  have t2i_4 := fun (o0 : Obj) (o1 : Obj) => ((Ext.alloc (w1.alloc o0) o1).cell ((Ext.alloc w1 o0).cell (bxi.c 4 (.slice A2 L2 c2) rfl)))
  have t1i_5 := fun (o0 : Obj) => ((Ext.alloc w1 o0).cell (bxi.c 5 (.slice B2 M2 d2) rfl))
  have t2i_5 := fun (o0 : Obj) (o1 : Obj) => ((Ext.alloc (w1.alloc o0) o1).cell ((Ext.alloc w1 o0).cell (bxi.c 5 (.slice B2 M2 d2) rfl)))
  have t1j_0 := fun (o0 : Obj) => ((Ext.alloc w1 o0).cell (bxj.c 0 (.bool s3) rfl))
  have t2j_0 := fun (o0 : Obj) (o1 : Obj) => ((Ext.alloc (w1.alloc o0) o1).cell ((Ext.alloc w1 o0).cell (bxj.c 0 (.bool s3) rfl)))
  have t1j_1 := fun (o0 : Obj) => ((Ext.alloc w1 o0).cell (bxj.c 1 (.slice A3 L3 c3) rfl))
  have t2j_1 := fun (o0 : Obj) (o1 : Obj) => ((Ext.alloc (w1.alloc o0) o1).cell ((Ext.alloc w1 o0).cell (bxj.c 1 (.slice A3 L3 c3) rfl)))
  have t1j_2 := fun (o0 : Obj) => ((Ext.alloc w1 o0).cell (bxj.c 2 (.slice B3 M3 d3) rfl))
  have t2j_2 := fun (o0 : Obj) (o1 : Obj) => ((Ext.alloc (w1.alloc o0) o1).cell ((Ext.alloc w1 o0).cell (bxj.c 2 (.slice B3 M3 d3) rfl)))
  have t1j_3 := fun (o0 : Obj) => ((Ext.alloc w1 o0).cell (bxj.c 3 (.bool s4) rfl))
  have t2j_3 := fun (o0 : Obj) (o1 : Obj) => ((Ext.alloc (w1.alloc o0) o1).cell ((Ext.alloc w1 o0).cell (bxj.c 3 (.bool s4) rfl)))
  have t1j_4 := fun (o0 : Obj) => ((Ext.alloc w1 o0).cell (bxj.c 4 (.slice A4 L4 c4) rfl))
  have t2j_4 := fun (o0 : Obj) (o1 : Obj) => ((Ext.alloc (w1.alloc o0) o1).cell ((Ext.alloc w1 o0).cell (bxj.c 4 (.slice A4 L4 c4) rfl)))
  have t1j_5 := fun (o0 : Obj) => ((Ext.alloc w1 o0).cell (bxj.c 5 (.slice B4 M4 d4) rfl))
  have t2j_5 := fun (o0 : Obj) (o1 : Obj) => ((Ext.alloc (w1.alloc o0) o1).cell ((Ext.alloc w1 o0).cell (bxj.c 5 (.slice B4 M4 d4) rfl)))
  have t1r_0 := fun (o0 : Obj) => ((Ext.alloc w1 o0).cell (bxr.c 0 (.bool false) rfl))
  have t2r_0 := fun (o0 : Obj) (o1 : Obj) => ((Ext.alloc (w1.alloc o0) o1).cell ((Ext.alloc w1 o0).cell (bxr.c 0 (.bool false) rfl)))
  have t1r_1 := fun (o0 : Obj) => ((Ext.alloc w1 o0).cell (bxr.c 1 (.slice none 0 0) rfl))
  have t2r_1 := fun (o0 : Obj) (o1 : Obj) => ((Ext.alloc (w1.alloc o0) o1).cell ((Ext.alloc w1 o0).cell (bxr.c 1 (.slice none 0 0) rfl)))
  have t1r_2 := fun (o0 : Obj) => ((Ext.alloc w1 o0).cell (bxr.c 2 (.slice none 0 0) rfl))
  have t2r_2 := fun (o0 : Obj) (o1 : Obj) => ((Ext.alloc (w1.alloc o0) o1).cell ((Ext.alloc w1 o0).cell (bxr.c 2 (.slice none 0 0) rfl)))
  have t1r_3 := fun (o0 : Obj) => ((Ext.alloc w1 o0).cell (bxr.c 3 (.bool false) rfl))
  have t2r_3 := fun (o0 : Obj) (o1 : Obj) => ((Ext.alloc (w1.alloc o0) o1).cell ((Ext.alloc w1 o0).cell (bxr.c 3 (.bool false) rfl)))
  have t1r_4 := fun (o0 : Obj) => ((Ext.alloc w1 o0).cell (bxr.c 4 (.slice none 0 0) rfl))
  have t2r_4 := fun (o0 : Obj) (o1 : Obj) => ((Ext.alloc (w1.alloc o0) o1).cell ((Ext.alloc w1 o0).cell (bxr.c 4 (.slice none 0 0) rfl)))
  have t1r_5 := fun (o0 : Obj) => ((Ext.alloc w1 o0).cell (bxr.c 5 (.slice none 0 0) rfl))
  have t2r_5 := fun (o0 : Obj) (o1 : Obj) => ((Ext.alloc (w1.alloc o0) o1).cell ((Ext.alloc w1 o0).cell (bxr.c 5 (.slice none 0 0) rfl)))
  go_wp2_with fail
  clear ki_0 ki_1 ki_2 ki_3 ki_4 ki_5 kj_0 kj_1 kj_2 kj_3 kj_4 kj_5 kr_0 kr_1 kr_2 kr_3 kr_4 kr_5 t1i_0 t2i_0 t1i_1 t2i_1 t1i_2 t2i_2 t1i_3 t2i_3 t1i_4 t2i_4 t1i_5 t2i_5 t1j_0 t2j_0 t1j_1 t2j_1 t1j_2 t2j_2 t1j_3 t2j_3 t1j_4 t2j_4 t1j_5 t2j_5 t1r_0 t2r_0 t1r_1 t2r_1 t1r_2 t2r_2 t1r_3 t2r_3 t1r_4 t2r_4 t1r_5 t2r_5
  obtain ⟨w2, hw⟩ : ∃ z : World, z = ((w1.alloc (.cells #[.bool spa, .slice Apa Lpa cpa, .slice Bpa Mpa dpa] 27)).alloc (.cells #[.bool spb, .slice Apb Lpb cpb, .slice Bpb Mpb dpb] 27)) := ⟨_, rfl⟩
  rw [← hw]
  have x2 : Ext w1 w2 := by rw [hw]; exact ((Ext.alloc _ _).trans (Ext.alloc _ _))
  replace bxi := bxi.ext x2
  replace bxj := bxj.ext x2
  replace bxr := bxr.ext x2
  have bxla : BK w2 (w1.heap.size) 27 #[.bool spa, .slice Apa Lpa cpa, .slice Bpa Mpa dpa] := by rw [hw]; have h5 := (BK.ext (BK.new w1 #[.bool spa, .slice Apa Lpa cpa, .slice Bpa Mpa dpa] 27) (Ext.alloc _ (.cells #[.bool spb, .slice Apb Lpb cpb, .slice Bpb Mpb dpb] 27))); simpa only [World.size_alloc] using h5
  have bxha : BK w2 (w1.heap.size + 1) 27 #[.bool spb, .slice Apb Lpb cpb, .slice Bpb Mpb dpb] := by rw [hw]; have h5 := (BK.new (w1.alloc (.cells #[.bool spa, .slice Apa Lpa cpa, .slice Bpa Mpa dpa] 27)) #[.bool spb, .slice Apb Lpb cpb, .slice Bpb Mpb dpb] 27); simpa only [World.size_alloc] using h5
  have szw2 : w2.heap.size = w1.heap.size + 1 + 1 := by rw [hw]; simp only [World.size_alloc]
  clear hw
  have pa := Hp.out.1
  have pb := Hp.out.2
  clear Hp
  have HP := Lib.hid (And.intro pa pb)
  clear pa pb
  refine (bounds_r (h3.ext (by with_reducible repeat' first | exact Ext.refl _ | assumption | apply Ext.alloc_r | apply Ext.drew_r | apply Ext.drewN_r | refine Ext.trans ?_ ‹Ext _ _›)) (h4.ext (by with_reducible repeat' first | exact Ext.refl _ | assumption | apply Ext.alloc_r | apply Ext.drew_r | apply Ext.drewN_r | refine Ext.trans ?_ ‹Ext _ _›)) (by omega)).mono ?_
  rintro e w3 ⟨sqa, Aqa, cqa, Lqa, Bqa, dqa, Mqa, sqb, Aqb, cqb, Lqb, Bqb, dqb, Mqb, rfl, qa, qb, x3⟩
  have szw3 : w2.heap.size ≤ w3.heap.size := x3.size
  replace bxi := bxi.ext x3
  replace bxj := bxj.ext x3
  replace bxr := bxr.ext x3
  replace bxla := bxla.ext x3
  replace bxha := bxha.ext x3
  have Hq := Lib.hid (And.intro qa qb)
  clear qa qb
  have ki_0 := bxi.c 0 (.bool s1) rfl
  have ki_1 := bxi.c 1 (.slice A1 L1 c1) rfl
  have ki_2 := bxi.c 2 (.slice B1 M1 d1) rfl
  have ki_3 := bxi.c 3 (.bool s2) rfl
  have ki_4 := bxi.c 4 (.slice A2 L2 c2) rfl
  have ki_5 := bxi.c 5 (.slice B2 M2 d2) rfl
  have kj_0 := bxj.c 0 (.bool s3) rfl
  have kj_1 := bxj.c 1 (.slice A3 L3 c3) rfl
  have kj_2 := bxj.c 2 (.slice B3 M3 d3) rfl
  have kj_3 := bxj.c 3 (.bool s4) rfl
  have kj_4 := bxj.c 4 (.slice A4 L4 c4) rfl
  have kj_5 := bxj.c 5 (.slice B4 M4 d4) rfl
  have kr_0 := bxr.c 0 (.bool false) rfl
  have kr_1 := bxr.c 1 (.slice none 0 0) rfl
  have kr_2 := bxr.c 2 (.slice none 0 0) rfl
  have kr_3 := bxr.c 3 (.bool false) rfl
  have kr_4 := bxr.c 4 (.slice none 0 0) rfl
  have kr_5 := bxr.c 5 (.slice none 0 0) rfl
  have kla_0 := bxla.c 0 (.bool spa) rfl
  have kla_1 := bxla.c 1 (.slice Apa Lpa cpa) rfl
  have kla_2 := bxla.c 2 (.slice Bpa Mpa dpa) rfl
  have kha_0 := bxha.c 0 (.bool spb) rfl
  have kha_1 := bxha.c 1 (.slice Apb Lpb cpb) rfl
  have kha_2 := bxha.c 2 (.slice Bpb Mpb dpb) rfl
  have t1i_0 := fun (o0 : Obj) => ((Ext.alloc w3 o0).cell (bxi.c 0 (.bool s1) rfl))
  have t2i_0 := fun (o0 : Obj) (o1 : Obj) => ((Ext.alloc (w3.alloc o0) o1).cell ((Ext.alloc w3 o0).cell (bxi.c 0 (.bool s1) rfl)))
  have t1i_1 := fun (o0 : Obj) => ((Ext.alloc w3 o0).cell (bxi.c 1 (.slice A1 L1 c1) rfl))
  have t2i_1 := fun (o0 : Obj) (o1 : Obj) => ((Ext.alloc (w3.alloc o0) o1).cell ((Ext.alloc w3 o0).cell (bxi.c 1 (.slice A1 L1 c1) rfl)))
  have t1i_2 := fun (o0 : Obj) => ((Ext.alloc w3 o0).cell (bxi.c 2 (.slice B1 M1 d1) rfl))
  have t2i_2 := fun (o0 : Obj) (o1 : Obj) => ((Ext.alloc (w3.alloc o0) o1).cell ((Ext.alloc w3 o0).cell (bxi.c 2 (.slice B1 M1 d1) rfl)))
  have t1i_3 := fun (o0 : Obj) => ((Ext.alloc w3 o0).cell (bxi.c 3 (.bool s2) rfl))
  have t2i_3 := fun (o0 : Obj) (o1 : Obj) => ((Ext.alloc (w3.alloc o0) o1).cell ((Ext.alloc w3 o0).cell (bxi.c 3 (.bool s2) rfl)))
  have t1i_4 := fun (o0 : Obj) => ((Ext.alloc w3 o0).cell (bxi.c 4 (.slice A2 L2 c2) rfl))
  have t2i_4 := fun (o0 : Obj) (o1 : Obj) => ((Ext.alloc (w3.alloc o0) o1).cell ((Ext.alloc w3 o0).cell (bxi.c 4 (.slice A2 L2 c2) rfl)))
  have t1i_5 := fun (o0 : Obj) => ((Ext.alloc w3 o0).cell (bxi.c 5 (.slice B2 M2 d2) rfl))
  have t2i_5 := fun (o0 : Obj) (o1 : Obj) => ((Ext.alloc (w3.alloc o0) o1).cell ((Ext.alloc w3 o0).cell (bxi.c 5 (.slice B2 M2 d2) rfl)))
  have t1j_0 := fun (o0 : Obj) => ((Ext.alloc w3 o0).cell (bxj.c 0 (.bool s3) rfl))
  have t2j_0 := fun (o0 : Obj) (o1 : Obj) => ((Ext.alloc (w3.alloc o0) o1).cell ((Ext.alloc w3 o0).cell (bxj.c 0 (.bool s3) rfl)))
  have t1j_1 := fun (o0 : Obj) => ((Ext.alloc w3 o0).cell (bxj.c 1 (.slice A3 L3 c3) rfl))
  have t2j_1 := fun (o0 : Obj) (o1 : Obj) => ((Ext.alloc (w3.alloc o0) o1).cell ((Ext.alloc w3 o0).cell (bxj.c 1 (.slice A3 L3 c3) rfl)))
  have t1j_2 := fun (o0 : Obj) => ((Ext.alloc w3 o0).cell (bxj.c 2 (.slice B3 M3 d3) rfl))
  have t2j_2 := fun (o0 : Obj) (o1 : Obj) => ((Ext.alloc (w3.alloc o0) o1).cell ((Ext.alloc w3 o0).cell (bxj.c 2 (.slice B3 M3 d3) rfl)))
  have t1j_3 := fun (o0 : Obj) => ((Ext.alloc w3 o0).cell (bxj.c 3 (.bool s4) rfl))
  have t2j_3 := fun (o0 : Obj) (o1 : Obj) => ((Ext.alloc (w3.alloc o0) o1).cell ((Ext.alloc w3 o0).cell (bxj.c 3 (.bool s4) rfl)))
  have t1j_4 := fun (o0 : Obj) => ((Ext.alloc w3 o0).cell (bxj.c 4 (.slice A4 L4 c4) rfl))
  have t2j_4 := fun (o0 : Obj) (o1 : Obj) => ((Ext.alloc (w3.alloc o0) o1).cell ((Ext.alloc w3 o0).cell (bxj.c 4 (.slice A4 L4 c4) rfl)))
  have t1j_5 := fun (o0 : Obj) => ((Ext.alloc w3 o0).cell (bxj.c 5 (.slice B4 M4 d4) rfl))
  have t2j_5 := fun (o0 : Obj) (o1 : Obj) => ((Ext.alloc (w3.alloc o0) o1).cell ((Ext.alloc w3 o0).cell (bxj.c 5 (.slice B4 M4 d4) rfl)))
  have t1r_0 := fun (o0 : Obj) => ((Ext.alloc w3 o0).cell (bxr.c 0 (.bool false) rfl))
  have t2r_0 := fun (o0 : Obj) (o1 : Obj) => ((Ext.alloc (w3.alloc o0) o1).cell ((Ext.alloc w3 o0).cell (bxr.c 0 (.bool false) rfl)))
  have t1r_1 := fun (o0 : Obj) => ((Ext.alloc w3 o0).cell (bxr.c 1 (.slice none 0 0) rfl))
  have t2r_1 := fun (o0 : Obj) (o1 : Obj) => ((Ext.alloc (w3.alloc o0) o1).cell ((Ext.alloc w3 o0).cell (bxr.c 1 (.slice none 0 0) rfl)))
  have t1r_2 := fun (o0 : Obj) => ((Ext.alloc w3 o0).cell (bxr.c 2 (.slice none 0 0) rfl))
  have t2r_2 := fun (o0 : Obj) (o1 : Obj) => ((Ext.alloc (w3.alloc o0) o1).cell ((Ext.alloc w3 o0).cell (bxr.c 2 (.slice none 0 0) rfl)))
  have t1r_3 := fun (o0 : Obj) => ((Ext.alloc w3 o0).cell (bxr.c 3 (.bool false) rfl))
  have t2r_3 := fun (o0 : Obj) (o1 : Obj) => ((Ext.alloc (w3.alloc o0) o1).cell ((Ext.alloc w3 o0).cell (bxr.c 3 (.bool false) rfl)))
  have t1r_4 := fun (o0 : Obj) => ((Ext.alloc w3 o0).cell (bxr.c 4 (.slice none 0 0) rfl))
  have t2r_4 := fun (o0 : Obj) (o1 : Obj) => ((Ext.alloc (w3.alloc o0) o1).cell ((Ext.alloc w3 o0).cell (bxr.c 4 (.slice none 0 0) rfl)))
  have t1r_5 := fun (o0 : Obj) => ((Ext.alloc w3 o0).cell (bxr.c 5 (.slice none 0 0) rfl))
  have t2r_5 := fun (o0 : Obj) (o1 : Obj) => ((Ext.alloc (w3.alloc o0) o1).cell ((Ext.alloc w3 o0).cell (bxr.c 5 (.slice none 0 0) rfl)))
  have t1la_0 := fun (o0 : Obj) => ((Ext.alloc w3 o0).cell (bxla.c 0 (.bool spa) rfl))
  have t2la_0 := fun (o0 : Obj) (o1 : Obj) => ((Ext.alloc (w3.alloc o0) o1).cell ((Ext.alloc w3 o0).cell (bxla.c 0 (.bool spa) rfl)))
  have t1la_1 := fun (o0 : Obj) => ((Ext.alloc w3 o0).cell (bxla.c 1 (.slice Apa Lpa cpa) rfl))
  have t2la_1 := fun (o0 : Obj) (o1 : Obj) => ((Ext.alloc (w3.alloc o0) o1).cell ((Ext.alloc w3 o0).cell (bxla.c 1 (.slice Apa Lpa cpa) rfl)))
  have t1la_2 := fun (o0 : Obj) => ((Ext.alloc w3 o0).cell (bxla.c 2 (.slice Bpa Mpa dpa) rfl))
  have t2la_2 := fun (o0 : Obj) (o1 : Obj) => ((Ext.alloc (w3.alloc o0) o1).cell ((Ext.alloc w3 o0).cell (bxla.c 2 (.slice Bpa Mpa dpa) rfl)))
  have t1ha_0 := fun (o0 : Obj) => ((Ext.alloc w3 o0).cell (bxha.c 0 (.bool spb) rfl))
  have t2ha_0 := fun (o0 : Obj) (o1 : Obj) => ((Ext.alloc (w3.alloc o0) o1).cell ((Ext.alloc w3 o0).cell (bxha.c 0 (.bool spb) rfl)))
  have t1ha_1 := fun (o0 : Obj) => ((Ext.alloc w3 o0).cell (bxha.c 1 (.slice Apb Lpb cpb) rfl))
  have t2ha_1 := fun (o0 : Obj) (o1 : Obj) => ((Ext.alloc (w3.alloc o0) o1).cell ((Ext.alloc w3 o0).cell (bxha.c 1 (.slice Apb Lpb cpb) rfl)))
  have t1ha_2 := fun (o0 : Obj) => ((Ext.alloc w3 o0).cell (bxha.c 2 (.slice Bpb Mpb dpb) rfl))
  have t2ha_2 := fun (o0 : Obj) (o1 : Obj) => ((Ext.alloc (w3.alloc o0) o1).cell ((Ext.alloc w3 o0).cell (bxha.c 2 (.slice Bpb Mpb dpb) rfl)))
  go_wp2_with fail
  clear ki_0 ki_1 ki_2 ki_3 ki_4 ki_5 kj_0 kj_1 kj_2 kj_3 kj_4 kj_5 kr_0 kr_1 kr_2 kr_3 kr_4 kr_5 kla_0 kla_1 kla_2 kha_0 kha_1 kha_2 t1i_0 t2i_0 t1i_1 t2i_1 t1i_2 t2i_2 t1i_3 t2i_3 t1i_4 t2i_4 t1i_5 t2i_5 t1j_0 t2j_0 t1j_1 t2j_1 t1j_2 t2j_2 t1j_3 t2j_3 t1j_4 t2j_4 t1j_5 t2j_5 t1r_0 t2r_0 t1r_1 t2r_1 t1r_2 t2r_2 t1r_3 t2r_3 t1r_4 t2r_4 t1r_5 t2r_5 t1la_0 t2la_0 t1la_1 t2la_1 t1la_2 t2la_2 t1ha_0 t2ha_0 t1ha_1 t2ha_1 t1ha_2 t2ha_2
  obtain ⟨w4, hw⟩ : ∃ z : World, z = ((w3.alloc (.cells #[.bool sqa, .slice Aqa Lqa cqa, .slice Bqa Mqa dqa] 27)).alloc (.cells #[.bool sqb, .slice Aqb Lqb cqb, .slice Bqb Mqb dqb] 27)) := ⟨_, rfl⟩
  rw [← hw]
  have x4 : Ext w3 w4 := by rw [hw]; exact ((Ext.alloc _ _).trans (Ext.alloc _ _))
  replace bxi := bxi.ext x4
  replace bxj := bxj.ext x4
  replace bxr := bxr.ext x4
  replace bxla := bxla.ext x4
  replace bxha := bxha.ext x4
  have bxlb : BK w4 (w3.heap.size) 27 #[.bool sqa, .slice Aqa Lqa cqa, .slice Bqa Mqa dqa] := by rw [hw]; have h5 := (BK.ext (BK.new w3 #[.bool sqa, .slice Aqa Lqa cqa, .slice Bqa Mqa dqa] 27) (Ext.alloc _ (.cells #[.bool sqb, .slice Aqb Lqb cqb, .slice Bqb Mqb dqb] 27))); simpa only [World.size_alloc] using h5
  have bxhb : BK w4 (w3.heap.size + 1) 27 #[.bool sqb, .slice Aqb Lqb cqb, .slice Bqb Mqb dqb] := by rw [hw]; have h5 := (BK.new (w3.alloc (.cells #[.bool sqa, .slice Aqa Lqa cqa, .slice Bqa Mqa dqa] 27)) #[.bool sqb, .slice Aqb Lqb cqb, .slice Bqb Mqb dqb] 27); simpa only [World.size_alloc] using h5
  have szw4 : w4.heap.size = w3.heap.size + 1 + 1 := by rw [hw]; simp only [World.size_alloc]
  clear hw
  have qa := Hq.out.1
  have qb := Hq.out.2
  clear Hq
  have HQ := Lib.hid (And.intro qa qb)
  clear qa qb
  obtain ⟨g, hg⟩ : ∃ g, g = w.heap.size := ⟨_, rfl⟩
  have hgw : w.heap.size ≤ g := by omega
  have hgw2 : g ≤ w.heap.size := by omega
  clear hg
  have HP2 := Lib.hid (And.intro (HP.out.1.mono (g' := g) (by omega)) (HP.out.2.mono (g' := g) (by omega)))
  have HQ2 := Lib.hid (And.intro (HQ.out.1.mono (g' := g) (by omega)) (HQ.out.2.mono (g' := g) (by omega)))
  have kla_0 := bxla.c 0 (.bool spa) rfl
  have kla_1 := bxla.c 1 (.slice Apa Lpa cpa) rfl
  have kla_2 := bxla.c 2 (.slice Bpa Mpa dpa) rfl
  have kha_0 := bxha.c 0 (.bool spb) rfl
  have kha_1 := bxha.c 1 (.slice Apb Lpb cpb) rfl
  have kha_2 := bxha.c 2 (.slice Bpb Mpb dpb) rfl
  have klb_0 := bxlb.c 0 (.bool sqa) rfl
  have klb_1 := bxlb.c 1 (.slice Aqa Lqa cqa) rfl
  have klb_2 := bxlb.c 2 (.slice Bqa Mqa dqa) rfl
  have khb_0 := bxhb.c 0 (.bool sqb) rfl
  have khb_1 := bxhb.c 1 (.slice Aqb Lqb cqb) rfl
  have khb_2 := bxhb.c 2 (.slice Bqb Mqb dqb) rfl
  have HSZ := Lib.hid (And.intro True.intro (And.intro hszw0 (And.intro szw1 (And.intro szw2 (And.intro szw3 szw4)))))
  clear hszw0 szw1 szw2 szw3 szw4
  go_wp2_with fail
  go_cut [10, 11] (fun s10 s11 wx => PutM w4 wx g N (maxQ (minQ q1 q2) (minQ q3 q4)) (minQ (maxQ q1 q2) (maxQ q3 q4)) s10 s11)
  case first =>
    have HK : Hid (∀ w', Ext w4 w' → Ext w4 w' ∧ w'.cell? ⟨w1.heap.size, 0, none⟩ = some (.bool spa) ∧ w'.cell? ⟨w1.heap.size, 1, none⟩ = some (.slice Apa Lpa cpa) ∧ w'.cell? ⟨w1.heap.size, 2, none⟩ = some (.slice Bpa Mpa dpa) ∧ w'.cell? ⟨w1.heap.size + 1, 0, none⟩ = some (.bool spb) ∧ w'.cell? ⟨w1.heap.size + 1, 1, none⟩ = some (.slice Apb Lpb cpb) ∧ w'.cell? ⟨w1.heap.size + 1, 2, none⟩ = some (.slice Bpb Mpb dpb) ∧ w'.cell? ⟨w3.heap.size, 0, none⟩ = some (.bool sqa) ∧ w'.cell? ⟨w3.heap.size, 1, none⟩ = some (.slice Aqa Lqa cqa) ∧ w'.cell? ⟨w3.heap.size, 2, none⟩ = some (.slice Bqa Mqa dqa) ∧ w'.cell? ⟨w3.heap.size + 1, 0, none⟩ = some (.bool sqb) ∧ w'.cell? ⟨w3.heap.size + 1, 1, none⟩ = some (.slice Aqb Lqb cqb) ∧ w'.cell? ⟨w3.heap.size + 1, 2, none⟩ = some (.slice Bqb Mqb dqb)) := fun w' hk => ⟨hk, hk.cell kla_0, hk.cell kla_1, hk.cell kla_2, hk.cell kha_0, hk.cell kha_1, hk.cell kha_2, hk.cell klb_0, hk.cell klb_1, hk.cell klb_2, hk.cell khb_0, hk.cell khb_1, hk.cell khb_2⟩
    first
    | go_region_held3 (fun w' => Ext w4 w' ∧ w'.cell? ⟨w1.heap.size, 0, none⟩ = some (.bool spa) ∧ w'.cell? ⟨w1.heap.size, 1, none⟩ = some (.slice Apa Lpa cpa) ∧ w'.cell? ⟨w1.heap.size, 2, none⟩ = some (.slice Bpa Mpa dpa) ∧ w'.cell? ⟨w1.heap.size + 1, 0, none⟩ = some (.bool spb) ∧ w'.cell? ⟨w1.heap.size + 1, 1, none⟩ = some (.slice Apb Lpb cpb) ∧ w'.cell? ⟨w1.heap.size + 1, 2, none⟩ = some (.slice Bpb Mpb dpb) ∧ w'.cell? ⟨w3.heap.size, 0, none⟩ = some (.bool sqa) ∧ w'.cell? ⟨w3.heap.size, 1, none⟩ = some (.slice Aqa Lqa cqa) ∧ w'.cell? ⟨w3.heap.size, 2, none⟩ = some (.slice Bqa Mqa dqa) ∧ w'.cell? ⟨w3.heap.size + 1, 0, none⟩ = some (.bool sqb) ∧ w'.cell? ⟨w3.heap.size + 1, 1, none⟩ = some (.slice Aqb Lqb cqb) ∧ w'.cell? ⟨w3.heap.size + 1, 2, none⟩ = some (.slice Bqb Mqb dqb))
        ((with_reducible refine HK.out _ ?_; (repeat' first | (with_reducible first | exact Ext.refl _ | assumption | apply Ext.alloc_r | apply Ext.drew_r | apply Ext.drewN_r | apply Ext.set_r | exact Nat.le_refl _) | omega | with_reducible refine Ext.trans ?_ ‹Ext _ _›)))
        (first
          | (go_at_call_of 60 (#[Value.agg #[Value.bool spb, Value.slice Apb Lpb cpb, Value.slice Bpb Mpb dpb], Value.agg #[Value.bool sqb, Value.slice Aqb Lqb cqb, Value.slice Bqb Mqb dqb]]); have hgd := u; clear hgd; refine (lesser_r (HP2.out.2.ext (by with_reducible repeat' first | exact Ext.refl _ | assumption | apply Ext.alloc_r | apply Ext.drew_r | apply Ext.drewN_r | refine Ext.trans ?_ ‹Ext _ _›)) (HQ2.out.2.ext (by with_reducible repeat' first | exact Ext.refl _ | assumption | apply Ext.alloc_r | apply Ext.drew_r | apply Ext.drewN_r | refine Ext.trans ?_ ‹Ext _ _›)) hN).mono ?_; rintro e w6 ⟨sv, Av, cv, Lv, Bv, dv, Mv, rfl, v, x6⟩; (have zs6 := x6.size); (try simp only [World.size_alloc] at zs6); (try ((with_reducible have h6_0 := box_ext (vs := #[.bool false, .slice none 0 0, .slice none 0 0]) x6); have h6_0c0 := (h6_0.1 0 (.bool false) rfl).1; have h6_0f0 := (h6_0.1 0 (.bool false) rfl).2; have h6_0c1 := (h6_0.1 1 (.slice none 0 0) rfl).1; have h6_0f1 := (h6_0.1 1 (.slice none 0 0) rfl).2; have h6_0c2 := (h6_0.1 2 (.slice none 0 0) rfl).1; have h6_0f2 := (h6_0.1 2 (.slice none 0 0) rfl).2; have h6_0b := h6_0.2.1; have h6_0z := h6_0.2.2; (try simp only [World.size_alloc] at h6_0b h6_0z h6_0c0 h6_0f0 h6_0c1 h6_0f1 h6_0c2 h6_0f2); have h6_0m := Nat.ne_of_lt h6_0z; have h6_0n := Nat.ne_of_gt h6_0z; clear h6_0)); (try ((with_reducible have h6_1 := box_ext (vs := #[.bool false, .slice none 0 0, .slice none 0 0]) ((Ext.alloc _ _).trans x6)); have h6_1c0 := (h6_1.1 0 (.bool false) rfl).1; have h6_1f0 := (h6_1.1 0 (.bool false) rfl).2; have h6_1c1 := (h6_1.1 1 (.slice none 0 0) rfl).1; have h6_1f1 := (h6_1.1 1 (.slice none 0 0) rfl).2; have h6_1c2 := (h6_1.1 2 (.slice none 0 0) rfl).1; have h6_1f2 := (h6_1.1 2 (.slice none 0 0) rfl).2; have h6_1b := h6_1.2.1; have h6_1z := h6_1.2.2; (try simp only [World.size_alloc] at h6_1b h6_1z h6_1c0 h6_1f0 h6_1c1 h6_1f1 h6_1c2 h6_1f2); have h6_1m := Nat.ne_of_lt h6_1z; have h6_1n := Nat.ne_of_gt h6_1z; clear h6_1)); (try (have hh : Ext w5 w6 := ?g600; (case g600 => ((with_reducible repeat' first | exact Ext.refl _ | assumption | apply Ext.alloc_r | apply Ext.drew_r | apply Ext.drewN_r | refine Ext.trans ?_ ‹Ext _ _›); done)); replace h5_0f0 := hh.frozen h5_0c0 h5_0f0; replace h5_0c0 := hh.cell h5_0c0; replace h5_0f1 := hh.frozen h5_0c1 h5_0f1; replace h5_0c1 := hh.cell h5_0c1; replace h5_0f2 := hh.frozen h5_0c2 h5_0f2; replace h5_0c2 := hh.cell h5_0c2; replace h5_0b := h5_0b.ext hh; have h5_0z2 := Nat.lt_of_lt_of_le h5_0z hh.size; have h5_0m2 := Nat.ne_of_lt h5_0z2; have h5_0n2 := Nat.ne_of_gt h5_0z2; clear hh)); (try (have hh : Ext w5 w6 := ?g601; (case g601 => ((with_reducible repeat' first | exact Ext.refl _ | assumption | apply Ext.alloc_r | apply Ext.drew_r | apply Ext.drewN_r | refine Ext.trans ?_ ‹Ext _ _›); done)); replace h5_1f0 := hh.frozen h5_1c0 h5_1f0; replace h5_1c0 := hh.cell h5_1c0; replace h5_1f1 := hh.frozen h5_1c1 h5_1f1; replace h5_1c1 := hh.cell h5_1c1; replace h5_1f2 := hh.frozen h5_1c2 h5_1f2; replace h5_1c2 := hh.cell h5_1c2; replace h5_1b := h5_1b.ext hh; have h5_1z2 := Nat.lt_of_lt_of_le h5_1z hh.size; have h5_1m2 := Nat.ne_of_lt h5_1z2; have h5_1n2 := Nat.ne_of_gt h5_1z2; clear hh)))
          | (go_at_call_of 61 (#[Value.agg #[Value.bool spa, Value.slice Apa Lpa cpa, Value.slice Bpa Mpa dpa], Value.agg #[Value.bool sqa, Value.slice Aqa Lqa cqa, Value.slice Bqa Mqa dqa]]); refine (greater_r (HP2.out.1.ext (by with_reducible repeat' first | exact Ext.refl _ | assumption | apply Ext.alloc_r | apply Ext.drew_r | apply Ext.drewN_r | refine Ext.trans ?_ ‹Ext _ _›)) (HQ2.out.1.ext (by with_reducible repeat' first | exact Ext.refl _ | assumption | apply Ext.alloc_r | apply Ext.drew_r | apply Ext.drewN_r | refine Ext.trans ?_ ‹Ext _ _›)) hN).mono ?_; rintro e w5 ⟨su, Au, cu, Lu, Bu, du, Mu, rfl, u, x5⟩; (have zs5 := x5.size); (try simp only [World.size_alloc, World.size_drew] at zs5); (try ((with_reducible have h5_0 := box_ext (vs := #[.bool false, .slice none 0 0, .slice none 0 0]) ((Ext.drew _).trans x5)); have h5_0c0 := (h5_0.1 0 (.bool false) rfl).1; have h5_0f0 := (h5_0.1 0 (.bool false) rfl).2; have h5_0c1 := (h5_0.1 1 (.slice none 0 0) rfl).1; have h5_0f1 := (h5_0.1 1 (.slice none 0 0) rfl).2; have h5_0c2 := (h5_0.1 2 (.slice none 0 0) rfl).1; have h5_0f2 := (h5_0.1 2 (.slice none 0 0) rfl).2; have h5_0b := h5_0.2.1; have h5_0z := h5_0.2.2; (try simp only [World.size_alloc] at h5_0b h5_0z h5_0c0 h5_0f0 h5_0c1 h5_0f1 h5_0c2 h5_0f2); have h5_0m := Nat.ne_of_lt h5_0z; have h5_0n := Nat.ne_of_gt h5_0z; clear h5_0)); (try ((with_reducible have h5_1 := box_ext (vs := #[.bool false, .slice none 0 0, .slice none 0 0]) (((Ext.alloc _ _).trans (Ext.drew _)).trans x5)); have h5_1c0 := (h5_1.1 0 (.bool false) rfl).1; have h5_1f0 := (h5_1.1 0 (.bool false) rfl).2; have h5_1c1 := (h5_1.1 1 (.slice none 0 0) rfl).1; have h5_1f1 := (h5_1.1 1 (.slice none 0 0) rfl).2; have h5_1c2 := (h5_1.1 2 (.slice none 0 0) rfl).1; have h5_1f2 := (h5_1.1 2 (.slice none 0 0) rfl).2; have h5_1b := h5_1.2.1; have h5_1z := h5_1.2.2; (try simp only [World.size_alloc] at h5_1b h5_1z h5_1c0 h5_1f0 h5_1c1 h5_1f1 h5_1c2 h5_1f2); have h5_1m := Nat.ne_of_lt h5_1z; have h5_1n := Nat.ne_of_gt h5_1z; clear h5_1))))
    | fail
    all_goals (clear HK; go_wp2_with fail; go_meet)
    all_goals
      refine PutM.mk (s := su) (A := Au) (c := cu) (L := Lu) (B := Bu) (d := du) (M := Mu) (s' := sv) (A' := Av) (c' := cv) (L' := Lv) (B' := Bv) (d' := dv) (M' := Mv) ?_ ?_ ?_ ?_ (u.kept ?_) (v.kept ?_) ?_
      · (first | exact Nat.le_refl _ | omega | (simp only [World.size_alloc, World.size_drew]; omega) | (simp; omega))
      · (first | exact Nat.le_refl _ | omega | (simp only [World.size_alloc, World.size_drew]; omega) | (simp; omega))
      · (repeat' (first | with_reducible assumption | with_reducible apply BK.set12 | with_reducible apply BK.set6 | with_reducible apply BK.set3 | (with_reducible apply BK.far3; (case hne => (first | assumption | omega | (simp; done) | (simp only [World.size_alloc, World.size_drew]; omega)))) | (with_reducible apply BK.new_; (first | rfl | (simp; done))) | with_reducible apply BK.alloc_ | with_reducible apply BK.drew_ | with_reducible refine BK.ext ?_ ‹Ext _ _›))
      · (repeat' (first | with_reducible assumption | with_reducible apply BK.set12 | with_reducible apply BK.set6 | with_reducible apply BK.set3 | (with_reducible apply BK.far3; (case hne => (first | assumption | omega | (simp; done) | (simp only [World.size_alloc, World.size_drew]; omega)))) | (with_reducible apply BK.new_; (first | rfl | (simp; done))) | with_reducible apply BK.alloc_ | with_reducible apply BK.drew_ | with_reducible refine BK.ext ?_ ‹Ext _ _›))
      · (repeat' (first | with_reducible exact Kept.refl _ | with_reducible apply Kept.alloc_r | with_reducible apply Kept.drew_r | (with_reducible apply Kept.setR6; (case hb => ((with_reducible repeat' first | assumption | apply IsBox.set_ | (apply IsBox.new; (first | rfl | simp); done) | apply IsBox.alloc_ | apply IsBox.drew_ | refine IsBox.ext ?_ ‹Ext _ _›); done))) | (with_reducible apply Kept.setA6; (case hb => ((with_reducible repeat' first | assumption | apply IsBox.set_ | (apply IsBox.new; (first | rfl | simp); done) | apply IsBox.alloc_ | apply IsBox.drew_ | refine IsBox.ext ?_ ‹Ext _ _›); done))) | (with_reducible apply Kept.setI6; (case hb => ((with_reducible repeat' first | assumption | apply IsBox.set_ | (apply IsBox.new; (first | rfl | simp); done) | apply IsBox.alloc_ | apply IsBox.drew_ | refine IsBox.ext ?_ ‹Ext _ _›); done))) | with_reducible refine Kept.trans ?_ (Ext.kept ‹Ext _ _›)))
      · (repeat' (first | with_reducible exact Kept.refl _ | with_reducible apply Kept.alloc_r | with_reducible apply Kept.drew_r | (with_reducible apply Kept.setR6; (case hb => ((with_reducible repeat' first | assumption | apply IsBox.set_ | (apply IsBox.new; (first | rfl | simp); done) | apply IsBox.alloc_ | apply IsBox.drew_ | refine IsBox.ext ?_ ‹Ext _ _›); done))) | (with_reducible apply Kept.setA6; (case hb => ((with_reducible repeat' first | assumption | apply IsBox.set_ | (apply IsBox.new; (first | rfl | simp); done) | apply IsBox.alloc_ | apply IsBox.drew_ | refine IsBox.ext ?_ ‹Ext _ _›); done))) | (with_reducible apply Kept.setI6; (case hb => ((with_reducible repeat' first | assumption | apply IsBox.set_ | (apply IsBox.new; (first | rfl | simp); done) | apply IsBox.alloc_ | apply IsBox.drew_ | refine IsBox.ext ?_ ‹Ext _ _›); done))) | with_reducible refine Kept.trans ?_ (Ext.kept ‹Ext _ _›)))
      · (repeat' first | (with_reducible first | exact Ext.refl _ | assumption | apply Ext.alloc_r | apply Ext.drew_r | apply Ext.drewN_r | apply Ext.set_r | exact Nat.le_refl _) | omega | with_reducible refine Ext.trans ?_ ‹Ext _ _›)
  case rest =>
    obtain ⟨hszw0, szw1, szw2, szw3, szw4⟩ := HSZ.out.2
    clear kla_0 kla_1 kla_2 kha_0 kha_1 kha_2 klb_0 klb_1 klb_2 khb_0 khb_1 khb_2
    obtain ⟨b10, b11, su, Au, cu, Lu, Bu, du, Mu, sv, Av, cv, Lv, Bv, dv, Mv, rfl, rfl, hb10, hb11, bxlo, bxhi, u, v, hxc⟩ := hcut
    obtain ⟨wq, rfl⟩ : ∃ z : World, z = wc := ⟨_, rfl⟩
    have hszq := hxc.size
    have HU := Lib.hid (And.intro u v)
    clear u v HP HQ HP2 HQ2
    clear bxi
    clear bxj
    clear bxla
    clear bxha
    clear bxlb
    clear bxhb
    replace bxr := bxr.ext hxc
    have kr_0 := bxr.c 0 (.bool false) rfl
    have kr_1 := bxr.c 1 (.slice none 0 0) rfl
    have kr_2 := bxr.c 2 (.slice none 0 0) rfl
    have kr_3 := bxr.c 3 (.bool false) rfl
    have kr_4 := bxr.c 4 (.slice none 0 0) rfl
    have kr_5 := bxr.c 5 (.slice none 0 0) rfl
    have klo_0 := bxlo.c 0 (.bool su) rfl
    have klo_1 := bxlo.c 1 (.slice Au Lu cu) rfl
    have klo_2 := bxlo.c 2 (.slice Bu Mu du) rfl
    have khi_0 := bxhi.c 0 (.bool sv) rfl
    have khi_1 := bxhi.c 1 (.slice Av Lv cv) rfl
    have khi_2 := bxhi.c 2 (.slice Bv Mv dv) rfl
    go_wp2_with fail
    clear kr_0 kr_1 kr_2 kr_3 kr_4 kr_5 klo_0 klo_1 klo_2 khi_0 khi_1 khi_2
    refine (rcmp_k (HU.out.1.rv.ext (by with_reducible repeat' first | exact Ext.refl _ | assumption | apply Ext.alloc_r | apply Ext.drew_r | apply Ext.drewN_r | refine Ext.trans ?_ ‹Ext _ _›)) (HU.out.2.rv.ext (by with_reducible repeat' first | exact Ext.refl _ | assumption | apply Ext.alloc_r | apply Ext.drew_r | apply Ext.drewN_r | refine Ext.trans ?_ ‹Ext _ _›)) hN HK.out).mono ?_
    rintro e w7 ⟨rfl, x7⟩
    have szw7 : wq.heap.size ≤ w7.heap.size := x7.size
    replace bxr := bxr.ext x7
    replace bxlo := bxlo.ext x7
    replace bxhi := bxhi.ext x7
    have kr_0 := bxr.c 0 (.bool false) rfl
    have fr_0 := bxr.f 0
    have kr_1 := bxr.c 1 (.slice none 0 0) rfl
    have fr_1 := bxr.f 1
    have kr_2 := bxr.c 2 (.slice none 0 0) rfl
    have fr_2 := bxr.f 2
    have kr_3 := bxr.c 3 (.bool false) rfl
    have fr_3 := bxr.f 3
    have kr_4 := bxr.c 4 (.slice none 0 0) rfl
    have fr_4 := bxr.f 4
    have kr_5 := bxr.c 5 (.slice none 0 0) rfl
    have fr_5 := bxr.f 5
    have klo_0 := bxlo.c 0 (.bool su) rfl
    have klo_1 := bxlo.c 1 (.slice Au Lu cu) rfl
    have klo_2 := bxlo.c 2 (.slice Bu Mu du) rfl
    have khi_0 := bxhi.c 0 (.bool sv) rfl
    have khi_1 := bxhi.c 1 (.slice Av Lv cv) rfl
    have khi_2 := bxhi.c 2 (.slice Bv Mv dv) rfl
    go_wp2_with fail
    clear kr_0 fr_0 kr_1 fr_1 kr_2 fr_2 kr_3 fr_3 kr_4 fr_4 kr_5 fr_5 klo_0 klo_1 klo_2 khi_0 khi_1 khi_2
    obtain ⟨w8, hw⟩ : ∃ z : World, z = ((((((w7.setCell ⟨w.heap.size + 1 + 1, 0, none⟩ (.bool false)).setCell ⟨w.heap.size + 1 + 1, 1, none⟩ (.slice none 0 0)).setCell ⟨w.heap.size + 1 + 1, 2, none⟩ (.slice none 0 0)).setCell ⟨w.heap.size + 1 + 1, 3, none⟩ (.bool false)).setCell ⟨w.heap.size + 1 + 1, 4, none⟩ (.slice none 0 0)).setCell ⟨w.heap.size + 1 + 1, 5, none⟩ (.slice none 0 0)) := ⟨_, rfl⟩
    rw [← hw]
    have kw8 : Kept w7 w8 := by rw [hw]; exact (Kept.set_ (Kept.set_ (Kept.set_ (Kept.set_ (Kept.set_ (Kept.set_ (Kept.refl _) bxr.isBox plain_iv) (IsBox.set_ bxr.isBox) plain_iv) (IsBox.set_ (IsBox.set_ bxr.isBox)) plain_iv) (IsBox.set_ (IsBox.set_ (IsBox.set_ bxr.isBox))) plain_iv) (IsBox.set_ (IsBox.set_ (IsBox.set_ (IsBox.set_ bxr.isBox)))) plain_iv) (IsBox.set_ (IsBox.set_ (IsBox.set_ (IsBox.set_ (IsBox.set_ bxr.isBox))))) plain_iv)
    have nbr : BK w8 (w.heap.size + 1 + 1) 29 #[.bool false, .slice none 0 0, .slice none 0 0, .bool false, .slice none 0 0, .slice none 0 0] := by rw [hw]; exact (BK.set (i := 5) (u := .slice none 0 0) (vs' := #[.bool false, .slice none 0 0, .slice none 0 0, .bool false, .slice none 0 0, .slice none 0 0]) (BK.set (i := 4) (u := .slice none 0 0) (vs' := #[.bool false, .slice none 0 0, .slice none 0 0, .bool false, .slice none 0 0, .slice none 0 0]) (BK.set (i := 3) (u := .bool false) (vs' := #[.bool false, .slice none 0 0, .slice none 0 0, .bool false, .slice none 0 0, .slice none 0 0]) (BK.set (i := 2) (u := .slice none 0 0) (vs' := #[.bool false, .slice none 0 0, .slice none 0 0, .bool false, .slice none 0 0, .slice none 0 0]) (BK.set (i := 1) (u := .slice none 0 0) (vs' := #[.bool false, .slice none 0 0, .slice none 0 0, .bool false, .slice none 0 0, .slice none 0 0]) (BK.set (i := 0) (u := .bool false) (vs' := #[.bool false, .slice none 0 0, .slice none 0 0, .bool false, .slice none 0 0, .slice none 0 0]) bxr rfl) rfl) rfl) rfl) rfl) rfl)
    have nblo : BK w8 (b10) 27 #[.bool su, .slice Au Lu cu, .slice Bu Mu du] := by rw [hw]; exact (BK.far (BK.far (BK.far (BK.far (BK.far (BK.far bxlo (show b10 ≠ w.heap.size + 1 + 1 by omega) 0 _) (show b10 ≠ w.heap.size + 1 + 1 by omega) 1 _) (show b10 ≠ w.heap.size + 1 + 1 by omega) 2 _) (show b10 ≠ w.heap.size + 1 + 1 by omega) 3 _) (show b10 ≠ w.heap.size + 1 + 1 by omega) 4 _) (show b10 ≠ w.heap.size + 1 + 1 by omega) 5 _)
    have nbhi : BK w8 (b11) 27 #[.bool sv, .slice Av Lv cv, .slice Bv Mv dv] := by rw [hw]; exact (BK.far (BK.far (BK.far (BK.far (BK.far (BK.far bxhi (show b11 ≠ w.heap.size + 1 + 1 by omega) 0 _) (show b11 ≠ w.heap.size + 1 + 1 by omega) 1 _) (show b11 ≠ w.heap.size + 1 + 1 by omega) 2 _) (show b11 ≠ w.heap.size + 1 + 1 by omega) 3 _) (show b11 ≠ w.heap.size + 1 + 1 by omega) 4 _) (show b11 ≠ w.heap.size + 1 + 1 by omega) 5 _)
    have x8 : Ext w w8 := by rw [hw]; have hxp : Ext w w7 := (by with_reducible repeat' first | exact Ext.refl _ | assumption | apply Ext.alloc_r | apply Ext.drew_r | apply Ext.drewN_r | refine Ext.trans ?_ ‹Ext _ _›); exact (Ext.set_ (Ext.set_ (Ext.set_ (Ext.set_ (Ext.set_ (Ext.set_ hxp (show _ ≤ w.heap.size + 1 + 1 by omega)) (show _ ≤ w.heap.size + 1 + 1 by omega)) (show _ ≤ w.heap.size + 1 + 1 by omega)) (show _ ≤ w.heap.size + 1 + 1 by omega)) (show _ ≤ w.heap.size + 1 + 1 by omega)) (show _ ≤ w.heap.size + 1 + 1 by omega))
    clear bxr
    clear bxlo
    clear bxhi
    have bxr := nbr
    clear nbr
    have bxlo := nblo
    clear nblo
    have bxhi := nbhi
    clear nbhi
    have szw8 : w8.heap.size = w7.heap.size := by rw [hw]; simp
    clear hw kw8
    have kr_0 := bxr.c 0 (.bool false) rfl
    have kr_1 := bxr.c 1 (.slice none 0 0) rfl
    have kr_2 := bxr.c 2 (.slice none 0 0) rfl
    have kr_3 := bxr.c 3 (.bool false) rfl
    have kr_4 := bxr.c 4 (.slice none 0 0) rfl
    have kr_5 := bxr.c 5 (.slice none 0 0) rfl
    refine bodyPost_ret (v := .tuple #[.agg #[.bool false, .slice none 0 0, .slice none 0 0, .bool false, .slice none 0 0, .slice none 0 0], .bool false]) (by simp [results, Tryz.results41, go_sem, kr_0, kr_1, kr_2, kr_3, kr_4, kr_5]) rfl ?_
    exact ⟨rfl, x8⟩
end Go.Proofs.YtehhkeenjlpikaaGreat
