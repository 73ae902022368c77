import Derived.Test.YtehhkeenjlpikaaGreatQuIvP
import Derived.Test.YtehhkeenjlpikaaGreatQuRatQ
import Derived.Deep.RegionHeldLaw
import Derived.Deep.LoopGhost
import Derived.Deep.QuietTactic
import Derived.BigQuiet
namespace Go.Proofs.YtehhkeenjlpikaaGreat
open Go.RowKit
/-- The call returns the interval from p to q, in lowest terms and new memory. -/
def RetI (w : World) (N : Nat) (p q : Rat) (e : Ending) (w' : World) : Prop := ∃ s A c L B d M s' A' c' L' B' d' M', e = .returned (.agg #[.bool s, .slice A L c, .slice B M d, .bool s', .slice A' L' c', .slice B' M' d']) ∧ RO w' w.heap.size s A c L B d M N p ∧ RO w' w.heap.size s' A' c' L' B' d' M' N q ∧ Ext w w'
/-- The call returns the interval from p to q, in lowest terms and new memory, and OK. -/
def RetIE (w : World) (N : Nat) (p q : Rat) (e : Ending) (w' : World) : Prop := ∃ s A c L B d M s' A' c' L' B' d' M', e = .returned (.tuple #[.agg #[.bool s, .slice A L c, .slice B M d, .bool s', .slice A' L' c', .slice B' M' d'], .int .i64 0]) ∧ RO w' w.heap.size s A c L B d M N p ∧ RO w' w.heap.size s' A' c' L' B' d' M' N q ∧ Ext w w'
/-- The call returns the fraction q, whose memory lies behind g. -/
def RetG (w : World) (g N : Nat) (q : Rat) (e : Ending) (w' : World) : Prop := ∃ s A c L B d M, e = .returned (.agg #[.bool s, .slice A L c, .slice B M d]) ∧ RO w' g s A c L B d M N q ∧ Ext w w'
theorem plain_iv : ¬ Plain 29 := by unfold Plain; decide
theorem rcmp_k {w : World} {N : Nat} {s1 s2 : Bool} {A1 B1 A2 B2 : Option Addr} {c1 d1 L1 M1 c2 d2 L2 M2 : Nat} {q1 q2 : Rat} {k : Int} (h1 : RV w s1 A1 c1 L1 B1 d1 M1 N q1) (h2 : RV w s2 A2 c2 L2 B2 d2 M2 N q2) (hN : N < 48) (e : cmpQ q1 q2 = k) :
    Calls Tryz.prog 66 #[Value.agg #[Value.bool s1, Value.slice A1 L1 c1, Value.slice B1 M1 d1], Value.agg #[Value.bool s2, Value.slice A2 L2 c2, Value.slice B2 M2 d2]] w fun e w' => e = .returned (.int .i64 k) ∧ Ext w w' := by rw [← e]; exact rcmp_r h1 h2 (by omega) (by omega)
set_option maxHeartbeats 4000000 in
set_option maxRecDepth 100000 in
theorem lesser_yes {w : World} {N g : Nat} {s1 s2 : Bool} {A1 B1 A2 B2 : Option Addr} {c1 d1 L1 M1 c2 d2 L2 M2 : Nat} {q1 q2 : Rat} (h1 : RO w g s1 A1 c1 L1 B1 d1 M1 N q1) (h2 : RO w g s2 A2 c2 L2 B2 d2 M2 N q2) (hN : N < 48) (hq : q1 ≤ q2) :
    Calls Tryz.prog 60 #[Value.agg #[Value.bool s1, Value.slice A1 L1 c1, Value.slice B1 M1 d1], Value.agg #[Value.bool s2, Value.slice A2 L2 c2, Value.slice B2 M2 d2]] w (RetG w g N (minQ q1 q2)) := by
  obtain ⟨K, hK⟩ : ∃ K : Int, K = cmpQ q1 q2 := ⟨_, rfl⟩
  have hk : (K ≤ 0) := by rw [hK]; exact (cmpQ_le _ _).2 hq
  have HK := Lib.hid hK.symm
  have HLO : Hid (minQ q1 q2 = q1) := by show _ = _; unfold minQ; rw [if_pos hq]
  clear hK hq
  go_enter Tryz.func60, Tryz.ntmps60
  go_wp2_with fail
  obtain ⟨w0, hw0⟩ : ∃ z : World, z = (((w.alloc (.cells #[.bool s1, .slice A1 L1 c1, .slice B1 M1 d1] 27)).alloc (.cells #[.bool s2, .slice A2 L2 c2, .slice B2 M2 d2] 27)).alloc (.cells #[.bool false, .slice none 0 0, .slice none 0 0] 27)) := ⟨_, rfl⟩
  rw [← hw0]
  have bxa : BK w0 (w.heap.size) 27 #[.bool s1, .slice A1 L1 c1, .slice B1 M1 d1] := by rw [hw0]; have h5 := (BK.ext (BK.ext (BK.new w #[.bool s1, .slice A1 L1 c1, .slice B1 M1 d1] 27) (Ext.alloc _ (.cells #[.bool s2, .slice A2 L2 c2, .slice B2 M2 d2] 27))) (Ext.alloc _ (.cells #[.bool false, .slice none 0 0, .slice none 0 0] 27))); simpa only [World.size_alloc] using h5
  have bxb : BK w0 (w.heap.size + 1) 27 #[.bool s2, .slice A2 L2 c2, .slice B2 M2 d2] := by rw [hw0]; have h5 := (BK.ext (BK.new (w.alloc (.cells #[.bool s1, .slice A1 L1 c1, .slice B1 M1 d1] 27)) #[.bool s2, .slice A2 L2 c2, .slice B2 M2 d2] 27) (Ext.alloc _ (.cells #[.bool false, .slice none 0 0, .slice none 0 0] 27))); simpa only [World.size_alloc] using h5
  have bxr : BK w0 (w.heap.size + 1 + 1) 27 #[.bool false, .slice none 0 0, .slice none 0 0] := by rw [hw0]; have h5 := (BK.new ((w.alloc (.cells #[.bool s1, .slice A1 L1 c1, .slice B1 M1 d1] 27)).alloc (.cells #[.bool s2, .slice A2 L2 c2, .slice B2 M2 d2] 27)) #[.bool false, .slice none 0 0, .slice none 0 0] 27); simpa only [World.size_alloc] using h5
  have hszw0 : w0.heap.size = w.heap.size + 1 + 1 + 1 := by rw [hw0]; simp only [World.size_alloc]
  have xw0 : Ext w w0 := by rw [hw0]; exact (((Ext.alloc _ _).trans (Ext.alloc _ _)).trans (Ext.alloc _ _))
  clear hw0
  refine (rcmp_k (h1.rv.ext (by with_reducible repeat' first | exact Ext.refl _ | assumption | apply Ext.alloc_r | apply Ext.drew_r | apply Ext.drewN_r | refine Ext.trans ?_ ‹Ext _ _›)) (h2.rv.ext (by with_reducible repeat' first | exact Ext.refl _ | assumption | apply Ext.alloc_r | apply Ext.drew_r | apply Ext.drewN_r | refine Ext.trans ?_ ‹Ext _ _›)) hN HK.out).mono ?_
  rintro e w1 ⟨rfl, x1⟩
  have szw1 : w0.heap.size ≤ w1.heap.size := x1.size
  replace bxa := bxa.ext x1
  replace bxb := bxb.ext x1
  replace bxr := bxr.ext x1
  have HO := Lib.hid (h1.ext (show Ext w w1 from (by with_reducible repeat' first | exact Ext.refl _ | assumption | apply Ext.alloc_r | apply Ext.drew_r | apply Ext.drewN_r | refine Ext.trans ?_ ‹Ext _ _›)))
  clear h1 h2
  have ka_0 := bxa.c 0 (.bool s1) rfl
  have ka_1 := bxa.c 1 (.slice A1 L1 c1) rfl
  have ka_2 := bxa.c 2 (.slice B1 M1 d1) rfl
  have kb_0 := bxb.c 0 (.bool s2) rfl
  have kb_1 := bxb.c 1 (.slice A2 L2 c2) rfl
  have kb_2 := bxb.c 2 (.slice B2 M2 d2) rfl
  have kr_0 := bxr.c 0 (.bool false) rfl
  have fr_0 := bxr.f 0
  have kr_1 := bxr.c 1 (.slice none 0 0) rfl
  have fr_1 := bxr.f 1
  have kr_2 := bxr.c 2 (.slice none 0 0) rfl
  have fr_2 := bxr.f 2
  go_wp2_with fail
  clear ka_0 ka_1 ka_2 kb_0 kb_1 kb_2 kr_0 fr_0 kr_1 fr_1 kr_2 fr_2
  have HR2 := HO.out
  obtain ⟨w2, hw⟩ : ∃ z : World, z = (((w1.setCell ⟨w.heap.size + 1 + 1, 0, none⟩ (.bool s1)).setCell ⟨w.heap.size + 1 + 1, 1, none⟩ (.slice A1 L1 c1)).setCell ⟨w.heap.size + 1 + 1, 2, none⟩ (.slice B1 M1 d1)) := ⟨_, rfl⟩
  rw [← hw]
  have kw2 : Kept w1 w2 := by rw [hw]; exact (Kept.set_ (Kept.set_ (Kept.set_ (Kept.refl _) bxr.isBox plain_rat) (IsBox.set_ bxr.isBox) plain_rat) (IsBox.set_ (IsBox.set_ bxr.isBox)) plain_rat)
  have nba : BK w2 (w.heap.size) 27 #[.bool s1, .slice A1 L1 c1, .slice B1 M1 d1] := by rw [hw]; exact (BK.far (BK.far (BK.far bxa (show w.heap.size ≠ w.heap.size + 1 + 1 by omega) 0 _) (show w.heap.size ≠ w.heap.size + 1 + 1 by omega) 1 _) (show w.heap.size ≠ w.heap.size + 1 + 1 by omega) 2 _)
  have nbb : BK w2 (w.heap.size + 1) 27 #[.bool s2, .slice A2 L2 c2, .slice B2 M2 d2] := by rw [hw]; exact (BK.far (BK.far (BK.far bxb (show w.heap.size + 1 ≠ w.heap.size + 1 + 1 by omega) 0 _) (show w.heap.size + 1 ≠ w.heap.size + 1 + 1 by omega) 1 _) (show w.heap.size + 1 ≠ w.heap.size + 1 + 1 by omega) 2 _)
  have nbr : BK w2 (w.heap.size + 1 + 1) 27 #[.bool s1, .slice A1 L1 c1, .slice B1 M1 d1] := by rw [hw]; exact (BK.set (i := 2) (u := .slice B1 M1 d1) (vs' := #[.bool s1, .slice A1 L1 c1, .slice B1 M1 d1]) (BK.set (i := 1) (u := .slice A1 L1 c1) (vs' := #[.bool s1, .slice A1 L1 c1, .slice none 0 0]) (BK.set (i := 0) (u := .bool s1) (vs' := #[.bool s1, .slice none 0 0, .slice none 0 0]) bxr rfl) rfl) rfl)
  have x2 : Ext w w2 := by rw [hw]; have hxp : Ext w w1 := (by with_reducible repeat' first | exact Ext.refl _ | assumption | apply Ext.alloc_r | apply Ext.drew_r | apply Ext.drewN_r | refine Ext.trans ?_ ‹Ext _ _›); exact (Ext.set_ (Ext.set_ (Ext.set_ hxp (show _ ≤ w.heap.size + 1 + 1 by omega)) (show _ ≤ w.heap.size + 1 + 1 by omega)) (show _ ≤ w.heap.size + 1 + 1 by omega))
  clear bxa
  clear bxb
  clear bxr
  have bxa := nba
  clear nba
  have bxb := nbb
  clear nbb
  have bxr := nbr
  clear nbr
  have szw2 : w2.heap.size = w1.heap.size := by rw [hw]; simp
  replace HR2 := (HR2.ext (by with_reducible repeat' first | exact Ext.refl _ | assumption | apply Ext.alloc_r | apply Ext.drew_r | apply Ext.drewN_r | refine Ext.trans ?_ ‹Ext _ _›)).kept kw2
  clear hw kw2
  clear HO
  have HO := Lib.hid HR2
  clear HR2
  have kr_0 := bxr.c 0 (.bool s1) rfl
  have kr_1 := bxr.c 1 (.slice A1 L1 c1) rfl
  have kr_2 := bxr.c 2 (.slice B1 M1 d1) rfl
  refine bodyPost_ret (v := .agg #[Value.bool s1, Value.slice A1 L1 c1, Value.slice B1 M1 d1]) (by simp [results, Tryz.results60, go_sem, kr_0, kr_1, kr_2]) rfl ?_
  exact ⟨_, _, _, _, _, _, _, rfl, by rw [HLO.out]; exact HO.out, x2⟩
set_option maxHeartbeats 4000000 in
set_option maxRecDepth 100000 in
theorem lesser_no {w : World} {N g : Nat} {s1 s2 : Bool} {A1 B1 A2 B2 : Option Addr} {c1 d1 L1 M1 c2 d2 L2 M2 : Nat} {q1 q2 : Rat} (h1 : RO w g s1 A1 c1 L1 B1 d1 M1 N q1) (h2 : RO w g s2 A2 c2 L2 B2 d2 M2 N q2) (hN : N < 48) (hq : ¬ q1 ≤ q2) :
    Calls Tryz.prog 60 #[Value.agg #[Value.bool s1, Value.slice A1 L1 c1, Value.slice B1 M1 d1], Value.agg #[Value.bool s2, Value.slice A2 L2 c2, Value.slice B2 M2 d2]] w (RetG w g N (minQ q1 q2)) := by
  obtain ⟨K, hK⟩ : ∃ K : Int, K = cmpQ q1 q2 := ⟨_, rfl⟩
  have hk : ¬ (K ≤ 0) := by rw [hK]; exact fun h => hq ((cmpQ_le _ _).1 h)
  have HK := Lib.hid hK.symm
  have HLO : Hid (minQ q1 q2 = q2) := by show _ = _; unfold minQ; rw [if_neg hq]
  clear hK hq
  go_enter Tryz.func60, Tryz.ntmps60
  go_wp2_with fail
  obtain ⟨w0, hw0⟩ : ∃ z : World, z = (((w.alloc (.cells #[.bool s1, .slice A1 L1 c1, .slice B1 M1 d1] 27)).alloc (.cells #[.bool s2, .slice A2 L2 c2, .slice B2 M2 d2] 27)).alloc (.cells #[.bool false, .slice none 0 0, .slice none 0 0] 27)) := ⟨_, rfl⟩
  rw [← hw0]
  have bxa : BK w0 (w.heap.size) 27 #[.bool s1, .slice A1 L1 c1, .slice B1 M1 d1] := by rw [hw0]; have h5 := (BK.ext (BK.ext (BK.new w #[.bool s1, .slice A1 L1 c1, .slice B1 M1 d1] 27) (Ext.alloc _ (.cells #[.bool s2, .slice A2 L2 c2, .slice B2 M2 d2] 27))) (Ext.alloc _ (.cells #[.bool false, .slice none 0 0, .slice none 0 0] 27))); simpa only [World.size_alloc] using h5
  have bxb : BK w0 (w.heap.size + 1) 27 #[.bool s2, .slice A2 L2 c2, .slice B2 M2 d2] := by rw [hw0]; have h5 := (BK.ext (BK.new (w.alloc (.cells #[.bool s1, .slice A1 L1 c1, .slice B1 M1 d1] 27)) #[.bool s2, .slice A2 L2 c2, .slice B2 M2 d2] 27) (Ext.alloc _ (.cells #[.bool false, .slice none 0 0, .slice none 0 0] 27))); simpa only [World.size_alloc] using h5
  have bxr : BK w0 (w.heap.size + 1 + 1) 27 #[.bool false, .slice none 0 0, .slice none 0 0] := by rw [hw0]; have h5 := (BK.new ((w.alloc (.cells #[.bool s1, .slice A1 L1 c1, .slice B1 M1 d1] 27)).alloc (.cells #[.bool s2, .slice A2 L2 c2, .slice B2 M2 d2] 27)) #[.bool false, .slice none 0 0, .slice none 0 0] 27); simpa only [World.size_alloc] using h5
  have hszw0 : w0.heap.size = w.heap.size + 1 + 1 + 1 := by rw [hw0]; simp only [World.size_alloc]
  have xw0 : Ext w w0 := by rw [hw0]; exact (((Ext.alloc _ _).trans (Ext.alloc _ _)).trans (Ext.alloc _ _))
  clear hw0
  refine (rcmp_k (h1.rv.ext (by with_reducible repeat' first | exact Ext.refl _ | assumption | apply Ext.alloc_r | apply Ext.drew_r | apply Ext.drewN_r | refine Ext.trans ?_ ‹Ext _ _›)) (h2.rv.ext (by with_reducible repeat' first | exact Ext.refl _ | assumption | apply Ext.alloc_r | apply Ext.drew_r | apply Ext.drewN_r | refine Ext.trans ?_ ‹Ext _ _›)) hN HK.out).mono ?_
  rintro e w1 ⟨rfl, x1⟩
  have szw1 : w0.heap.size ≤ w1.heap.size := x1.size
  replace bxa := bxa.ext x1
  replace bxb := bxb.ext x1
  replace bxr := bxr.ext x1
  have HO := Lib.hid (h2.ext (show Ext w w1 from (by with_reducible repeat' first | exact Ext.refl _ | assumption | apply Ext.alloc_r | apply Ext.drew_r | apply Ext.drewN_r | refine Ext.trans ?_ ‹Ext _ _›)))
  clear h1 h2
  have ka_0 := bxa.c 0 (.bool s1) rfl
  have ka_1 := bxa.c 1 (.slice A1 L1 c1) rfl
  have ka_2 := bxa.c 2 (.slice B1 M1 d1) rfl
  have kb_0 := bxb.c 0 (.bool s2) rfl
  have kb_1 := bxb.c 1 (.slice A2 L2 c2) rfl
  have kb_2 := bxb.c 2 (.slice B2 M2 d2) rfl
  have kr_0 := bxr.c 0 (.bool false) rfl
  have fr_0 := bxr.f 0
  have kr_1 := bxr.c 1 (.slice none 0 0) rfl
  have fr_1 := bxr.f 1
  have kr_2 := bxr.c 2 (.slice none 0 0) rfl
  have fr_2 := bxr.f 2
  go_wp2_with fail
  clear ka_0 ka_1 ka_2 kb_0 kb_1 kb_2 kr_0 fr_0 kr_1 fr_1 kr_2 fr_2
  have HR2 := HO.out
  obtain ⟨w2, hw⟩ : ∃ z : World, z = (((w1.setCell ⟨w.heap.size + 1 + 1, 0, none⟩ (.bool s2)).setCell ⟨w.heap.size + 1 + 1, 1, none⟩ (.slice A2 L2 c2)).setCell ⟨w.heap.size + 1 + 1, 2, none⟩ (.slice B2 M2 d2)) := ⟨_, rfl⟩
  rw [← hw]
  have kw2 : Kept w1 w2 := by rw [hw]; exact (Kept.set_ (Kept.set_ (Kept.set_ (Kept.refl _) bxr.isBox plain_rat) (IsBox.set_ bxr.isBox) plain_rat) (IsBox.set_ (IsBox.set_ bxr.isBox)) plain_rat)
  have nba : BK w2 (w.heap.size) 27 #[.bool s1, .slice A1 L1 c1, .slice B1 M1 d1] := by rw [hw]; exact (BK.far (BK.far (BK.far bxa (show w.heap.size ≠ w.heap.size + 1 + 1 by omega) 0 _) (show w.heap.size ≠ w.heap.size + 1 + 1 by omega) 1 _) (show w.heap.size ≠ w.heap.size + 1 + 1 by omega) 2 _)
  have nbb : BK w2 (w.heap.size + 1) 27 #[.bool s2, .slice A2 L2 c2, .slice B2 M2 d2] := by rw [hw]; exact (BK.far (BK.far (BK.far bxb (show w.heap.size + 1 ≠ w.heap.size + 1 + 1 by omega) 0 _) (show w.heap.size + 1 ≠ w.heap.size + 1 + 1 by omega) 1 _) (show w.heap.size + 1 ≠ w.heap.size + 1 + 1 by omega) 2 _)
  have nbr : BK w2 (w.heap.size + 1 + 1) 27 #[.bool s2, .slice A2 L2 c2, .slice B2 M2 d2] := by rw [hw]; exact (BK.set (i := 2) (u := .slice B2 M2 d2) (vs' := #[.bool s2, .slice A2 L2 c2, .slice B2 M2 d2]) (BK.set (i := 1) (u := .slice A2 L2 c2) (vs' := #[.bool s2, .slice A2 L2 c2, .slice none 0 0]) (BK.set (i := 0) (u := .bool s2) (vs' := #[.bool s2, .slice none 0 0, .slice none 0 0]) bxr rfl) rfl) rfl)
  have x2 : Ext w w2 := by rw [hw]; have hxp : Ext w w1 := (by with_reducible repeat' first | exact Ext.refl _ | assumption | apply Ext.alloc_r | apply Ext.drew_r | apply Ext.drewN_r | refine Ext.trans ?_ ‹Ext _ _›); exact (Ext.set_ (Ext.set_ (Ext.set_ hxp (show _ ≤ w.heap.size + 1 + 1 by omega)) (show _ ≤ w.heap.size + 1 + 1 by omega)) (show _ ≤ w.heap.size + 1 + 1 by omega))
  clear bxa
  clear bxb
  clear bxr
  have bxa := nba
  clear nba
  have bxb := nbb
  clear nbb
  have bxr := nbr
  clear nbr
  have szw2 : w2.heap.size = w1.heap.size := by rw [hw]; simp
  replace HR2 := (HR2.ext (by with_reducible repeat' first | exact Ext.refl _ | assumption | apply Ext.alloc_r | apply Ext.drew_r | apply Ext.drewN_r | refine Ext.trans ?_ ‹Ext _ _›)).kept kw2
  clear hw kw2
  clear HO
  have HO := Lib.hid HR2
  clear HR2
  have kr_0 := bxr.c 0 (.bool s2) rfl
  have kr_1 := bxr.c 1 (.slice A2 L2 c2) rfl
  have kr_2 := bxr.c 2 (.slice B2 M2 d2) rfl
  refine bodyPost_ret (v := .agg #[Value.bool s2, Value.slice A2 L2 c2, Value.slice B2 M2 d2]) (by simp [results, Tryz.results60, go_sem, kr_0, kr_1, kr_2]) rfl ?_
  exact ⟨_, _, _, _, _, _, _, rfl, by rw [HLO.out]; exact HO.out, x2⟩
theorem lesser_r {w : World} {N g : Nat} {s1 s2 : Bool} {A1 B1 A2 B2 : Option Addr} {c1 d1 L1 M1 c2 d2 L2 M2 : Nat} {q1 q2 : Rat} (h1 : RO w g s1 A1 c1 L1 B1 d1 M1 N q1) (h2 : RO w g s2 A2 c2 L2 B2 d2 M2 N q2) (hN : N < 48) :
    Calls Tryz.prog 60 #[Value.agg #[Value.bool s1, Value.slice A1 L1 c1, Value.slice B1 M1 d1], Value.agg #[Value.bool s2, Value.slice A2 L2 c2, Value.slice B2 M2 d2]] w (RetG w g N (minQ q1 q2)) := by
  by_cases h : q1 ≤ q2
  · exact lesser_yes h1 h2 hN h
  · exact lesser_no h1 h2 hN h
set_option maxHeartbeats 4000000 in
set_option maxRecDepth 100000 in
theorem greater_yes {w : World} {N g : Nat} {s1 s2 : Bool} {A1 B1 A2 B2 : Option Addr} {c1 d1 L1 M1 c2 d2 L2 M2 : Nat} {q1 q2 : Rat} (h1 : RO w g s1 A1 c1 L1 B1 d1 M1 N q1) (h2 : RO w g s2 A2 c2 L2 B2 d2 M2 N q2) (hN : N < 48) (hq : q2 ≤ q1) :
    Calls Tryz.prog 61 #[Value.agg #[Value.bool s1, Value.slice A1 L1 c1, Value.slice B1 M1 d1], Value.agg #[Value.bool s2, Value.slice A2 L2 c2, Value.slice B2 M2 d2]] w (RetG w g N (maxQ q1 q2)) := by
  obtain ⟨K, hK⟩ : ∃ K : Int, K = cmpQ q1 q2 := ⟨_, rfl⟩
  have hk : (0 ≤ K) := by rw [hK]; exact (cmpQ_ge _ _).2 hq
  have HK := Lib.hid hK.symm
  have HLO : Hid (maxQ q1 q2 = q1) := by show _ = _; unfold maxQ; rw [if_pos hq]
  clear hK hq
  go_enter Tryz.func61, Tryz.ntmps61
  go_wp2_with fail
  obtain ⟨w0, hw0⟩ : ∃ z : World, z = (((w.alloc (.cells #[.bool s1, .slice A1 L1 c1, .slice B1 M1 d1] 27)).alloc (.cells #[.bool s2, .slice A2 L2 c2, .slice B2 M2 d2] 27)).alloc (.cells #[.bool false, .slice none 0 0, .slice none 0 0] 27)) := ⟨_, rfl⟩
  rw [← hw0]
  have bxa : BK w0 (w.heap.size) 27 #[.bool s1, .slice A1 L1 c1, .slice B1 M1 d1] := by rw [hw0]; have h5 := (BK.ext (BK.ext (BK.new w #[.bool s1, .slice A1 L1 c1, .slice B1 M1 d1] 27) (Ext.alloc _ (.cells #[.bool s2, .slice A2 L2 c2, .slice B2 M2 d2] 27))) (Ext.alloc _ (.cells #[.bool false, .slice none 0 0, .slice none 0 0] 27))); simpa only [World.size_alloc] using h5
  have bxb : BK w0 (w.heap.size + 1) 27 #[.bool s2, .slice A2 L2 c2, .slice B2 M2 d2] := by rw [hw0]; have h5 := (BK.ext (BK.new (w.alloc (.cells #[.bool s1, .slice A1 L1 c1, .slice B1 M1 d1] 27)) #[.bool s2, .slice A2 L2 c2, .slice B2 M2 d2] 27) (Ext.alloc _ (.cells #[.bool false, .slice none 0 0, .slice none 0 0] 27))); simpa only [World.size_alloc] using h5
  have bxr : BK w0 (w.heap.size + 1 + 1) 27 #[.bool false, .slice none 0 0, .slice none 0 0] := by rw [hw0]; have h5 := (BK.new ((w.alloc (.cells #[.bool s1, .slice A1 L1 c1, .slice B1 M1 d1] 27)).alloc (.cells #[.bool s2, .slice A2 L2 c2, .slice B2 M2 d2] 27)) #[.bool false, .slice none 0 0, .slice none 0 0] 27); simpa only [World.size_alloc] using h5
  have hszw0 : w0.heap.size = w.heap.size + 1 + 1 + 1 := by rw [hw0]; simp only [World.size_alloc]
  have xw0 : Ext w w0 := by rw [hw0]; exact (((Ext.alloc _ _).trans (Ext.alloc _ _)).trans (Ext.alloc _ _))
  clear hw0
  refine (rcmp_k (h1.rv.ext (by with_reducible repeat' first | exact Ext.refl _ | assumption | apply Ext.alloc_r | apply Ext.drew_r | apply Ext.drewN_r | refine Ext.trans ?_ ‹Ext _ _›)) (h2.rv.ext (by with_reducible repeat' first | exact Ext.refl _ | assumption | apply Ext.alloc_r | apply Ext.drew_r | apply Ext.drewN_r | refine Ext.trans ?_ ‹Ext _ _›)) hN HK.out).mono ?_
  rintro e w1 ⟨rfl, x1⟩
  have szw1 : w0.heap.size ≤ w1.heap.size := x1.size
  replace bxa := bxa.ext x1
  replace bxb := bxb.ext x1
  replace bxr := bxr.ext x1
  have HO := Lib.hid (h1.ext (show Ext w w1 from (by with_reducible repeat' first | exact Ext.refl _ | assumption | apply Ext.alloc_r | apply Ext.drew_r | apply Ext.drewN_r | refine Ext.trans ?_ ‹Ext _ _›)))
  clear h1 h2
  have ka_0 := bxa.c 0 (.bool s1) rfl
  have ka_1 := bxa.c 1 (.slice A1 L1 c1) rfl
  have ka_2 := bxa.c 2 (.slice B1 M1 d1) rfl
  have kb_0 := bxb.c 0 (.bool s2) rfl
  have kb_1 := bxb.c 1 (.slice A2 L2 c2) rfl
  have kb_2 := bxb.c 2 (.slice B2 M2 d2) rfl
  have kr_0 := bxr.c 0 (.bool false) rfl
  have fr_0 := bxr.f 0
  have kr_1 := bxr.c 1 (.slice none 0 0) rfl
  have fr_1 := bxr.f 1
  have kr_2 := bxr.c 2 (.slice none 0 0) rfl
  have fr_2 := bxr.f 2
  go_wp2_with fail
  clear ka_0 ka_1 ka_2 kb_0 kb_1 kb_2 kr_0 fr_0 kr_1 fr_1 kr_2 fr_2
  have HR2 := HO.out
  obtain ⟨w2, hw⟩ : ∃ z : World, z = (((w1.setCell ⟨w.heap.size + 1 + 1, 0, none⟩ (.bool s1)).setCell ⟨w.heap.size + 1 + 1, 1, none⟩ (.slice A1 L1 c1)).setCell ⟨w.heap.size + 1 + 1, 2, none⟩ (.slice B1 M1 d1)) := ⟨_, rfl⟩
  rw [← hw]
  have kw2 : Kept w1 w2 := by rw [hw]; exact (Kept.set_ (Kept.set_ (Kept.set_ (Kept.refl _) bxr.isBox plain_rat) (IsBox.set_ bxr.isBox) plain_rat) (IsBox.set_ (IsBox.set_ bxr.isBox)) plain_rat)
  have nba : BK w2 (w.heap.size) 27 #[.bool s1, .slice A1 L1 c1, .slice B1 M1 d1] := by rw [hw]; exact (BK.far (BK.far (BK.far bxa (show w.heap.size ≠ w.heap.size + 1 + 1 by omega) 0 _) (show w.heap.size ≠ w.heap.size + 1 + 1 by omega) 1 _) (show w.heap.size ≠ w.heap.size + 1 + 1 by omega) 2 _)
  have nbb : BK w2 (w.heap.size + 1) 27 #[.bool s2, .slice A2 L2 c2, .slice B2 M2 d2] := by rw [hw]; exact (BK.far (BK.far (BK.far bxb (show w.heap.size + 1 ≠ w.heap.size + 1 + 1 by omega) 0 _) (show w.heap.size + 1 ≠ w.heap.size + 1 + 1 by omega) 1 _) (show w.heap.size + 1 ≠ w.heap.size + 1 + 1 by omega) 2 _)
  have nbr : BK w2 (w.heap.size + 1 + 1) 27 #[.bool s1, .slice A1 L1 c1, .slice B1 M1 d1] := by rw [hw]; exact (BK.set (i := 2) (u := .slice B1 M1 d1) (vs' := #[.bool s1, .slice A1 L1 c1, .slice B1 M1 d1]) (BK.set (i := 1) (u := .slice A1 L1 c1) (vs' := #[.bool s1, .slice A1 L1 c1, .slice none 0 0]) (BK.set (i := 0) (u := .bool s1) (vs' := #[.bool s1, .slice none 0 0, .slice none 0 0]) bxr rfl) rfl) rfl)
  have x2 : Ext w w2 := by rw [hw]; have hxp : Ext w w1 := (by with_reducible repeat' first | exact Ext.refl _ | assumption | apply Ext.alloc_r | apply Ext.drew_r | apply Ext.drewN_r | refine Ext.trans ?_ ‹Ext _ _›); exact (Ext.set_ (Ext.set_ (Ext.set_ hxp (show _ ≤ w.heap.size + 1 + 1 by omega)) (show _ ≤ w.heap.size + 1 + 1 by omega)) (show _ ≤ w.heap.size + 1 + 1 by omega))
  clear bxa
  clear bxb
  clear bxr
  have bxa := nba
  clear nba
  have bxb := nbb
  clear nbb
  have bxr := nbr
  clear nbr
  have szw2 : w2.heap.size = w1.heap.size := by rw [hw]; simp
  replace HR2 := (HR2.ext (by with_reducible repeat' first | exact Ext.refl _ | assumption | apply Ext.alloc_r | apply Ext.drew_r | apply Ext.drewN_r | refine Ext.trans ?_ ‹Ext _ _›)).kept kw2
  clear hw kw2
  clear HO
  have HO := Lib.hid HR2
  clear HR2
  have kr_0 := bxr.c 0 (.bool s1) rfl
  have kr_1 := bxr.c 1 (.slice A1 L1 c1) rfl
  have kr_2 := bxr.c 2 (.slice B1 M1 d1) rfl
  refine bodyPost_ret (v := .agg #[Value.bool s1, Value.slice A1 L1 c1, Value.slice B1 M1 d1]) (by simp [results, Tryz.results61, go_sem, kr_0, kr_1, kr_2]) rfl ?_
  exact ⟨_, _, _, _, _, _, _, rfl, by rw [HLO.out]; exact HO.out, x2⟩
set_option maxHeartbeats 4000000 in
set_option maxRecDepth 100000 in
theorem greater_no {w : World} {N g : Nat} {s1 s2 : Bool} {A1 B1 A2 B2 : Option Addr} {c1 d1 L1 M1 c2 d2 L2 M2 : Nat} {q1 q2 : Rat} (h1 : RO w g s1 A1 c1 L1 B1 d1 M1 N q1) (h2 : RO w g s2 A2 c2 L2 B2 d2 M2 N q2) (hN : N < 48) (hq : ¬ q2 ≤ q1) :
    Calls Tryz.prog 61 #[Value.agg #[Value.bool s1, Value.slice A1 L1 c1, Value.slice B1 M1 d1], Value.agg #[Value.bool s2, Value.slice A2 L2 c2, Value.slice B2 M2 d2]] w (RetG w g N (maxQ q1 q2)) := by
  obtain ⟨K, hK⟩ : ∃ K : Int, K = cmpQ q1 q2 := ⟨_, rfl⟩
  have hk : ¬ (0 ≤ K) := by rw [hK]; exact fun h => hq ((cmpQ_ge _ _).1 h)
  have HK := Lib.hid hK.symm
  have HLO : Hid (maxQ q1 q2 = q2) := by show _ = _; unfold maxQ; rw [if_neg hq]
  clear hK hq
  go_enter Tryz.func61, Tryz.ntmps61
  go_wp2_with fail
  obtain ⟨w0, hw0⟩ : ∃ z : World, z = (((w.alloc (.cells #[.bool s1, .slice A1 L1 c1, .slice B1 M1 d1] 27)).alloc (.cells #[.bool s2, .slice A2 L2 c2, .slice B2 M2 d2] 27)).alloc (.cells #[.bool false, .slice none 0 0, .slice none 0 0] 27)) := ⟨_, rfl⟩
  rw [← hw0]
  have bxa : BK w0 (w.heap.size) 27 #[.bool s1, .slice A1 L1 c1, .slice B1 M1 d1] := by rw [hw0]; have h5 := (BK.ext (BK.ext (BK.new w #[.bool s1, .slice A1 L1 c1, .slice B1 M1 d1] 27) (Ext.alloc _ (.cells #[.bool s2, .slice A2 L2 c2, .slice B2 M2 d2] 27))) (Ext.alloc _ (.cells #[.bool false, .slice none 0 0, .slice none 0 0] 27))); simpa only [World.size_alloc] using h5
  have bxb : BK w0 (w.heap.size + 1) 27 #[.bool s2, .slice A2 L2 c2, .slice B2 M2 d2] := by rw [hw0]; have h5 := (BK.ext (BK.new (w.alloc (.cells #[.bool s1, .slice A1 L1 c1, .slice B1 M1 d1] 27)) #[.bool s2, .slice A2 L2 c2, .slice B2 M2 d2] 27) (Ext.alloc _ (.cells #[.bool false, .slice none 0 0, .slice none 0 0] 27))); simpa only [World.size_alloc] using h5
  have bxr : BK w0 (w.heap.size + 1 + 1) 27 #[.bool false, .slice none 0 0, .slice none 0 0] := by rw [hw0]; have h5 := (BK.new ((w.alloc (.cells #[.bool s1, .slice A1 L1 c1, .slice B1 M1 d1] 27)).alloc (.cells #[.bool s2, .slice A2 L2 c2, .slice B2 M2 d2] 27)) #[.bool false, .slice none 0 0, .slice none 0 0] 27); simpa only [World.size_alloc] using h5
  have hszw0 : w0.heap.size = w.heap.size + 1 + 1 + 1 := by rw [hw0]; simp only [World.size_alloc]
  have xw0 : Ext w w0 := by rw [hw0]; exact (((Ext.alloc _ _).trans (Ext.alloc _ _)).trans (Ext.alloc _ _))
  clear hw0
  refine (rcmp_k (h1.rv.ext (by with_reducible repeat' first | exact Ext.refl _ | assumption | apply Ext.alloc_r | apply Ext.drew_r | apply Ext.drewN_r | refine Ext.trans ?_ ‹Ext _ _›)) (h2.rv.ext (by with_reducible repeat' first | exact Ext.refl _ | assumption | apply Ext.alloc_r | apply Ext.drew_r | apply Ext.drewN_r | refine Ext.trans ?_ ‹Ext _ _›)) hN HK.out).mono ?_
  rintro e w1 ⟨rfl, x1⟩
  have szw1 : w0.heap.size ≤ w1.heap.size := x1.size
  replace bxa := bxa.ext x1
  replace bxb := bxb.ext x1
  replace bxr := bxr.ext x1
  have HO := Lib.hid (h2.ext (show Ext w w1 from (by with_reducible repeat' first | exact Ext.refl _ | assumption | apply Ext.alloc_r | apply Ext.drew_r | apply Ext.drewN_r | refine Ext.trans ?_ ‹Ext _ _›)))
  clear h1 h2
  have ka_0 := bxa.c 0 (.bool s1) rfl
  have ka_1 := bxa.c 1 (.slice A1 L1 c1) rfl
  have ka_2 := bxa.c 2 (.slice B1 M1 d1) rfl
  have kb_0 := bxb.c 0 (.bool s2) rfl
  have kb_1 := bxb.c 1 (.slice A2 L2 c2) rfl
  have kb_2 := bxb.c 2 (.slice B2 M2 d2) rfl
  have kr_0 := bxr.c 0 (.bool false) rfl
  have fr_0 := bxr.f 0
  have kr_1 := bxr.c 1 (.slice none 0 0) rfl
  have fr_1 := bxr.f 1
  have kr_2 := bxr.c 2 (.slice none 0 0) rfl
  have fr_2 := bxr.f 2
  go_wp2_with fail
  clear ka_0 ka_1 ka_2 kb_0 kb_1 kb_2 kr_0 fr_0 kr_1 fr_1 kr_2 fr_2
  have HR2 := HO.out
  obtain ⟨w2, hw⟩ : ∃ z : World, z = (((w1.setCell ⟨w.heap.size + 1 + 1, 0, none⟩ (.bool s2)).setCell ⟨w.heap.size + 1 + 1, 1, none⟩ (.slice A2 L2 c2)).setCell ⟨w.heap.size + 1 + 1, 2, none⟩ (.slice B2 M2 d2)) := ⟨_, rfl⟩
  rw [← hw]
  have kw2 : Kept w1 w2 := by rw [hw]; exact (Kept.set_ (Kept.set_ (Kept.set_ (Kept.refl _) bxr.isBox plain_rat) (IsBox.set_ bxr.isBox) plain_rat) (IsBox.set_ (IsBox.set_ bxr.isBox)) plain_rat)
  have nba : BK w2 (w.heap.size) 27 #[.bool s1, .slice A1 L1 c1, .slice B1 M1 d1] := by rw [hw]; exact (BK.far (BK.far (BK.far bxa (show w.heap.size ≠ w.heap.size + 1 + 1 by omega) 0 _) (show w.heap.size ≠ w.heap.size + 1 + 1 by omega) 1 _) (show w.heap.size ≠ w.heap.size + 1 + 1 by omega) 2 _)
  have nbb : BK w2 (w.heap.size + 1) 27 #[.bool s2, .slice A2 L2 c2, .slice B2 M2 d2] := by rw [hw]; exact (BK.far (BK.far (BK.far bxb (show w.heap.size + 1 ≠ w.heap.size + 1 + 1 by omega) 0 _) (show w.heap.size + 1 ≠ w.heap.size + 1 + 1 by omega) 1 _) (show w.heap.size + 1 ≠ w.heap.size + 1 + 1 by omega) 2 _)
  have nbr : BK w2 (w.heap.size + 1 + 1) 27 #[.bool s2, .slice A2 L2 c2, .slice B2 M2 d2] := by rw [hw]; exact (BK.set (i := 2) (u := .slice B2 M2 d2) (vs' := #[.bool s2, .slice A2 L2 c2, .slice B2 M2 d2]) (BK.set (i := 1) (u := .slice A2 L2 c2) (vs' := #[.bool s2, .slice A2 L2 c2, .slice none 0 0]) (BK.set (i := 0) (u := .bool s2) (vs' := #[.bool s2, .slice none 0 0, .slice none 0 0]) bxr rfl) rfl) rfl)
  have x2 : Ext w w2 := by rw [hw]; have hxp : Ext w w1 := (by with_reducible repeat' first | exact Ext.refl _ | assumption | apply Ext.alloc_r | apply Ext.drew_r | apply Ext.drewN_r | refine Ext.trans ?_ ‹Ext _ _›); exact (Ext.set_ (Ext.set_ (Ext.set_ hxp (show _ ≤ w.heap.size + 1 + 1 by omega)) (show _ ≤ w.heap.size + 1 + 1 by omega)) (show _ ≤ w.heap.size + 1 + 1 by omega))
  clear bxa
  clear bxb
  clear bxr
  have bxa := nba
  clear nba
  have bxb := nbb
  clear nbb
  have bxr := nbr
  clear nbr
  have szw2 : w2.heap.size = w1.heap.size := by rw [hw]; simp
  replace HR2 := (HR2.ext (by with_reducible repeat' first | exact Ext.refl _ | assumption | apply Ext.alloc_r | apply Ext.drew_r | apply Ext.drewN_r | refine Ext.trans ?_ ‹Ext _ _›)).kept kw2
  clear hw kw2
  clear HO
  have HO := Lib.hid HR2
  clear HR2
  have kr_0 := bxr.c 0 (.bool s2) rfl
  have kr_1 := bxr.c 1 (.slice A2 L2 c2) rfl
  have kr_2 := bxr.c 2 (.slice B2 M2 d2) rfl
  refine bodyPost_ret (v := .agg #[Value.bool s2, Value.slice A2 L2 c2, Value.slice B2 M2 d2]) (by simp [results, Tryz.results61, go_sem, kr_0, kr_1, kr_2]) rfl ?_
  exact ⟨_, _, _, _, _, _, _, rfl, by rw [HLO.out]; exact HO.out, x2⟩
theorem greater_r {w : World} {N g : Nat} {s1 s2 : Bool} {A1 B1 A2 B2 : Option Addr} {c1 d1 L1 M1 c2 d2 L2 M2 : Nat} {q1 q2 : Rat} (h1 : RO w g s1 A1 c1 L1 B1 d1 M1 N q1) (h2 : RO w g s2 A2 c2 L2 B2 d2 M2 N q2) (hN : N < 48) :
    Calls Tryz.prog 61 #[Value.agg #[Value.bool s1, Value.slice A1 L1 c1, Value.slice B1 M1 d1], Value.agg #[Value.bool s2, Value.slice A2 L2 c2, Value.slice B2 M2 d2]] w (RetG w g N (maxQ q1 q2)) := by
  by_cases h : q2 ≤ q1
  · exact greater_yes h1 h2 hN h
  · exact greater_no h1 h2 hN h
end Go.Proofs.YtehhkeenjlpikaaGreat
