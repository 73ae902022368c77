/- The reference of chapter 06: contracts of its functions without loops. -/
import Derived.Test.YtehhkeenjlpikaaGreatQuRef5
import Derived.Test.YtehhkeenjlpikaaGreatQuIvP
import Derived.Test.YtehhkeenjlpikaaGreatQuOpenR
import Derived.Deep.RegionHeldLaw
import Derived.Deep.LoopGhost
import Derived.Deep.QuietTactic
import Derived.BigQuiet
namespace Go.Proofs.YtehhkeenjlpikaaGreat
open Go.RowKit
theorem plain_J : ¬ Plain 38 := by unfold Plain; decide
/-- The call returns the interval from p to q of the reference, the parts of its bounds of at most K bits. -/
def RetJ (w : World) (K : Nat) (p q : Rat) (e : Ending) (w' : World) : Prop := ∃ g A c L h B d M g' A' c' L' h' B' d' M', e = .returned (.agg #[.int .i64 g, .slice A L c, .int .i64 h, .slice B M d, .int .i64 g', .slice A' L' c', .int .i64 h', .slice B' M' d']) ∧ QR w' g A c L h B d M K p ∧ QR w' g' A' c' L' h' B' d' M' K q ∧ Ext w w'
theorem qcmp_k {w : World} {K : Nat} {g1 h1 g2 h2 : Int} {A1 B1 A2 B2 : Option Addr} {c1 d1 L1 M1 c2 d2 L2 M2 : Nat} {q1 q2 : Rat} {k : Int} (h_1 : QR w g1 A1 c1 L1 h1 B1 d1 M1 K q1) (h_2 : QR w g2 A2 c2 L2 h2 B2 d2 M2 K q2) (hK : K ≤ 100000000) (e : cmpQ q1 q2 = k) :
    Calls Tryz.prog 42 #[Value.agg #[Value.int IntKind.i64 g1, Value.slice A1 L1 c1, Value.int IntKind.i64 h1, Value.slice B1 M1 d1], Value.agg #[Value.int IntKind.i64 g2, Value.slice A2 L2 c2, Value.int IntKind.i64 h2, Value.slice B2 M2 d2]] w fun e w' => e = .returned (.int .i64 k) ∧ Ext w w' := by rw [← e]; exact qcmp_r h_1 h_2 (by omega) (by omega)
set_option maxHeartbeats 4000000 in
set_option maxRecDepth 100000 in
theorem lq6 {w : World} {s1 : Bool} {A1 B1 : Option Addr} {c1 d1 L1 M1 K : Nat} {x : Int} {y : Nat} (h : RW w s1 A1 c1 L1 B1 d1 M1 x y) (hL : 32 * L1 ≤ K) (hM : 32 * M1 ≤ K) (hK : K ≤ 1000000000) (hK1 : 1 ≤ K) :
    Calls Tryz.prog 18 #[Value.agg #[.bool s1, .slice A1 L1 c1, .slice B1 M1 d1]] w (RetQ w K (mkRat x y)) := by
  have HO : Hid (∀ w', Ext w w' → Calls Tryz.prog 54 #[.bool s1, .slice A1 L1 c1, .slice B1 M1 d1] w' (RetQ w' K (mkRat x y))) := fun w' hx => qof_r (h.num.ext hx) (h.den.ext hx) hL hM hK hK1
  clear h
  go_enter Tryz.func18, Tryz.ntmps18
  go_wp2_with fail
  obtain ⟨w0, hw0⟩ : ∃ z : World, z = ((w.alloc (.cells #[.bool s1, .slice A1 L1 c1, .slice B1 M1 d1] 27)).alloc (.cells #[.int .i64 0, .slice none 0 0, .int .i64 0, .slice none 0 0] 36)) := ⟨_, rfl⟩
  rw [← hw0]
  have bxa : BK w0 (w.heap.size) 27 #[.bool s1, .slice A1 L1 c1, .slice B1 M1 d1] := by rw [hw0]; have h5 := (BK.ext (BK.new w #[.bool s1, .slice A1 L1 c1, .slice B1 M1 d1] 27) (Ext.alloc _ (.cells #[.int .i64 0, .slice none 0 0, .int .i64 0, .slice none 0 0] 36))); simpa only [World.size_alloc] using h5
  have bxr : BK w0 (w.heap.size + 1) 36 #[.int .i64 0, .slice none 0 0, .int .i64 0, .slice none 0 0] := by rw [hw0]; have h5 := (BK.new (w.alloc (.cells #[.bool s1, .slice A1 L1 c1, .slice B1 M1 d1] 27)) #[.int .i64 0, .slice none 0 0, .int .i64 0, .slice none 0 0] 36); simpa only [World.size_alloc] using h5
  have hszw0 : w0.heap.size = w.heap.size + 1 + 1 := by rw [hw0]; simp only [World.size_alloc]
  have xw0 : Ext w w0 := by rw [hw0]; exact ((Ext.alloc _ _).trans (Ext.alloc _ _))
  clear hw0
  refine (HO.out _ (by with_reducible repeat' first | exact Ext.refl _ | assumption | apply Ext.alloc_r | apply Ext.drew_r | apply Ext.drewN_r | refine Ext.trans ?_ ‹Ext _ _›)).mono ?_
  rintro e w1 ⟨gz, Az, cz, Lz, hz, Bz, dz, Mz, rfl, z, x1⟩
  have szw1 : w0.heap.size ≤ w1.heap.size := x1.size
  replace bxa := bxa.ext x1
  replace bxr := bxr.ext x1
  have HZ := Lib.hid z
  clear z HO
  have ka_0 := bxa.c 0 (.bool s1) rfl
  have ka_1 := bxa.c 1 (.slice A1 L1 c1) rfl
  have ka_2 := bxa.c 2 (.slice B1 M1 d1) rfl
  have kr_0 := bxr.c 0 (.int .i64 0) rfl
  have fr_0 := bxr.f 0
  have kr_1 := bxr.c 1 (.slice none 0 0) rfl
  have fr_1 := bxr.f 1
  have kr_2 := bxr.c 2 (.int .i64 0) rfl
  have fr_2 := bxr.f 2
  have kr_3 := bxr.c 3 (.slice none 0 0) rfl
  have fr_3 := bxr.f 3
  go_wp2_with fail
  clear ka_0 ka_1 ka_2 kr_0 fr_0 kr_1 fr_1 kr_2 fr_2 kr_3 fr_3
  have z := HZ.out
  clear HZ
  obtain ⟨w2, hw⟩ : ∃ z : World, z = ((((w1.setCell ⟨w.heap.size + 1, 0, none⟩ (.int .i64 gz)).setCell ⟨w.heap.size + 1, 1, none⟩ (.slice Az Lz cz)).setCell ⟨w.heap.size + 1, 2, none⟩ (.int .i64 hz)).setCell ⟨w.heap.size + 1, 3, none⟩ (.slice Bz Mz dz)) := ⟨_, rfl⟩
  rw [← hw]
  have kw2 : Kept w1 w2 := by rw [hw]; exact (Kept.set_ (Kept.set_ (Kept.set_ (Kept.set_ (Kept.refl _) bxr.isBox plain_Q) (IsBox.set_ bxr.isBox) plain_Q) (IsBox.set_ (IsBox.set_ bxr.isBox)) plain_Q) (IsBox.set_ (IsBox.set_ (IsBox.set_ bxr.isBox))) plain_Q)
  have nba : BK w2 (w.heap.size) 27 #[.bool s1, .slice A1 L1 c1, .slice B1 M1 d1] := by rw [hw]; exact (BK.far (BK.far (BK.far (BK.far bxa (show w.heap.size ≠ w.heap.size + 1 by omega) 0 _) (show w.heap.size ≠ w.heap.size + 1 by omega) 1 _) (show w.heap.size ≠ w.heap.size + 1 by omega) 2 _) (show w.heap.size ≠ w.heap.size + 1 by omega) 3 _)
  have nbr : BK w2 (w.heap.size + 1) 36 #[.int .i64 gz, .slice Az Lz cz, .int .i64 hz, .slice Bz Mz dz] := by rw [hw]; exact (BK.set (i := 3) (u := .slice Bz Mz dz) (vs' := #[.int .i64 gz, .slice Az Lz cz, .int .i64 hz, .slice Bz Mz dz]) (BK.set (i := 2) (u := .int .i64 hz) (vs' := #[.int .i64 gz, .slice Az Lz cz, .int .i64 hz, .slice none 0 0]) (BK.set (i := 1) (u := .slice Az Lz cz) (vs' := #[.int .i64 gz, .slice Az Lz cz, .int .i64 0, .slice none 0 0]) (BK.set (i := 0) (u := .int .i64 gz) (vs' := #[.int .i64 gz, .slice none 0 0, .int .i64 0, .slice none 0 0]) bxr rfl) rfl) rfl) rfl)
  have x2 : Ext w w2 := by rw [hw]; have hxp : Ext w w1 := (by with_reducible repeat' first | exact Ext.refl _ | assumption | apply Ext.alloc_r | apply Ext.drew_r | apply Ext.drewN_r | refine Ext.trans ?_ ‹Ext _ _›); exact (Ext.set_ (Ext.set_ (Ext.set_ (Ext.set_ hxp (show _ ≤ w.heap.size + 1 by omega)) (show _ ≤ w.heap.size + 1 by omega)) (show _ ≤ w.heap.size + 1 by omega)) (show _ ≤ w.heap.size + 1 by omega))
  clear bxa
  clear bxr
  have bxa := nba
  clear nba
  have bxr := nbr
  clear nbr
  have szw2 : w2.heap.size = w1.heap.size := by rw [hw]; simp
  replace z := (z.ext (by with_reducible repeat' first | exact Ext.refl _ | assumption | apply Ext.alloc_r | apply Ext.drew_r | apply Ext.drewN_r | refine Ext.trans ?_ ‹Ext _ _›)).kept kw2
  clear hw kw2
  have HQ2 := Lib.hid z
  clear z
  have kr_0 := bxr.c 0 (.int .i64 gz) rfl
  have kr_1 := bxr.c 1 (.slice Az Lz cz) rfl
  have kr_2 := bxr.c 2 (.int .i64 hz) rfl
  have kr_3 := bxr.c 3 (.slice Bz Mz dz) rfl
  refine bodyPost_ret (v := Value.agg #[Value.int IntKind.i64 gz, Value.slice Az Lz cz, Value.int IntKind.i64 hz, Value.slice Bz Mz dz]) (by simp [results, Tryz.results18, go_sem, kr_0, kr_1, kr_2, kr_3]) rfl ?_
  exact ⟨_, _, _, _, _, _, _, _, rfl, HQ2.out, x2⟩
set_option maxHeartbeats 4000000 in
set_option maxRecDepth 100000 in
theorem jmake_gt {w : World} {K : Nat} {g1 h1 g2 h2 : Int} {A1 B1 A2 B2 : Option Addr} {c1 d1 L1 M1 c2 d2 L2 M2 : Nat} {q1 q2 : Rat} (h_1 : QR w g1 A1 c1 L1 h1 B1 d1 M1 K q1) (h_2 : QR w g2 A2 c2 L2 h2 B2 d2 M2 K q2) (hK : K ≤ 100000000) (hq : q2 < q1) :
    Calls Tryz.prog 47 #[Value.agg #[Value.int IntKind.i64 g1, Value.slice A1 L1 c1, Value.int IntKind.i64 h1, Value.slice B1 M1 d1], Value.agg #[Value.int IntKind.i64 g2, Value.slice A2 L2 c2, Value.int IntKind.i64 h2, Value.slice B2 M2 d2]] w (RetJ w K (minQ q1 q2) (maxQ q1 q2)) := by
  obtain ⟨k, hk0⟩ : ∃ k : Int, k = cmpQ q1 q2 := ⟨_, rfl⟩
  have hk : k > 0 := by rw [hk0]; exact (cmpQ_gt _ _).2 hq
  have HK := Lib.hid hk0.symm
  have HLO : Hid (minQ q1 q2 = q2 ∧ maxQ q1 q2 = q1) := by show _ ∧ _; exact ⟨by rw [minQ_comm]; exact min_of_le (Rat.le_of_lt hq), by rw [maxQ_comm]; exact max_of_le (Rat.le_of_lt hq)⟩
  clear hk0 hq
  go_enter Tryz.func47, Tryz.ntmps47
  go_wp2_with fail
  obtain ⟨w0, hw0⟩ : ∃ z : World, z = (((w.alloc (.cells #[.int .i64 g1, .slice A1 L1 c1, .int .i64 h1, .slice B1 M1 d1] 36)).alloc (.cells #[.int .i64 g2, .slice A2 L2 c2, .int .i64 h2, .slice B2 M2 d2] 36)).alloc (.cells #[.int .i64 0, .slice none 0 0, .int .i64 0, .slice none 0 0, .int .i64 0, .slice none 0 0, .int .i64 0, .slice none 0 0] 38)) := ⟨_, rfl⟩
  rw [← hw0]
  have bxa : BK w0 (w.heap.size) 36 #[.int .i64 g1, .slice A1 L1 c1, .int .i64 h1, .slice B1 M1 d1] := by rw [hw0]; have h5 := (BK.ext (BK.ext (BK.new w #[.int .i64 g1, .slice A1 L1 c1, .int .i64 h1, .slice B1 M1 d1] 36) (Ext.alloc _ (.cells #[.int .i64 g2, .slice A2 L2 c2, .int .i64 h2, .slice B2 M2 d2] 36))) (Ext.alloc _ (.cells #[.int .i64 0, .slice none 0 0, .int .i64 0, .slice none 0 0, .int .i64 0, .slice none 0 0, .int .i64 0, .slice none 0 0] 38))); simpa only [World.size_alloc] using h5
  have bxb : BK w0 (w.heap.size + 1) 36 #[.int .i64 g2, .slice A2 L2 c2, .int .i64 h2, .slice B2 M2 d2] := by rw [hw0]; have h5 := (BK.ext (BK.new (w.alloc (.cells #[.int .i64 g1, .slice A1 L1 c1, .int .i64 h1, .slice B1 M1 d1] 36)) #[.int .i64 g2, .slice A2 L2 c2, .int .i64 h2, .slice B2 M2 d2] 36) (Ext.alloc _ (.cells #[.int .i64 0, .slice none 0 0, .int .i64 0, .slice none 0 0, .int .i64 0, .slice none 0 0, .int .i64 0, .slice none 0 0] 38))); simpa only [World.size_alloc] using h5
  have bxr : BK w0 (w.heap.size + 1 + 1) 38 #[.int .i64 0, .slice none 0 0, .int .i64 0, .slice none 0 0, .int .i64 0, .slice none 0 0, .int .i64 0, .slice none 0 0] := by rw [hw0]; have h5 := (BK.new ((w.alloc (.cells #[.int .i64 g1, .slice A1 L1 c1, .int .i64 h1, .slice B1 M1 d1] 36)).alloc (.cells #[.int .i64 g2, .slice A2 L2 c2, .int .i64 h2, .slice B2 M2 d2] 36)) #[.int .i64 0, .slice none 0 0, .int .i64 0, .slice none 0 0, .int .i64 0, .slice none 0 0, .int .i64 0, .slice none 0 0] 38); simpa only [World.size_alloc] using h5
  have hszw0 : w0.heap.size = w.heap.size + 1 + 1 + 1 := by rw [hw0]; simp only [World.size_alloc]
  have xw0 : Ext w w0 := by rw [hw0]; exact (((Ext.alloc _ _).trans (Ext.alloc _ _)).trans (Ext.alloc _ _))
  clear hw0
  refine (qcmp_k (h_1.ext (by with_reducible repeat' first | exact Ext.refl _ | assumption | apply Ext.alloc_r | apply Ext.drew_r | apply Ext.drewN_r | refine Ext.trans ?_ ‹Ext _ _›)) (h_2.ext (by with_reducible repeat' first | exact Ext.refl _ | assumption | apply Ext.alloc_r | apply Ext.drew_r | apply Ext.drewN_r | refine Ext.trans ?_ ‹Ext _ _›)) hK HK.out).mono ?_
  rintro e w1 ⟨rfl, x1⟩
  have szw1 : w0.heap.size ≤ w1.heap.size := x1.size
  replace bxa := bxa.ext x1
  replace bxb := bxb.ext x1
  replace bxr := bxr.ext x1
  have HA := Lib.hid (And.intro (h_2.ext (show Ext w w1 from (by with_reducible repeat' first | exact Ext.refl _ | assumption | apply Ext.alloc_r | apply Ext.drew_r | apply Ext.drewN_r | refine Ext.trans ?_ ‹Ext _ _›))) (h_1.ext (show Ext w w1 from (by with_reducible repeat' first | exact Ext.refl _ | assumption | apply Ext.alloc_r | apply Ext.drew_r | apply Ext.drewN_r | refine Ext.trans ?_ ‹Ext _ _›))))
  clear h_1 h_2
  have ka_0 := bxa.c 0 (.int .i64 g1) rfl
  have ka_1 := bxa.c 1 (.slice A1 L1 c1) rfl
  have ka_2 := bxa.c 2 (.int .i64 h1) rfl
  have ka_3 := bxa.c 3 (.slice B1 M1 d1) rfl
  have kb_0 := bxb.c 0 (.int .i64 g2) rfl
  have kb_1 := bxb.c 1 (.slice A2 L2 c2) rfl
  have kb_2 := bxb.c 2 (.int .i64 h2) rfl
  have kb_3 := bxb.c 3 (.slice B2 M2 d2) rfl
  have kr_0 := bxr.c 0 (.int .i64 0) rfl
  have fr_0 := bxr.f 0
  have kr_1 := bxr.c 1 (.slice none 0 0) rfl
  have fr_1 := bxr.f 1
  have kr_2 := bxr.c 2 (.int .i64 0) rfl
  have fr_2 := bxr.f 2
  have kr_3 := bxr.c 3 (.slice none 0 0) rfl
  have fr_3 := bxr.f 3
  have kr_4 := bxr.c 4 (.int .i64 0) rfl
  have fr_4 := bxr.f 4
  have kr_5 := bxr.c 5 (.slice none 0 0) rfl
  have fr_5 := bxr.f 5
  have kr_6 := bxr.c 6 (.int .i64 0) rfl
  have fr_6 := bxr.f 6
  have kr_7 := bxr.c 7 (.slice none 0 0) rfl
  have fr_7 := bxr.f 7
  go_wp2_with fail
  clear ka_0 ka_1 ka_2 ka_3 kb_0 kb_1 kb_2 kb_3 kr_0 fr_0 kr_1 fr_1 kr_2 fr_2 kr_3 fr_3 kr_4 fr_4 kr_5 fr_5 kr_6 fr_6 kr_7 fr_7
  have u := HA.out.1
  have v := HA.out.2
  clear HA
  obtain ⟨w2, hw⟩ : ∃ z : World, z = ((((((((w1.setCell ⟨w.heap.size + 1 + 1, 0, none⟩ (.int .i64 g2)).setCell ⟨w.heap.size + 1 + 1, 1, none⟩ (.slice A2 L2 c2)).setCell ⟨w.heap.size + 1 + 1, 2, none⟩ (.int .i64 h2)).setCell ⟨w.heap.size + 1 + 1, 3, none⟩ (.slice B2 M2 d2)).setCell ⟨w.heap.size + 1 + 1, 4, none⟩ (.int .i64 g1)).setCell ⟨w.heap.size + 1 + 1, 5, none⟩ (.slice A1 L1 c1)).setCell ⟨w.heap.size + 1 + 1, 6, none⟩ (.int .i64 h1)).setCell ⟨w.heap.size + 1 + 1, 7, none⟩ (.slice B1 M1 d1)) := ⟨_, rfl⟩
  rw [← hw]
  have kw2 : Kept w1 w2 := by rw [hw]; exact (Kept.set_ (Kept.set_ (Kept.set_ (Kept.set_ (Kept.set_ (Kept.set_ (Kept.set_ (Kept.set_ (Kept.refl _) bxr.isBox plain_J) (IsBox.set_ bxr.isBox) plain_J) (IsBox.set_ (IsBox.set_ bxr.isBox)) plain_J) (IsBox.set_ (IsBox.set_ (IsBox.set_ bxr.isBox))) plain_J) (IsBox.set_ (IsBox.set_ (IsBox.set_ (IsBox.set_ bxr.isBox)))) plain_J) (IsBox.set_ (IsBox.set_ (IsBox.set_ (IsBox.set_ (IsBox.set_ bxr.isBox))))) plain_J) (IsBox.set_ (IsBox.set_ (IsBox.set_ (IsBox.set_ (IsBox.set_ (IsBox.set_ bxr.isBox)))))) plain_J) (IsBox.set_ (IsBox.set_ (IsBox.set_ (IsBox.set_ (IsBox.set_ (IsBox.set_ (IsBox.set_ bxr.isBox))))))) plain_J)
  have nba : BK w2 (w.heap.size) 36 #[.int .i64 g1, .slice A1 L1 c1, .int .i64 h1, .slice B1 M1 d1] := by rw [hw]; exact (BK.far (BK.far (BK.far (BK.far (BK.far (BK.far (BK.far (BK.far bxa (show w.heap.size ≠ w.heap.size + 1 + 1 by omega) 0 _) (show w.heap.size ≠ w.heap.size + 1 + 1 by omega) 1 _) (show w.heap.size ≠ w.heap.size + 1 + 1 by omega) 2 _) (show w.heap.size ≠ w.heap.size + 1 + 1 by omega) 3 _) (show w.heap.size ≠ w.heap.size + 1 + 1 by omega) 4 _) (show w.heap.size ≠ w.heap.size + 1 + 1 by omega) 5 _) (show w.heap.size ≠ w.heap.size + 1 + 1 by omega) 6 _) (show w.heap.size ≠ w.heap.size + 1 + 1 by omega) 7 _)
  have nbb : BK w2 (w.heap.size + 1) 36 #[.int .i64 g2, .slice A2 L2 c2, .int .i64 h2, .slice B2 M2 d2] := by rw [hw]; exact (BK.far (BK.far (BK.far (BK.far (BK.far (BK.far (BK.far (BK.far bxb (show w.heap.size + 1 ≠ w.heap.size + 1 + 1 by omega) 0 _) (show w.heap.size + 1 ≠ w.heap.size + 1 + 1 by omega) 1 _) (show w.heap.size + 1 ≠ w.heap.size + 1 + 1 by omega) 2 _) (show w.heap.size + 1 ≠ w.heap.size + 1 + 1 by omega) 3 _) (show w.heap.size + 1 ≠ w.heap.size + 1 + 1 by omega) 4 _) (show w.heap.size + 1 ≠ w.heap.size + 1 + 1 by omega) 5 _) (show w.heap.size + 1 ≠ w.heap.size + 1 + 1 by omega) 6 _) (show w.heap.size + 1 ≠ w.heap.size + 1 + 1 by omega) 7 _)
  have nbr : BK w2 (w.heap.size + 1 + 1) 38 #[.int .i64 g2, .slice A2 L2 c2, .int .i64 h2, .slice B2 M2 d2, .int .i64 g1, .slice A1 L1 c1, .int .i64 h1, .slice B1 M1 d1] := by rw [hw]; exact (BK.set (i := 7) (u := .slice B1 M1 d1) (vs' := #[.int .i64 g2, .slice A2 L2 c2, .int .i64 h2, .slice B2 M2 d2, .int .i64 g1, .slice A1 L1 c1, .int .i64 h1, .slice B1 M1 d1]) (BK.set (i := 6) (u := .int .i64 h1) (vs' := #[.int .i64 g2, .slice A2 L2 c2, .int .i64 h2, .slice B2 M2 d2, .int .i64 g1, .slice A1 L1 c1, .int .i64 h1, .slice none 0 0]) (BK.set (i := 5) (u := .slice A1 L1 c1) (vs' := #[.int .i64 g2, .slice A2 L2 c2, .int .i64 h2, .slice B2 M2 d2, .int .i64 g1, .slice A1 L1 c1, .int .i64 0, .slice none 0 0]) (BK.set (i := 4) (u := .int .i64 g1) (vs' := #[.int .i64 g2, .slice A2 L2 c2, .int .i64 h2, .slice B2 M2 d2, .int .i64 g1, .slice none 0 0, .int .i64 0, .slice none 0 0]) (BK.set (i := 3) (u := .slice B2 M2 d2) (vs' := #[.int .i64 g2, .slice A2 L2 c2, .int .i64 h2, .slice B2 M2 d2, .int .i64 0, .slice none 0 0, .int .i64 0, .slice none 0 0]) (BK.set (i := 2) (u := .int .i64 h2) (vs' := #[.int .i64 g2, .slice A2 L2 c2, .int .i64 h2, .slice none 0 0, .int .i64 0, .slice none 0 0, .int .i64 0, .slice none 0 0]) (BK.set (i := 1) (u := .slice A2 L2 c2) (vs' := #[.int .i64 g2, .slice A2 L2 c2, .int .i64 0, .slice none 0 0, .int .i64 0, .slice none 0 0, .int .i64 0, .slice none 0 0]) (BK.set (i := 0) (u := .int .i64 g2) (vs' := #[.int .i64 g2, .slice none 0 0, .int .i64 0, .slice none 0 0, .int .i64 0, .slice none 0 0, .int .i64 0, .slice none 0 0]) bxr rfl) rfl) rfl) rfl) rfl) rfl) rfl) rfl)
  have x2 : Ext w w2 := by rw [hw]; have hxp : Ext w w1 := (by with_reducible repeat' first | exact Ext.refl _ | assumption | apply Ext.alloc_r | apply Ext.drew_r | apply Ext.drewN_r | refine Ext.trans ?_ ‹Ext _ _›); exact (Ext.set_ (Ext.set_ (Ext.set_ (Ext.set_ (Ext.set_ (Ext.set_ (Ext.set_ (Ext.set_ hxp (show _ ≤ w.heap.size + 1 + 1 by omega)) (show _ ≤ w.heap.size + 1 + 1 by omega)) (show _ ≤ w.heap.size + 1 + 1 by omega)) (show _ ≤ w.heap.size + 1 + 1 by omega)) (show _ ≤ w.heap.size + 1 + 1 by omega)) (show _ ≤ w.heap.size + 1 + 1 by omega)) (show _ ≤ w.heap.size + 1 + 1 by omega)) (show _ ≤ w.heap.size + 1 + 1 by omega))
  clear bxa
  clear bxb
  clear bxr
  have bxa := nba
  clear nba
  have bxb := nbb
  clear nbb
  have bxr := nbr
  clear nbr
  have szw2 : w2.heap.size = w1.heap.size := by rw [hw]; simp
  replace u := (u.ext (by with_reducible repeat' first | exact Ext.refl _ | assumption | apply Ext.alloc_r | apply Ext.drew_r | apply Ext.drewN_r | refine Ext.trans ?_ ‹Ext _ _›)).kept kw2
  replace v := (v.ext (by with_reducible repeat' first | exact Ext.refl _ | assumption | apply Ext.alloc_r | apply Ext.drew_r | apply Ext.drewN_r | refine Ext.trans ?_ ‹Ext _ _›)).kept kw2
  clear hw kw2
  have HU := Lib.hid u
  have HV := Lib.hid v
  clear u v
  have kr_0 := bxr.c 0 (.int .i64 g2) rfl
  have kr_1 := bxr.c 1 (.slice A2 L2 c2) rfl
  have kr_2 := bxr.c 2 (.int .i64 h2) rfl
  have kr_3 := bxr.c 3 (.slice B2 M2 d2) rfl
  have kr_4 := bxr.c 4 (.int .i64 g1) rfl
  have kr_5 := bxr.c 5 (.slice A1 L1 c1) rfl
  have kr_6 := bxr.c 6 (.int .i64 h1) rfl
  have kr_7 := bxr.c 7 (.slice B1 M1 d1) rfl
  refine bodyPost_ret (v := Value.agg #[Value.int IntKind.i64 g2, Value.slice A2 L2 c2, Value.int IntKind.i64 h2, Value.slice B2 M2 d2, Value.int IntKind.i64 g1, Value.slice A1 L1 c1, Value.int IntKind.i64 h1, Value.slice B1 M1 d1]) (by simp [results, Tryz.results47, go_sem, kr_0, kr_1, kr_2, kr_3, kr_4, kr_5, kr_6, kr_7]) rfl ?_
  exact ⟨_, _, _, _, _, _, _, _, _, _, _, _, _, _, _, _, rfl, by rw [HLO.out.1]; exact HU.out, by rw [HLO.out.2]; exact HV.out, x2⟩
set_option maxHeartbeats 4000000 in
set_option maxRecDepth 100000 in
theorem jmake_le {w : World} {K : Nat} {g1 h1 g2 h2 : Int} {A1 B1 A2 B2 : Option Addr} {c1 d1 L1 M1 c2 d2 L2 M2 : Nat} {q1 q2 : Rat} (h_1 : QR w g1 A1 c1 L1 h1 B1 d1 M1 K q1) (h_2 : QR w g2 A2 c2 L2 h2 B2 d2 M2 K q2) (hK : K ≤ 100000000) (hq : q1 ≤ q2) :
    Calls Tryz.prog 47 #[Value.agg #[Value.int IntKind.i64 g1, Value.slice A1 L1 c1, Value.int IntKind.i64 h1, Value.slice B1 M1 d1], Value.agg #[Value.int IntKind.i64 g2, Value.slice A2 L2 c2, Value.int IntKind.i64 h2, Value.slice B2 M2 d2]] w (RetJ w K (minQ q1 q2) (maxQ q1 q2)) := by
  obtain ⟨k, hk0⟩ : ∃ k : Int, k = cmpQ q1 q2 := ⟨_, rfl⟩
  have hk : ¬ k > 0 := by rw [hk0]; exact fun h => Rat.not_lt.2 hq ((cmpQ_gt _ _).1 h)
  have HK := Lib.hid hk0.symm
  have HLO : Hid (minQ q1 q2 = q1 ∧ maxQ q1 q2 = q2) := by show _ ∧ _; exact ⟨min_of_le hq, max_of_le hq⟩
  clear hk0 hq
  go_enter Tryz.func47, Tryz.ntmps47
  go_wp2_with fail
  obtain ⟨w0, hw0⟩ : ∃ z : World, z = (((w.alloc (.cells #[.int .i64 g1, .slice A1 L1 c1, .int .i64 h1, .slice B1 M1 d1] 36)).alloc (.cells #[.int .i64 g2, .slice A2 L2 c2, .int .i64 h2, .slice B2 M2 d2] 36)).alloc (.cells #[.int .i64 0, .slice none 0 0, .int .i64 0, .slice none 0 0, .int .i64 0, .slice none 0 0, .int .i64 0, .slice none 0 0] 38)) := ⟨_, rfl⟩
  rw [← hw0]
  have bxa : BK w0 (w.heap.size) 36 #[.int .i64 g1, .slice A1 L1 c1, .int .i64 h1, .slice B1 M1 d1] := by rw [hw0]; have h5 := (BK.ext (BK.ext (BK.new w #[.int .i64 g1, .slice A1 L1 c1, .int .i64 h1, .slice B1 M1 d1] 36) (Ext.alloc _ (.cells #[.int .i64 g2, .slice A2 L2 c2, .int .i64 h2, .slice B2 M2 d2] 36))) (Ext.alloc _ (.cells #[.int .i64 0, .slice none 0 0, .int .i64 0, .slice none 0 0, .int .i64 0, .slice none 0 0, .int .i64 0, .slice none 0 0] 38))); simpa only [World.size_alloc] using h5
  have bxb : BK w0 (w.heap.size + 1) 36 #[.int .i64 g2, .slice A2 L2 c2, .int .i64 h2, .slice B2 M2 d2] := by rw [hw0]; have h5 := (BK.ext (BK.new (w.alloc (.cells #[.int .i64 g1, .slice A1 L1 c1, .int .i64 h1, .slice B1 M1 d1] 36)) #[.int .i64 g2, .slice A2 L2 c2, .int .i64 h2, .slice B2 M2 d2] 36) (Ext.alloc _ (.cells #[.int .i64 0, .slice none 0 0, .int .i64 0, .slice none 0 0, .int .i64 0, .slice none 0 0, .int .i64 0, .slice none 0 0] 38))); simpa only [World.size_alloc] using h5
  have bxr : BK w0 (w.heap.size + 1 + 1) 38 #[.int .i64 0, .slice none 0 0, .int .i64 0, .slice none 0 0, .int .i64 0, .slice none 0 0, .int .i64 0, .slice none 0 0] := by rw [hw0]; have h5 := (BK.new ((w.alloc (.cells #[.int .i64 g1, .slice A1 L1 c1, .int .i64 h1, .slice B1 M1 d1] 36)).alloc (.cells #[.int .i64 g2, .slice A2 L2 c2, .int .i64 h2, .slice B2 M2 d2] 36)) #[.int .i64 0, .slice none 0 0, .int .i64 0, .slice none 0 0, .int .i64 0, .slice none 0 0, .int .i64 0, .slice none 0 0] 38); simpa only [World.size_alloc] using h5
  have hszw0 : w0.heap.size = w.heap.size + 1 + 1 + 1 := by rw [hw0]; simp only [World.size_alloc]
  have xw0 : Ext w w0 := by rw [hw0]; exact (((Ext.alloc _ _).trans (Ext.alloc _ _)).trans (Ext.alloc _ _))
  clear hw0
  refine (qcmp_k (h_1.ext (by with_reducible repeat' first | exact Ext.refl _ | assumption | apply Ext.alloc_r | apply Ext.drew_r | apply Ext.drewN_r | refine Ext.trans ?_ ‹Ext _ _›)) (h_2.ext (by with_reducible repeat' first | exact Ext.refl _ | assumption | apply Ext.alloc_r | apply Ext.drew_r | apply Ext.drewN_r | refine Ext.trans ?_ ‹Ext _ _›)) hK HK.out).mono ?_
  rintro e w1 ⟨rfl, x1⟩
  have szw1 : w0.heap.size ≤ w1.heap.size := x1.size
  replace bxa := bxa.ext x1
  replace bxb := bxb.ext x1
  replace bxr := bxr.ext x1
  have HA := Lib.hid (And.intro (h_1.ext (show Ext w w1 from (by with_reducible repeat' first | exact Ext.refl _ | assumption | apply Ext.alloc_r | apply Ext.drew_r | apply Ext.drewN_r | refine Ext.trans ?_ ‹Ext _ _›))) (h_2.ext (show Ext w w1 from (by with_reducible repeat' first | exact Ext.refl _ | assumption | apply Ext.alloc_r | apply Ext.drew_r | apply Ext.drewN_r | refine Ext.trans ?_ ‹Ext _ _›))))
  clear h_1 h_2
  have ka_0 := bxa.c 0 (.int .i64 g1) rfl
  have ka_1 := bxa.c 1 (.slice A1 L1 c1) rfl
  have ka_2 := bxa.c 2 (.int .i64 h1) rfl
  have ka_3 := bxa.c 3 (.slice B1 M1 d1) rfl
  have kb_0 := bxb.c 0 (.int .i64 g2) rfl
  have kb_1 := bxb.c 1 (.slice A2 L2 c2) rfl
  have kb_2 := bxb.c 2 (.int .i64 h2) rfl
  have kb_3 := bxb.c 3 (.slice B2 M2 d2) rfl
  have kr_0 := bxr.c 0 (.int .i64 0) rfl
  have fr_0 := bxr.f 0
  have kr_1 := bxr.c 1 (.slice none 0 0) rfl
  have fr_1 := bxr.f 1
  have kr_2 := bxr.c 2 (.int .i64 0) rfl
  have fr_2 := bxr.f 2
  have kr_3 := bxr.c 3 (.slice none 0 0) rfl
  have fr_3 := bxr.f 3
  have kr_4 := bxr.c 4 (.int .i64 0) rfl
  have fr_4 := bxr.f 4
  have kr_5 := bxr.c 5 (.slice none 0 0) rfl
  have fr_5 := bxr.f 5
  have kr_6 := bxr.c 6 (.int .i64 0) rfl
  have fr_6 := bxr.f 6
  have kr_7 := bxr.c 7 (.slice none 0 0) rfl
  have fr_7 := bxr.f 7
  go_wp2_with fail
  clear ka_0 ka_1 ka_2 ka_3 kb_0 kb_1 kb_2 kb_3 kr_0 fr_0 kr_1 fr_1 kr_2 fr_2 kr_3 fr_3 kr_4 fr_4 kr_5 fr_5 kr_6 fr_6 kr_7 fr_7
  have u := HA.out.1
  have v := HA.out.2
  clear HA
  obtain ⟨w2, hw⟩ : ∃ z : World, z = ((((((((w1.setCell ⟨w.heap.size + 1 + 1, 0, none⟩ (.int .i64 g1)).setCell ⟨w.heap.size + 1 + 1, 1, none⟩ (.slice A1 L1 c1)).setCell ⟨w.heap.size + 1 + 1, 2, none⟩ (.int .i64 h1)).setCell ⟨w.heap.size + 1 + 1, 3, none⟩ (.slice B1 M1 d1)).setCell ⟨w.heap.size + 1 + 1, 4, none⟩ (.int .i64 g2)).setCell ⟨w.heap.size + 1 + 1, 5, none⟩ (.slice A2 L2 c2)).setCell ⟨w.heap.size + 1 + 1, 6, none⟩ (.int .i64 h2)).setCell ⟨w.heap.size + 1 + 1, 7, none⟩ (.slice B2 M2 d2)) := ⟨_, rfl⟩
  rw [← hw]
  have kw2 : Kept w1 w2 := by rw [hw]; exact (Kept.set_ (Kept.set_ (Kept.set_ (Kept.set_ (Kept.set_ (Kept.set_ (Kept.set_ (Kept.set_ (Kept.refl _) bxr.isBox plain_J) (IsBox.set_ bxr.isBox) plain_J) (IsBox.set_ (IsBox.set_ bxr.isBox)) plain_J) (IsBox.set_ (IsBox.set_ (IsBox.set_ bxr.isBox))) plain_J) (IsBox.set_ (IsBox.set_ (IsBox.set_ (IsBox.set_ bxr.isBox)))) plain_J) (IsBox.set_ (IsBox.set_ (IsBox.set_ (IsBox.set_ (IsBox.set_ bxr.isBox))))) plain_J) (IsBox.set_ (IsBox.set_ (IsBox.set_ (IsBox.set_ (IsBox.set_ (IsBox.set_ bxr.isBox)))))) plain_J) (IsBox.set_ (IsBox.set_ (IsBox.set_ (IsBox.set_ (IsBox.set_ (IsBox.set_ (IsBox.set_ bxr.isBox))))))) plain_J)
  have nba : BK w2 (w.heap.size) 36 #[.int .i64 g1, .slice A1 L1 c1, .int .i64 h1, .slice B1 M1 d1] := by rw [hw]; exact (BK.far (BK.far (BK.far (BK.far (BK.far (BK.far (BK.far (BK.far bxa (show w.heap.size ≠ w.heap.size + 1 + 1 by omega) 0 _) (show w.heap.size ≠ w.heap.size + 1 + 1 by omega) 1 _) (show w.heap.size ≠ w.heap.size + 1 + 1 by omega) 2 _) (show w.heap.size ≠ w.heap.size + 1 + 1 by omega) 3 _) (show w.heap.size ≠ w.heap.size + 1 + 1 by omega) 4 _) (show w.heap.size ≠ w.heap.size + 1 + 1 by omega) 5 _) (show w.heap.size ≠ w.heap.size + 1 + 1 by omega) 6 _) (show w.heap.size ≠ w.heap.size + 1 + 1 by omega) 7 _)
  have nbb : BK w2 (w.heap.size + 1) 36 #[.int .i64 g2, .slice A2 L2 c2, .int .i64 h2, .slice B2 M2 d2] := by rw [hw]; exact (BK.far (BK.far (BK.far (BK.far (BK.far (BK.far (BK.far (BK.far bxb (show w.heap.size + 1 ≠ w.heap.size + 1 + 1 by omega) 0 _) (show w.heap.size + 1 ≠ w.heap.size + 1 + 1 by omega) 1 _) (show w.heap.size + 1 ≠ w.heap.size + 1 + 1 by omega) 2 _) (show w.heap.size + 1 ≠ w.heap.size + 1 + 1 by omega) 3 _) (show w.heap.size + 1 ≠ w.heap.size + 1 + 1 by omega) 4 _) (show w.heap.size + 1 ≠ w.heap.size + 1 + 1 by omega) 5 _) (show w.heap.size + 1 ≠ w.heap.size + 1 + 1 by omega) 6 _) (show w.heap.size + 1 ≠ w.heap.size + 1 + 1 by omega) 7 _)
  have nbr : BK w2 (w.heap.size + 1 + 1) 38 #[.int .i64 g1, .slice A1 L1 c1, .int .i64 h1, .slice B1 M1 d1, .int .i64 g2, .slice A2 L2 c2, .int .i64 h2, .slice B2 M2 d2] := by rw [hw]; exact (BK.set (i := 7) (u := .slice B2 M2 d2) (vs' := #[.int .i64 g1, .slice A1 L1 c1, .int .i64 h1, .slice B1 M1 d1, .int .i64 g2, .slice A2 L2 c2, .int .i64 h2, .slice B2 M2 d2]) (BK.set (i := 6) (u := .int .i64 h2) (vs' := #[.int .i64 g1, .slice A1 L1 c1, .int .i64 h1, .slice B1 M1 d1, .int .i64 g2, .slice A2 L2 c2, .int .i64 h2, .slice none 0 0]) (BK.set (i := 5) (u := .slice A2 L2 c2) (vs' := #[.int .i64 g1, .slice A1 L1 c1, .int .i64 h1, .slice B1 M1 d1, .int .i64 g2, .slice A2 L2 c2, .int .i64 0, .slice none 0 0]) (BK.set (i := 4) (u := .int .i64 g2) (vs' := #[.int .i64 g1, .slice A1 L1 c1, .int .i64 h1, .slice B1 M1 d1, .int .i64 g2, .slice none 0 0, .int .i64 0, .slice none 0 0]) (BK.set (i := 3) (u := .slice B1 M1 d1) (vs' := #[.int .i64 g1, .slice A1 L1 c1, .int .i64 h1, .slice B1 M1 d1, .int .i64 0, .slice none 0 0, .int .i64 0, .slice none 0 0]) (BK.set (i := 2) (u := .int .i64 h1) (vs' := #[.int .i64 g1, .slice A1 L1 c1, .int .i64 h1, .slice none 0 0, .int .i64 0, .slice none 0 0, .int .i64 0, .slice none 0 0]) (BK.set (i := 1) (u := .slice A1 L1 c1) (vs' := #[.int .i64 g1, .slice A1 L1 c1, .int .i64 0, .slice none 0 0, .int .i64 0, .slice none 0 0, .int .i64 0, .slice none 0 0]) (BK.set (i := 0) (u := .int .i64 g1) (vs' := #[.int .i64 g1, .slice none 0 0, .int .i64 0, .slice none 0 0, .int .i64 0, .slice none 0 0, .int .i64 0, .slice none 0 0]) bxr rfl) rfl) rfl) rfl) rfl) rfl) rfl) rfl)
  have x2 : Ext w w2 := by rw [hw]; have hxp : Ext w w1 := (by with_reducible repeat' first | exact Ext.refl _ | assumption | apply Ext.alloc_r | apply Ext.drew_r | apply Ext.drewN_r | refine Ext.trans ?_ ‹Ext _ _›); exact (Ext.set_ (Ext.set_ (Ext.set_ (Ext.set_ (Ext.set_ (Ext.set_ (Ext.set_ (Ext.set_ hxp (show _ ≤ w.heap.size + 1 + 1 by omega)) (show _ ≤ w.heap.size + 1 + 1 by omega)) (show _ ≤ w.heap.size + 1 + 1 by omega)) (show _ ≤ w.heap.size + 1 + 1 by omega)) (show _ ≤ w.heap.size + 1 + 1 by omega)) (show _ ≤ w.heap.size + 1 + 1 by omega)) (show _ ≤ w.heap.size + 1 + 1 by omega)) (show _ ≤ w.heap.size + 1 + 1 by omega))
  clear bxa
  clear bxb
  clear bxr
  have bxa := nba
  clear nba
  have bxb := nbb
  clear nbb
  have bxr := nbr
  clear nbr
  have szw2 : w2.heap.size = w1.heap.size := by rw [hw]; simp
  replace u := (u.ext (by with_reducible repeat' first | exact Ext.refl _ | assumption | apply Ext.alloc_r | apply Ext.drew_r | apply Ext.drewN_r | refine Ext.trans ?_ ‹Ext _ _›)).kept kw2
  replace v := (v.ext (by with_reducible repeat' first | exact Ext.refl _ | assumption | apply Ext.alloc_r | apply Ext.drew_r | apply Ext.drewN_r | refine Ext.trans ?_ ‹Ext _ _›)).kept kw2
  clear hw kw2
  have HU := Lib.hid u
  have HV := Lib.hid v
  clear u v
  have kr_0 := bxr.c 0 (.int .i64 g1) rfl
  have kr_1 := bxr.c 1 (.slice A1 L1 c1) rfl
  have kr_2 := bxr.c 2 (.int .i64 h1) rfl
  have kr_3 := bxr.c 3 (.slice B1 M1 d1) rfl
  have kr_4 := bxr.c 4 (.int .i64 g2) rfl
  have kr_5 := bxr.c 5 (.slice A2 L2 c2) rfl
  have kr_6 := bxr.c 6 (.int .i64 h2) rfl
  have kr_7 := bxr.c 7 (.slice B2 M2 d2) rfl
  refine bodyPost_ret (v := Value.agg #[Value.int IntKind.i64 g1, Value.slice A1 L1 c1, Value.int IntKind.i64 h1, Value.slice B1 M1 d1, Value.int IntKind.i64 g2, Value.slice A2 L2 c2, Value.int IntKind.i64 h2, Value.slice B2 M2 d2]) (by simp [results, Tryz.results47, go_sem, kr_0, kr_1, kr_2, kr_3, kr_4, kr_5, kr_6, kr_7]) rfl ?_
  exact ⟨_, _, _, _, _, _, _, _, _, _, _, _, _, _, _, _, rfl, by rw [HLO.out.1]; exact HU.out, by rw [HLO.out.2]; exact HV.out, x2⟩
theorem jmake_r {w : World} {K : Nat} {g1 h1 g2 h2 : Int} {A1 B1 A2 B2 : Option Addr} {c1 d1 L1 M1 c2 d2 L2 M2 : Nat} {q1 q2 : Rat} (h_1 : QR w g1 A1 c1 L1 h1 B1 d1 M1 K q1) (h_2 : QR w g2 A2 c2 L2 h2 B2 d2 M2 K q2) (hK : K ≤ 100000000) :
    Calls Tryz.prog 47 #[Value.agg #[Value.int IntKind.i64 g1, Value.slice A1 L1 c1, Value.int IntKind.i64 h1, Value.slice B1 M1 d1], Value.agg #[Value.int IntKind.i64 g2, Value.slice A2 L2 c2, Value.int IntKind.i64 h2, Value.slice B2 M2 d2]] w (RetJ w K (minQ q1 q2) (maxQ q1 q2)) := by
  rcases Rat.le_total (a := q1) (b := q2) with h | h
  · exact jmake_le h_1 h_2 hK h
  · rcases Rat.le_iff_lt_or_eq.1 h with h | h
    · exact jmake_gt h_1 h_2 hK h
    · exact jmake_le h_1 h_2 hK (by rw [h]; exact Rat.le_refl)
set_option maxHeartbeats 4000000 in
set_option maxRecDepth 100000 in
theorem jpoint_r {w : World} {K : Nat} {g1 h1 : Int} {A1 B1 : Option Addr} {c1 d1 L1 M1 : Nat} {q1 : Rat} (h_1 : QR w g1 A1 c1 L1 h1 B1 d1 M1 K q1) :
    Calls Tryz.prog 30 #[Value.agg #[Value.int IntKind.i64 g1, Value.slice A1 L1 c1, Value.int IntKind.i64 h1, Value.slice B1 M1 d1]] w (RetJ w K q1 q1) := by
  have hx : Ext w ((w.alloc (.cells #[.int .i64 g1, .slice A1 L1 c1, .int .i64 h1, .slice B1 M1 d1] 36)).alloc (.cells #[.int .i64 g1, .slice A1 L1 c1, .int .i64 h1, .slice B1 M1 d1, .int .i64 g1, .slice A1 L1 c1, .int .i64 h1, .slice B1 M1 d1] 38)) := (Ext.alloc _ _).trans (Ext.alloc _ _)
  have HU := Lib.hid (h_1.ext hx)
  have HX := Lib.hid hx
  clear hx h_1
  go_enter Tryz.func30, Tryz.ntmps30
  go_wp2_with fail
  refine bodyPost_ret (v := Value.agg #[Value.int IntKind.i64 g1, Value.slice A1 L1 c1, Value.int IntKind.i64 h1, Value.slice B1 M1 d1, Value.int IntKind.i64 g1, Value.slice A1 L1 c1, Value.int IntKind.i64 h1, Value.slice B1 M1 d1]) (by simp [results, Tryz.results30, go_sem]) rfl ?_
  exact ⟨_, _, _, _, _, _, _, _, _, _, _, _, _, _, _, _, rfl, HU.out, HU.out, HX.out⟩
set_option maxHeartbeats 4000000 in
set_option maxRecDepth 100000 in
theorem jnumber_r {w : World} {n : Int} {K : Nat} (hn : bl n.natAbs ≤ K) (hK : 1 ≤ K) (hr : -1000000000 ≤ n ∧ n ≤ 1000000000) :
    Calls Tryz.prog 51 #[.int .i64 n] w (RetQ w K (n : Rat)) := by
  have hb1 : bl 1 ≤ 1 := by have := bl_of_lt (n := 1) (k := 1) (by omega); omega
  have HQ : Hid ((n : Rat) = mkRat n 1) := by show _ = _; rw [Rat.mkRat_one]
  go_enter Tryz.func51, Tryz.ntmps51
  go_wp2_with fail
  obtain ⟨w0, hw0⟩ : ∃ z : World, z = (w.alloc (.cells #[.int .i64 0, .slice none 0 0, .int .i64 0, .slice none 0 0] 36)) := ⟨_, rfl⟩
  rw [← hw0]
  have bxr : BK w0 (w.heap.size) 36 #[.int .i64 0, .slice none 0 0, .int .i64 0, .slice none 0 0] := by rw [hw0]; have h5 := (BK.new w #[.int .i64 0, .slice none 0 0, .int .i64 0, .slice none 0 0] 36); simpa only [World.size_alloc] using h5
  have hszw0 : w0.heap.size = w.heap.size + 1 := by rw [hw0]; simp only [World.size_alloc]
  have xw0 : Ext w w0 := by rw [hw0]; exact (Ext.alloc _ _)
  clear hw0
  refine (small_rz (n := n) (by omega)).mono ?_
  rintro e w1 ⟨gu, Au, cu, Lu, rfl, u, x1⟩
  have szw1 : w0.heap.size ≤ w1.heap.size := x1.size
  replace bxr := bxr.ext x1
  have HU := Lib.hid u
  clear u
  have kr_0 := bxr.c 0 (.int .i64 0) rfl
  have kr_1 := bxr.c 1 (.slice none 0 0) rfl
  have kr_2 := bxr.c 2 (.int .i64 0) rfl
  have kr_3 := bxr.c 3 (.slice none 0 0) rfl
  go_wp2_with fail
  clear kr_0 kr_1 kr_2 kr_3
  refine (small_rz (n := 1) (by omega)).mono ?_
  rintro e w2 ⟨gv, Av, cv, Lv, rfl, v, x2⟩
  have szw2 : w1.heap.size ≤ w2.heap.size := x2.size
  replace bxr := bxr.ext x2
  have u := HU.out.ext (show Ext _ w2 from (by with_reducible repeat' first | exact Ext.refl _ | assumption | apply Ext.alloc_r | apply Ext.drew_r | apply Ext.drewN_r | refine Ext.trans ?_ ‹Ext _ _›))
  clear HU
  have HU := Lib.hid u
  have HV := Lib.hid v
  clear u v
  have kr_0 := bxr.c 0 (.int .i64 0) rfl
  have fr_0 := bxr.f 0
  have kr_1 := bxr.c 1 (.slice none 0 0) rfl
  have fr_1 := bxr.f 1
  have kr_2 := bxr.c 2 (.int .i64 0) rfl
  have fr_2 := bxr.f 2
  have kr_3 := bxr.c 3 (.slice none 0 0) rfl
  have fr_3 := bxr.f 3
  go_wp2_with fail
  clear kr_0 fr_0 kr_1 fr_1 kr_2 fr_2 kr_3 fr_3
  have u := HU.out
  have v := HV.out
  clear HU HV
  obtain ⟨w3, hw⟩ : ∃ z : World, z = ((((w2.setCell ⟨w.heap.size, 0, none⟩ (.int .i64 gu)).setCell ⟨w.heap.size, 1, none⟩ (.slice Au Lu cu)).setCell ⟨w.heap.size, 2, none⟩ (.int .i64 gv)).setCell ⟨w.heap.size, 3, none⟩ (.slice Av Lv cv)) := ⟨_, rfl⟩
  rw [← hw]
  have kw3 : Kept w2 w3 := by rw [hw]; exact (Kept.set_ (Kept.set_ (Kept.set_ (Kept.set_ (Kept.refl _) bxr.isBox plain_Q) (IsBox.set_ bxr.isBox) plain_Q) (IsBox.set_ (IsBox.set_ bxr.isBox)) plain_Q) (IsBox.set_ (IsBox.set_ (IsBox.set_ bxr.isBox))) plain_Q)
  have nbr : BK w3 (w.heap.size) 36 #[.int .i64 gu, .slice Au Lu cu, .int .i64 gv, .slice Av Lv cv] := by rw [hw]; exact (BK.set (i := 3) (u := .slice Av Lv cv) (vs' := #[.int .i64 gu, .slice Au Lu cu, .int .i64 gv, .slice Av Lv cv]) (BK.set (i := 2) (u := .int .i64 gv) (vs' := #[.int .i64 gu, .slice Au Lu cu, .int .i64 gv, .slice none 0 0]) (BK.set (i := 1) (u := .slice Au Lu cu) (vs' := #[.int .i64 gu, .slice Au Lu cu, .int .i64 0, .slice none 0 0]) (BK.set (i := 0) (u := .int .i64 gu) (vs' := #[.int .i64 gu, .slice none 0 0, .int .i64 0, .slice none 0 0]) bxr rfl) rfl) rfl) rfl)
  have x3 : Ext w w3 := by rw [hw]; have hxp : Ext w w2 := (by with_reducible repeat' first | exact Ext.refl _ | assumption | apply Ext.alloc_r | apply Ext.drew_r | apply Ext.drewN_r | refine Ext.trans ?_ ‹Ext _ _›); exact (Ext.set_ (Ext.set_ (Ext.set_ (Ext.set_ hxp (show _ ≤ w.heap.size by omega)) (show _ ≤ w.heap.size by omega)) (show _ ≤ w.heap.size by omega)) (show _ ≤ w.heap.size by omega))
  clear bxr
  have bxr := nbr
  clear nbr
  have szw3 : w3.heap.size = w2.heap.size := by rw [hw]; simp
  replace u := (u.ext (by with_reducible repeat' first | exact Ext.refl _ | assumption | apply Ext.alloc_r | apply Ext.drew_r | apply Ext.drewN_r | refine Ext.trans ?_ ‹Ext _ _›)).kept kw3
  replace v := (v.ext (by with_reducible repeat' first | exact Ext.refl _ | assumption | apply Ext.alloc_r | apply Ext.drew_r | apply Ext.drewN_r | refine Ext.trans ?_ ‹Ext _ _›)).kept kw3
  clear hw kw3
  have HQ2 : Hid (QR w3 gu Au cu Lu gv Av cv Lv K (n : Rat)) := ⟨n, 1, u, v, by omega, HQ.out, hn, by omega⟩
  clear u v
  have kr_0 := bxr.c 0 (.int .i64 gu) rfl
  have kr_1 := bxr.c 1 (.slice Au Lu cu) rfl
  have kr_2 := bxr.c 2 (.int .i64 gv) rfl
  have kr_3 := bxr.c 3 (.slice Av Lv cv) rfl
  refine bodyPost_ret (v := .agg #[.int .i64 gu, .slice Au Lu cu, .int .i64 gv, .slice Av Lv cv]) (by simp [results, Tryz.results51, go_sem, kr_0, kr_1, kr_2, kr_3]) rfl ?_
  exact ⟨_, _, _, _, _, _, _, _, rfl, HQ2.out, x3⟩
theorem bl_one : bl (1 : Int).natAbs ≤ 1 := bl_of_lt (by decide)
set_option maxHeartbeats 4000000 in
set_option maxRecDepth 100000 in
theorem jinverse_r {w : World} {K : Nat} {g1 h1 g2 h2 : Int} {A1 B1 A2 B2 : Option Addr} {c1 d1 L1 M1 c2 d2 L2 M2 : Nat} {q1 q2 : Rat} (h_1 : QR w g1 A1 c1 L1 h1 B1 d1 M1 K q1) (h_2 : QR w g2 A2 c2 L2 h2 B2 d2 M2 K q2) (hK : K ≤ 100000000) (hn1 : q1 ≠ 0) (hn2 : q2 ≠ 0) :
    Calls Tryz.prog 16 #[Value.agg #[Value.int IntKind.i64 g1, Value.slice A1 L1 c1, Value.int IntKind.i64 h1, Value.slice B1 M1 d1, Value.int IntKind.i64 g2, Value.slice A2 L2 c2, Value.int IntKind.i64 h2, Value.slice B2 M2 d2]] w (RetJ w (1 + K) (((1 : Int) : Rat) / q2) (((1 : Int) : Rat) / q1)) := by
  have HN := Lib.hid (And.intro hn1 hn2)
  clear hn1 hn2
  go_enter Tryz.func16, Tryz.ntmps16
  go_wp2_with fail
  obtain ⟨w0, hw0⟩ : ∃ z : World, z = ((w.alloc (.cells #[.int .i64 g1, .slice A1 L1 c1, .int .i64 h1, .slice B1 M1 d1, .int .i64 g2, .slice A2 L2 c2, .int .i64 h2, .slice B2 M2 d2] 38)).alloc (.cells #[.int .i64 0, .slice none 0 0, .int .i64 0, .slice none 0 0, .int .i64 0, .slice none 0 0, .int .i64 0, .slice none 0 0] 38)) := ⟨_, rfl⟩
  rw [← hw0]
  have bxi : BK w0 (w.heap.size) 38 #[.int .i64 g1, .slice A1 L1 c1, .int .i64 h1, .slice B1 M1 d1, .int .i64 g2, .slice A2 L2 c2, .int .i64 h2, .slice B2 M2 d2] := by rw [hw0]; have h5 := (BK.ext (BK.new w #[.int .i64 g1, .slice A1 L1 c1, .int .i64 h1, .slice B1 M1 d1, .int .i64 g2, .slice A2 L2 c2, .int .i64 h2, .slice B2 M2 d2] 38) (Ext.alloc _ (.cells #[.int .i64 0, .slice none 0 0, .int .i64 0, .slice none 0 0, .int .i64 0, .slice none 0 0, .int .i64 0, .slice none 0 0] 38))); simpa only [World.size_alloc] using h5
  have bxr : BK w0 (w.heap.size + 1) 38 #[.int .i64 0, .slice none 0 0, .int .i64 0, .slice none 0 0, .int .i64 0, .slice none 0 0, .int .i64 0, .slice none 0 0] := by rw [hw0]; have h5 := (BK.new (w.alloc (.cells #[.int .i64 g1, .slice A1 L1 c1, .int .i64 h1, .slice B1 M1 d1, .int .i64 g2, .slice A2 L2 c2, .int .i64 h2, .slice B2 M2 d2] 38)) #[.int .i64 0, .slice none 0 0, .int .i64 0, .slice none 0 0, .int .i64 0, .slice none 0 0, .int .i64 0, .slice none 0 0] 38); simpa only [World.size_alloc] using h5
  have hszw0 : w0.heap.size = w.heap.size + 1 + 1 := by rw [hw0]; simp only [World.size_alloc]
  have xw0 : Ext w w0 := by rw [hw0]; exact ((Ext.alloc _ _).trans (Ext.alloc _ _))
  clear hw0
  refine (jnumber_r (n := 1) (K := 1) bl_one (by omega) (by omega)).mono ?_
  rintro e w1 ⟨gn, An, cn, Ln, hn, Bn, dn, Mn, rfl, n, x1⟩
  have szw1 : w0.heap.size ≤ w1.heap.size := x1.size
  replace bxi := bxi.ext x1
  replace bxr := bxr.ext x1
  have HO := Lib.hid n
  clear n
  have ki_0 := bxi.c 0 (.int .i64 g1) rfl
  have ki_1 := bxi.c 1 (.slice A1 L1 c1) rfl
  have ki_2 := bxi.c 2 (.int .i64 h1) rfl
  have ki_3 := bxi.c 3 (.slice B1 M1 d1) rfl
  have ki_4 := bxi.c 4 (.int .i64 g2) rfl
  have ki_5 := bxi.c 5 (.slice A2 L2 c2) rfl
  have ki_6 := bxi.c 6 (.int .i64 h2) rfl
  have ki_7 := bxi.c 7 (.slice B2 M2 d2) rfl
  have kr_0 := bxr.c 0 (.int .i64 0) rfl
  have kr_1 := bxr.c 1 (.slice none 0 0) rfl
  have kr_2 := bxr.c 2 (.int .i64 0) rfl
  have kr_3 := bxr.c 3 (.slice none 0 0) rfl
  have kr_4 := bxr.c 4 (.int .i64 0) rfl
  have kr_5 := bxr.c 5 (.slice none 0 0) rfl
  have kr_6 := bxr.c 6 (.int .i64 0) rfl
  have kr_7 := bxr.c 7 (.slice none 0 0) rfl
  have ti_0 := fun o => (Ext.alloc w1 o).cell ki_0
  have ti_1 := fun o => (Ext.alloc w1 o).cell ki_1
  have ti_2 := fun o => (Ext.alloc w1 o).cell ki_2
  have ti_3 := fun o => (Ext.alloc w1 o).cell ki_3
  have ti_4 := fun o => (Ext.alloc w1 o).cell ki_4
  have ti_5 := fun o => (Ext.alloc w1 o).cell ki_5
  have ti_6 := fun o => (Ext.alloc w1 o).cell ki_6
  have ti_7 := fun o => (Ext.alloc w1 o).cell ki_7
  have tr_0 := fun o => (Ext.alloc w1 o).cell kr_0
  have tr_1 := fun o => (Ext.alloc w1 o).cell kr_1
  have tr_2 := fun o => (Ext.alloc w1 o).cell kr_2
  have tr_3 := fun o => (Ext.alloc w1 o).cell kr_3
  have tr_4 := fun o => (Ext.alloc w1 o).cell kr_4
  have tr_5 := fun o => (Ext.alloc w1 o).cell kr_5
  have tr_6 := fun o => (Ext.alloc w1 o).cell kr_6
  have tr_7 := fun o => (Ext.alloc w1 o).cell kr_7
  go_wp2_with fail
  clear ki_0 ki_1 ki_2 ki_3 ki_4 ki_5 ki_6 ki_7 kr_0 kr_1 kr_2 kr_3 kr_4 kr_5 kr_6 kr_7 ti_0 ti_1 ti_2 ti_3 ti_4 ti_5 ti_6 ti_7 tr_0 tr_1 tr_2 tr_3 tr_4 tr_5 tr_6 tr_7
  obtain ⟨w2, hw⟩ : ∃ z : World, z = w1.alloc (.cells #[.int .i64 gn, .slice An Ln cn, .int .i64 hn, .slice Bn Mn dn] 36) := ⟨_, rfl⟩
  rw [← hw]
  have x2 : Ext w1 w2 := by rw [hw]; exact Ext.alloc _ _
  have bxn : BK w2 w1.heap.size 36 #[.int .i64 gn, .slice An Ln cn, .int .i64 hn, .slice Bn Mn dn] := by rw [hw]; exact BK.new _ _ _
  have szw2 : w2.heap.size = w1.heap.size + 1 := by rw [hw]; simp only [World.size_alloc]
  clear hw
  replace bxi := bxi.ext x2
  replace bxr := bxr.ext x2
  have n := HO.out.ext (show Ext _ w2 from (by with_reducible repeat' first | exact Ext.refl _ | assumption | apply Ext.alloc_r | apply Ext.drew_r | apply Ext.drewN_r | refine Ext.trans ?_ ‹Ext _ _›))
  clear HO
  have ki_0 := bxi.c 0 (.int .i64 g1) rfl
  have ki_1 := bxi.c 1 (.slice A1 L1 c1) rfl
  have ki_2 := bxi.c 2 (.int .i64 h1) rfl
  have ki_3 := bxi.c 3 (.slice B1 M1 d1) rfl
  have ki_4 := bxi.c 4 (.int .i64 g2) rfl
  have ki_5 := bxi.c 5 (.slice A2 L2 c2) rfl
  have ki_6 := bxi.c 6 (.int .i64 h2) rfl
  have ki_7 := bxi.c 7 (.slice B2 M2 d2) rfl
  have kr_0 := bxr.c 0 (.int .i64 0) rfl
  have fr_0 := bxr.f 0
  have kr_1 := bxr.c 1 (.slice none 0 0) rfl
  have fr_1 := bxr.f 1
  have kr_2 := bxr.c 2 (.int .i64 0) rfl
  have fr_2 := bxr.f 2
  have kr_3 := bxr.c 3 (.slice none 0 0) rfl
  have fr_3 := bxr.f 3
  have kr_4 := bxr.c 4 (.int .i64 0) rfl
  have fr_4 := bxr.f 4
  have kr_5 := bxr.c 5 (.slice none 0 0) rfl
  have fr_5 := bxr.f 5
  have kr_6 := bxr.c 6 (.int .i64 0) rfl
  have fr_6 := bxr.f 6
  have kr_7 := bxr.c 7 (.slice none 0 0) rfl
  have fr_7 := bxr.f 7
  have kn_0 := bxn.c 0 (.int .i64 gn) rfl
  have kn_1 := bxn.c 1 (.slice An Ln cn) rfl
  have kn_2 := bxn.c 2 (.int .i64 hn) rfl
  have kn_3 := bxn.c 3 (.slice Bn Mn dn) rfl
  go_wp2_with fail
  have HK : Hid (∀ w', Ext w2 w' → (w'.cell? ⟨w.heap.size, 0, none⟩ = some (.int .i64 g1) ∧ w'.cell? ⟨w.heap.size, 1, none⟩ = some (.slice A1 L1 c1) ∧ w'.cell? ⟨w.heap.size, 2, none⟩ = some (.int .i64 h1) ∧ w'.cell? ⟨w.heap.size, 3, none⟩ = some (.slice B1 M1 d1) ∧ w'.cell? ⟨w.heap.size, 4, none⟩ = some (.int .i64 g2) ∧ w'.cell? ⟨w.heap.size, 5, none⟩ = some (.slice A2 L2 c2) ∧ w'.cell? ⟨w.heap.size, 6, none⟩ = some (.int .i64 h2) ∧ w'.cell? ⟨w.heap.size, 7, none⟩ = some (.slice B2 M2 d2) ∧ w'.cell? ⟨w1.heap.size, 0, none⟩ = some (.int .i64 gn) ∧ w'.cell? ⟨w1.heap.size, 1, none⟩ = some (.slice An Ln cn) ∧ w'.cell? ⟨w1.heap.size, 2, none⟩ = some (.int .i64 hn) ∧ w'.cell? ⟨w1.heap.size, 3, none⟩ = some (.slice Bn Mn dn))) := fun w' hk => ⟨hk.cell ki_0, hk.cell ki_1, hk.cell ki_2, hk.cell ki_3, hk.cell ki_4, hk.cell ki_5, hk.cell ki_6, hk.cell ki_7, hk.cell kn_0, hk.cell kn_1, hk.cell kn_2, hk.cell kn_3⟩
  have neri : w.heap.size + 1 ≠ w.heap.size := by omega
  have nern : w.heap.size + 1 ≠ w1.heap.size := by omega
  have HSr : Hid (∀ (w' : World) (i : Nat) (u : Value), (w'.cell? ⟨w.heap.size, 0, none⟩ = some (.int .i64 g1) ∧ w'.cell? ⟨w.heap.size, 1, none⟩ = some (.slice A1 L1 c1) ∧ w'.cell? ⟨w.heap.size, 2, none⟩ = some (.int .i64 h1) ∧ w'.cell? ⟨w.heap.size, 3, none⟩ = some (.slice B1 M1 d1) ∧ w'.cell? ⟨w.heap.size, 4, none⟩ = some (.int .i64 g2) ∧ w'.cell? ⟨w.heap.size, 5, none⟩ = some (.slice A2 L2 c2) ∧ w'.cell? ⟨w.heap.size, 6, none⟩ = some (.int .i64 h2) ∧ w'.cell? ⟨w.heap.size, 7, none⟩ = some (.slice B2 M2 d2) ∧ w'.cell? ⟨w1.heap.size, 0, none⟩ = some (.int .i64 gn) ∧ w'.cell? ⟨w1.heap.size, 1, none⟩ = some (.slice An Ln cn) ∧ w'.cell? ⟨w1.heap.size, 2, none⟩ = some (.int .i64 hn) ∧ w'.cell? ⟨w1.heap.size, 3, none⟩ = some (.slice Bn Mn dn)) → ((fun (w' : World) => (w'.cell? ⟨w.heap.size, 0, none⟩ = some (.int .i64 g1) ∧ w'.cell? ⟨w.heap.size, 1, none⟩ = some (.slice A1 L1 c1) ∧ w'.cell? ⟨w.heap.size, 2, none⟩ = some (.int .i64 h1) ∧ w'.cell? ⟨w.heap.size, 3, none⟩ = some (.slice B1 M1 d1) ∧ w'.cell? ⟨w.heap.size, 4, none⟩ = some (.int .i64 g2) ∧ w'.cell? ⟨w.heap.size, 5, none⟩ = some (.slice A2 L2 c2) ∧ w'.cell? ⟨w.heap.size, 6, none⟩ = some (.int .i64 h2) ∧ w'.cell? ⟨w.heap.size, 7, none⟩ = some (.slice B2 M2 d2) ∧ w'.cell? ⟨w1.heap.size, 0, none⟩ = some (.int .i64 gn) ∧ w'.cell? ⟨w1.heap.size, 1, none⟩ = some (.slice An Ln cn) ∧ w'.cell? ⟨w1.heap.size, 2, none⟩ = some (.int .i64 hn) ∧ w'.cell? ⟨w1.heap.size, 3, none⟩ = some (.slice Bn Mn dn))) (w'.setCell ⟨w.heap.size + 1, i, none⟩ u))) := fun w' i u hs => ⟨cell_far neri hs.1, cell_far neri hs.2.1, cell_far neri hs.2.2.1, cell_far neri hs.2.2.2.1, cell_far neri hs.2.2.2.2.1, cell_far neri hs.2.2.2.2.2.1, cell_far neri hs.2.2.2.2.2.2.1, cell_far neri hs.2.2.2.2.2.2.2.1, cell_far nern hs.2.2.2.2.2.2.2.2.1, cell_far nern hs.2.2.2.2.2.2.2.2.2.1, cell_far nern hs.2.2.2.2.2.2.2.2.2.2.1, cell_far nern hs.2.2.2.2.2.2.2.2.2.2.2⟩
  go_region_held3 (fun w' => w'.cell? ⟨w.heap.size, 0, none⟩ = some (.int .i64 g1) ∧ w'.cell? ⟨w.heap.size, 1, none⟩ = some (.slice A1 L1 c1) ∧ w'.cell? ⟨w.heap.size, 2, none⟩ = some (.int .i64 h1) ∧ w'.cell? ⟨w.heap.size, 3, none⟩ = some (.slice B1 M1 d1) ∧ w'.cell? ⟨w.heap.size, 4, none⟩ = some (.int .i64 g2) ∧ w'.cell? ⟨w.heap.size, 5, none⟩ = some (.slice A2 L2 c2) ∧ w'.cell? ⟨w.heap.size, 6, none⟩ = some (.int .i64 h2) ∧ w'.cell? ⟨w.heap.size, 7, none⟩ = some (.slice B2 M2 d2) ∧ w'.cell? ⟨w1.heap.size, 0, none⟩ = some (.int .i64 gn) ∧ w'.cell? ⟨w1.heap.size, 1, none⟩ = some (.slice An Ln cn) ∧ w'.cell? ⟨w1.heap.size, 2, none⟩ = some (.int .i64 hn) ∧ w'.cell? ⟨w1.heap.size, 3, none⟩ = some (.slice Bn Mn dn))
    (((repeat (first | (with_reducible refine HSr.out _ _ _ ?_))); (with_reducible refine HK.out _ ?_; (with_reducible repeat' first | exact Ext.refl _ | assumption | apply Ext.alloc_r | apply Ext.drew_r | apply Ext.drewN_r | refine Ext.trans ?_ ‹Ext _ _›))))
    (first
      | (go_at_call_of 52 (#[Value.agg #[Value.int IntKind.i64 gn, Value.slice An Ln cn, Value.int IntKind.i64 hn, Value.slice Bn Mn dn], Value.agg #[Value.int IntKind.i64 g1, Value.slice A1 L1 c1, Value.int IntKind.i64 h1, Value.slice B1 M1 d1]]); have hgd := u; clear hgd; refine (qquo_r (n.ext (by with_reducible repeat' first | exact Ext.refl _ | assumption | apply Ext.alloc_r | apply Ext.drew_r | apply Ext.drewN_r | refine Ext.trans ?_ ‹Ext _ _›)) (h_1.ext (by with_reducible repeat' first | exact Ext.refl _ | assumption | apply Ext.alloc_r | apply Ext.drew_r | apply Ext.drewN_r | refine Ext.trans ?_ ‹Ext _ _›)) HN.out.1 (by omega) (by omega)).mono ?_; rintro e w4 ⟨gv, Av, cv, Lv, hv, Bv, dv, Mv, rfl, v, x4⟩; have yl : Ext w2 w4 := (by with_reducible repeat' first | exact Ext.refl _ | assumption | apply Ext.alloc_r | apply Ext.drew_r | apply Ext.drewN_r | refine Ext.trans ?_ ‹Ext _ _›); have cr_0 := (bxr.ext yl).c 0 (.int .i64 0) rfl; have gr_0 := (bxr.ext yl).f 0; have cr_1 := (bxr.ext yl).c 1 (.slice none 0 0) rfl; have gr_1 := (bxr.ext yl).f 1; have cr_2 := (bxr.ext yl).c 2 (.int .i64 0) rfl; have gr_2 := (bxr.ext yl).f 2; have cr_3 := (bxr.ext yl).c 3 (.slice none 0 0) rfl; have gr_3 := (bxr.ext yl).f 3; have cr_4 := (bxr.ext yl).c 4 (.int .i64 0) rfl; have gr_4 := (bxr.ext yl).f 4; have cr_5 := (bxr.ext yl).c 5 (.slice none 0 0) rfl; have gr_5 := (bxr.ext yl).f 5; have cr_6 := (bxr.ext yl).c 6 (.int .i64 0) rfl; have gr_6 := (bxr.ext yl).f 6; have cr_7 := (bxr.ext yl).c 7 (.slice none 0 0) rfl; have gr_7 := (bxr.ext yl).f 7)
      | (go_at_call_of 52 (#[Value.agg #[Value.int IntKind.i64 gn, Value.slice An Ln cn, Value.int IntKind.i64 hn, Value.slice Bn Mn dn], Value.agg #[Value.int IntKind.i64 g2, Value.slice A2 L2 c2, Value.int IntKind.i64 h2, Value.slice B2 M2 d2]]); refine (qquo_r (n.ext (by with_reducible repeat' first | exact Ext.refl _ | assumption | apply Ext.alloc_r | apply Ext.drew_r | apply Ext.drewN_r | refine Ext.trans ?_ ‹Ext _ _›)) (h_2.ext (by with_reducible repeat' first | exact Ext.refl _ | assumption | apply Ext.alloc_r | apply Ext.drew_r | apply Ext.drewN_r | refine Ext.trans ?_ ‹Ext _ _›)) HN.out.2 (by omega) (by omega)).mono ?_; rintro e w3 ⟨gu, Au, cu, Lu, hu, Bu, du, Mu, rfl, u, x3⟩))
  clear ki_0 ki_1 ki_2 ki_3 ki_4 ki_5 ki_6 ki_7 kr_0 fr_0 kr_1 fr_1 kr_2 fr_2 kr_3 fr_3 kr_4 fr_4 kr_5 fr_5 kr_6 fr_6 kr_7 fr_7 kn_0 kn_1 kn_2 kn_3
  clear HK HSr neri nern
  clear cr_0 gr_0
  clear cr_1 gr_1
  clear cr_2 gr_2
  clear cr_3 gr_3
  clear cr_4 gr_4
  clear cr_5 gr_5
  clear cr_6 gr_6
  clear cr_7 gr_7
  clear yl
  have szw3 : w2.heap.size ≤ w3.heap.size := (show Ext w2 w3 from (by with_reducible repeat' first | exact Ext.refl _ | assumption | apply Ext.alloc_r | apply Ext.drew_r | apply Ext.drewN_r | refine Ext.trans ?_ ‹Ext _ _›)).size
  have xhw4 : Ext w2 w4 := (by with_reducible repeat' first | exact Ext.refl _ | assumption | apply Ext.alloc_r | apply Ext.drew_r | apply Ext.drewN_r | refine Ext.trans ?_ ‹Ext _ _›)
  have szw4 : w2.heap.size ≤ w4.heap.size := xhw4.size
  replace bxi := bxi.ext xhw4
  replace bxr := bxr.ext xhw4
  replace bxn := bxn.ext xhw4
  clear n
  obtain ⟨w5, hw⟩ : ∃ z : World, z = ((((((((w4.setCell ⟨w.heap.size + 1, 0, none⟩ (.int .i64 gu)).setCell ⟨w.heap.size + 1, 1, none⟩ (.slice Au Lu cu)).setCell ⟨w.heap.size + 1, 2, none⟩ (.int .i64 hu)).setCell ⟨w.heap.size + 1, 3, none⟩ (.slice Bu Mu du)).setCell ⟨w.heap.size + 1, 4, none⟩ (.int .i64 gv)).setCell ⟨w.heap.size + 1, 5, none⟩ (.slice Av Lv cv)).setCell ⟨w.heap.size + 1, 6, none⟩ (.int .i64 hv)).setCell ⟨w.heap.size + 1, 7, none⟩ (.slice Bv Mv dv)) := ⟨_, rfl⟩
  rw [← hw]
  have kw5 : Kept w4 w5 := by rw [hw]; exact (Kept.set_ (Kept.set_ (Kept.set_ (Kept.set_ (Kept.set_ (Kept.set_ (Kept.set_ (Kept.set_ (Kept.refl _) bxr.isBox plain_J) (IsBox.set_ bxr.isBox) plain_J) (IsBox.set_ (IsBox.set_ bxr.isBox)) plain_J) (IsBox.set_ (IsBox.set_ (IsBox.set_ bxr.isBox))) plain_J) (IsBox.set_ (IsBox.set_ (IsBox.set_ (IsBox.set_ bxr.isBox)))) plain_J) (IsBox.set_ (IsBox.set_ (IsBox.set_ (IsBox.set_ (IsBox.set_ bxr.isBox))))) plain_J) (IsBox.set_ (IsBox.set_ (IsBox.set_ (IsBox.set_ (IsBox.set_ (IsBox.set_ bxr.isBox)))))) plain_J) (IsBox.set_ (IsBox.set_ (IsBox.set_ (IsBox.set_ (IsBox.set_ (IsBox.set_ (IsBox.set_ bxr.isBox))))))) plain_J)
  have nbi : BK w5 (w.heap.size) 38 #[.int .i64 g1, .slice A1 L1 c1, .int .i64 h1, .slice B1 M1 d1, .int .i64 g2, .slice A2 L2 c2, .int .i64 h2, .slice B2 M2 d2] := by rw [hw]; exact (BK.far (BK.far (BK.far (BK.far (BK.far (BK.far (BK.far (BK.far bxi (show w.heap.size ≠ w.heap.size + 1 by omega) 0 _) (show w.heap.size ≠ w.heap.size + 1 by omega) 1 _) (show w.heap.size ≠ w.heap.size + 1 by omega) 2 _) (show w.heap.size ≠ w.heap.size + 1 by omega) 3 _) (show w.heap.size ≠ w.heap.size + 1 by omega) 4 _) (show w.heap.size ≠ w.heap.size + 1 by omega) 5 _) (show w.heap.size ≠ w.heap.size + 1 by omega) 6 _) (show w.heap.size ≠ w.heap.size + 1 by omega) 7 _)
  have nbr : BK w5 (w.heap.size + 1) 38 #[.int .i64 gu, .slice Au Lu cu, .int .i64 hu, .slice Bu Mu du, .int .i64 gv, .slice Av Lv cv, .int .i64 hv, .slice Bv Mv dv] := by rw [hw]; exact (BK.set (i := 7) (u := .slice Bv Mv dv) (vs' := #[.int .i64 gu, .slice Au Lu cu, .int .i64 hu, .slice Bu Mu du, .int .i64 gv, .slice Av Lv cv, .int .i64 hv, .slice Bv Mv dv]) (BK.set (i := 6) (u := .int .i64 hv) (vs' := #[.int .i64 gu, .slice Au Lu cu, .int .i64 hu, .slice Bu Mu du, .int .i64 gv, .slice Av Lv cv, .int .i64 hv, .slice none 0 0]) (BK.set (i := 5) (u := .slice Av Lv cv) (vs' := #[.int .i64 gu, .slice Au Lu cu, .int .i64 hu, .slice Bu Mu du, .int .i64 gv, .slice Av Lv cv, .int .i64 0, .slice none 0 0]) (BK.set (i := 4) (u := .int .i64 gv) (vs' := #[.int .i64 gu, .slice Au Lu cu, .int .i64 hu, .slice Bu Mu du, .int .i64 gv, .slice none 0 0, .int .i64 0, .slice none 0 0]) (BK.set (i := 3) (u := .slice Bu Mu du) (vs' := #[.int .i64 gu, .slice Au Lu cu, .int .i64 hu, .slice Bu Mu du, .int .i64 0, .slice none 0 0, .int .i64 0, .slice none 0 0]) (BK.set (i := 2) (u := .int .i64 hu) (vs' := #[.int .i64 gu, .slice Au Lu cu, .int .i64 hu, .slice none 0 0, .int .i64 0, .slice none 0 0, .int .i64 0, .slice none 0 0]) (BK.set (i := 1) (u := .slice Au Lu cu) (vs' := #[.int .i64 gu, .slice Au Lu cu, .int .i64 0, .slice none 0 0, .int .i64 0, .slice none 0 0, .int .i64 0, .slice none 0 0]) (BK.set (i := 0) (u := .int .i64 gu) (vs' := #[.int .i64 gu, .slice none 0 0, .int .i64 0, .slice none 0 0, .int .i64 0, .slice none 0 0, .int .i64 0, .slice none 0 0]) bxr rfl) rfl) rfl) rfl) rfl) rfl) rfl) rfl)
  have nbn : BK w5 (w1.heap.size) 36 #[.int .i64 gn, .slice An Ln cn, .int .i64 hn, .slice Bn Mn dn] := by rw [hw]; exact (BK.far (BK.far (BK.far (BK.far (BK.far (BK.far (BK.far (BK.far bxn (show w1.heap.size ≠ w.heap.size + 1 by omega) 0 _) (show w1.heap.size ≠ w.heap.size + 1 by omega) 1 _) (show w1.heap.size ≠ w.heap.size + 1 by omega) 2 _) (show w1.heap.size ≠ w.heap.size + 1 by omega) 3 _) (show w1.heap.size ≠ w.heap.size + 1 by omega) 4 _) (show w1.heap.size ≠ w.heap.size + 1 by omega) 5 _) (show w1.heap.size ≠ w.heap.size + 1 by omega) 6 _) (show w1.heap.size ≠ w.heap.size + 1 by omega) 7 _)
  have x5 : Ext w w5 := by rw [hw]; have hxp : Ext w w4 := (by with_reducible repeat' first | exact Ext.refl _ | assumption | apply Ext.alloc_r | apply Ext.drew_r | apply Ext.drewN_r | refine Ext.trans ?_ ‹Ext _ _›); exact (Ext.set_ (Ext.set_ (Ext.set_ (Ext.set_ (Ext.set_ (Ext.set_ (Ext.set_ (Ext.set_ hxp (show _ ≤ w.heap.size + 1 by omega)) (show _ ≤ w.heap.size + 1 by omega)) (show _ ≤ w.heap.size + 1 by omega)) (show _ ≤ w.heap.size + 1 by omega)) (show _ ≤ w.heap.size + 1 by omega)) (show _ ≤ w.heap.size + 1 by omega)) (show _ ≤ w.heap.size + 1 by omega)) (show _ ≤ w.heap.size + 1 by omega))
  clear bxi
  clear bxr
  clear bxn
  have bxi := nbi
  clear nbi
  have bxr := nbr
  clear nbr
  have bxn := nbn
  clear nbn
  have szw5 : w5.heap.size = w4.heap.size := by rw [hw]; simp
  replace u := (u.ext (by with_reducible repeat' first | exact Ext.refl _ | assumption | apply Ext.alloc_r | apply Ext.drew_r | apply Ext.drewN_r | refine Ext.trans ?_ ‹Ext _ _›)).kept kw5
  replace v := (v.ext (by with_reducible repeat' first | exact Ext.refl _ | assumption | apply Ext.alloc_r | apply Ext.drew_r | apply Ext.drewN_r | refine Ext.trans ?_ ‹Ext _ _›)).kept kw5
  clear hw kw5
  have HU := Lib.hid u
  have HV := Lib.hid v
  clear u v
  have ki_0 := bxi.c 0 (.int .i64 g1) rfl
  have ki_1 := bxi.c 1 (.slice A1 L1 c1) rfl
  have ki_2 := bxi.c 2 (.int .i64 h1) rfl
  have ki_3 := bxi.c 3 (.slice B1 M1 d1) rfl
  have ki_4 := bxi.c 4 (.int .i64 g2) rfl
  have ki_5 := bxi.c 5 (.slice A2 L2 c2) rfl
  have ki_6 := bxi.c 6 (.int .i64 h2) rfl
  have ki_7 := bxi.c 7 (.slice B2 M2 d2) rfl
  have kr_0 := bxr.c 0 (.int .i64 gu) rfl
  have kr_1 := bxr.c 1 (.slice Au Lu cu) rfl
  have kr_2 := bxr.c 2 (.int .i64 hu) rfl
  have kr_3 := bxr.c 3 (.slice Bu Mu du) rfl
  have kr_4 := bxr.c 4 (.int .i64 gv) rfl
  have kr_5 := bxr.c 5 (.slice Av Lv cv) rfl
  have kr_6 := bxr.c 6 (.int .i64 hv) rfl
  have kr_7 := bxr.c 7 (.slice Bv Mv dv) rfl
  have kn_0 := bxn.c 0 (.int .i64 gn) rfl
  have kn_1 := bxn.c 1 (.slice An Ln cn) rfl
  have kn_2 := bxn.c 2 (.int .i64 hn) rfl
  have kn_3 := bxn.c 3 (.slice Bn Mn dn) rfl
  go_wp2_with fail
  clear ki_0 ki_1 ki_2 ki_3 ki_4 ki_5 ki_6 ki_7 kr_0 kr_1 kr_2 kr_3 kr_4 kr_5 kr_6 kr_7 kn_0 kn_1 kn_2 kn_3
  have kr_0 := bxr.c 0 (.int .i64 gu) rfl
  have kr_1 := bxr.c 1 (.slice Au Lu cu) rfl
  have kr_2 := bxr.c 2 (.int .i64 hu) rfl
  have kr_3 := bxr.c 3 (.slice Bu Mu du) rfl
  have kr_4 := bxr.c 4 (.int .i64 gv) rfl
  have kr_5 := bxr.c 5 (.slice Av Lv cv) rfl
  have kr_6 := bxr.c 6 (.int .i64 hv) rfl
  have kr_7 := bxr.c 7 (.slice Bv Mv dv) rfl
  refine bodyPost_ret (v := Value.agg #[Value.int IntKind.i64 gu, Value.slice Au Lu cu, Value.int IntKind.i64 hu, Value.slice Bu Mu du, Value.int IntKind.i64 gv, Value.slice Av Lv cv, Value.int IntKind.i64 hv, Value.slice Bv Mv dv]) (by simp [results, Tryz.results16, go_sem, kr_0, kr_1, kr_2, kr_3, kr_4, kr_5, kr_6, kr_7]) rfl ?_
  exact ⟨_, _, _, _, _, _, _, _, _, _, _, _, _, _, _, _, rfl, HU.out, HV.out, x5⟩
end Go.Proofs.YtehhkeenjlpikaaGreat
