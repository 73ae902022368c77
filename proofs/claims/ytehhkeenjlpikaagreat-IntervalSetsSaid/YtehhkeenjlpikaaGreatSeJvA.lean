/- The reference of chapter 06: contracts of its functions without loops. -/
import Derived.Test.YtehhkeenjlpikaaGreatSeRef5
import Derived.Test.YtehhkeenjlpikaaGreatSeIvP
import Derived.Test.YtehhkeenjlpikaaGreatSeOpenR
import Derived.Deep.RegionHeldLaw
import Derived.Deep.LoopGhost
import Derived.Deep.QuietTactic
import Derived.BigQuiet
namespace Go.Proofs.YtehhkeenjlpikaaGreat
open Go.RowKit
theorem plain_J : ¬ Plain 38 := by unfold Plain; decide
/-- The call returns the interval from p to q of the reference, the parts of its bounds of at most K bits. -/
def RetJ (w : World) (K : Nat) (p q : Rat) (e : Ending) (w' : World) : Prop := ∃ g A c L h B d M g' A' c' L' h' B' d' M', e = .returned (.agg #[.int .i64 g, .slice A L c, .int .i64 h, .slice B M d, .int .i64 g', .slice A' L' c', .int .i64 h', .slice B' M' d']) ∧ QR w' g A c L h B d M K p ∧ QR w' g' A' c' L' h' B' d' M' K q ∧ Ext w w'
theorem qcmp_k {w : World} {K : Nat} {g1 h1 g2 h2 : Int} {A1 B1 A2 B2 : Option Addr} {c1 d1 L1 M1 c2 d2 L2 M2 : Nat} {q1 q2 : Rat} {k : Int} (h_1 : QR w g1 A1 c1 L1 h1 B1 d1 M1 K q1) (h_2 : QR w g2 A2 c2 L2 h2 B2 d2 M2 K q2) (hK : K ≤ 100000000) (e : cmpQ q1 q2 = k) :
    Calls Tryz.prog 42 #[Value.agg #[Value.int IntKind.i64 g1, Value.slice A1 L1 c1, Value.int IntKind.i64 h1, Value.slice B1 M1 d1], Value.agg #[Value.int IntKind.i64 g2, Value.slice A2 L2 c2, Value.int IntKind.i64 h2, Value.slice B2 M2 d2]] w fun e w' => e = .returned (.int .i64 k) ∧ Ext w w' := by rw [← e]; exact qcmp_r h_1 h_2 (by omega) (by omega)
set_option maxHeartbeats 4000000 in
set_option maxRecDepth 100000 in
theorem lq6 {w : World} {s1 : Bool} {A1 B1 : Option Addr} {c1 d1 L1 M1 K : Nat} {x : Int} {y : Nat} (h : RW w s1 A1 c1 L1 B1 d1 M1 x y) (hL : 32 * L1 ≤ K) (hM : 32 * M1 ≤ K) (hK : K ≤ 1000000000) (hK1 : 1 ≤ K) :
    Calls Tryz.prog 18 #[Value.agg #[.bool s1, .slice A1 L1 c1, .slice B1 M1 d1]] w (RetQ w K (mkRat x y)) := by
  have HO : Hid (∀ w', Ext w w' → Calls Tryz.prog 54 #[.bool s1, .slice A1 L1 c1, .slice B1 M1 d1] w' (RetQ w' K (mkRat x y))) := fun w' hx => qof_r (h.num.ext hx) (h.den.ext hx) hL hM hK hK1
  clear h
  go_enter Tryz.func18, Tryz.ntmps18
  go_wp2_with fail
  obtain ⟨w0, hw0⟩ : ∃ z : World, z = ((w.alloc (.cells #[.bool s1, .slice A1 L1 c1, .slice B1 M1 d1] 27)).alloc (.cells #[.int .i64 0, .slice none 0 0, .int .i64 0, .slice none 0 0] 36)) := ⟨_, rfl⟩
  rw [← hw0]
  have bxa : BK w0 (w.heap.size) 27 #[.bool s1, .slice A1 L1 c1, .slice B1 M1 d1] := by rw [hw0]; have h5 := (BK.ext (BK.new w #[.bool s1, .slice A1 L1 c1, .slice B1 M1 d1] 27) (Ext.alloc _ (.cells #[.int .i64 0, .slice none 0 0, .int .i64 0, .slice none 0 0] 36))); simpa only [World.size_alloc] using h5
  have bxr : BK w0 (w.heap.size + 1) 36 #[.int .i64 0, .slice none 0 0, .int .i64 0, .slice none 0 0] := by rw [hw0]; have h5 := (BK.new (w.alloc (.cells #[.bool s1, .slice A1 L1 c1, .slice B1 M1 d1] 27)) #[.int .i64 0, .slice none 0 0, .int .i64 0, .slice none 0 0] 36); simpa only [World.size_alloc] using h5
  have hszw0 : w0.heap.size = w.heap.size + 1 + 1 := by rw [hw0]; simp only [World.size_alloc]
  have xw0 : Ext w w0 := by rw [hw0]; exact ((Ext.alloc _ _).trans (Ext.alloc _ _))
  clear hw0
  refine (HO.out _ (by with_reducible repeat' first | exact Ext.refl _ | assumption | apply Ext.alloc_r | apply Ext.drew_r | apply Ext.drewN_r | refine Ext.trans ?_ ‹Ext _ _›)).mono ?_
  rintro e w1 ⟨gz, Az, cz, Lz, hz, Bz, dz, Mz, rfl, z, x1⟩
  have szw1 : w0.heap.size ≤ w1.heap.size := x1.size
  replace bxa := bxa.ext x1
  replace bxr := bxr.ext x1
  have HZ := Lib.hid z
  clear z HO
  have ka_0 := bxa.c 0 (.bool s1) rfl
  have ka_1 := bxa.c 1 (.slice A1 L1 c1) rfl
  have ka_2 := bxa.c 2 (.slice B1 M1 d1) rfl
  have kr_0 := bxr.c 0 (.int .i64 0) rfl
  have fr_0 := bxr.f 0
  have kr_1 := bxr.c 1 (.slice none 0 0) rfl
  have fr_1 := bxr.f 1
  have kr_2 := bxr.c 2 (.int .i64 0) rfl
  have fr_2 := bxr.f 2
  have kr_3 := bxr.c 3 (.slice none 0 0) rfl
  have fr_3 := bxr.f 3
  go_wp2_with fail
  clear ka_0 ka_1 ka_2 kr_0 fr_0 kr_1 fr_1 kr_2 fr_2 kr_3 fr_3
  have z := HZ.out
  clear HZ
  obtain ⟨w2, hw⟩ : ∃ z : World, z = ((((w1.setCell ⟨w.heap.size + 1, 0, none⟩ (.int .i64 gz)).setCell ⟨w.heap.size + 1, 1, none⟩ (.slice Az Lz cz)).setCell ⟨w.heap.size + 1, 2, none⟩ (.int .i64 hz)).setCell ⟨w.heap.size + 1, 3, none⟩ (.slice Bz Mz dz)) := ⟨_, rfl⟩
  rw [← hw]
  have kw2 : Kept w1 w2 := by rw [hw]; exact (Kept.set_ (Kept.set_ (Kept.set_ (Kept.set_ (Kept.refl _) bxr.isBox plain_Q) (IsBox.set_ bxr.isBox) plain_Q) (IsBox.set_ (IsBox.set_ bxr.isBox)) plain_Q) (IsBox.set_ (IsBox.set_ (IsBox.set_ bxr.isBox))) plain_Q)
  have nba : BK w2 (w.heap.size) 27 #[.bool s1, .slice A1 L1 c1, .slice B1 M1 d1] := by rw [hw]; exact (BK.far (BK.far (BK.far (BK.far bxa (show w.heap.size ≠ w.heap.size + 1 by omega) 0 _) (show w.heap.size ≠ w.heap.size + 1 by omega) 1 _) (show w.heap.size ≠ w.heap.size + 1 by omega) 2 _) (show w.heap.size ≠ w.heap.size + 1 by omega) 3 _)
  have nbr : BK w2 (w.heap.size + 1) 36 #[.int .i64 gz, .slice Az Lz cz, .int .i64 hz, .slice Bz Mz dz] := by rw [hw]; exact (BK.set (i := 3) (u := .slice Bz Mz dz) (vs' := #[.int .i64 gz, .slice Az Lz cz, .int .i64 hz, .slice Bz Mz dz]) (BK.set (i := 2) (u := .int .i64 hz) (vs' := #[.int .i64 gz, .slice Az Lz cz, .int .i64 hz, .slice none 0 0]) (BK.set (i := 1) (u := .slice Az Lz cz) (vs' := #[.int .i64 gz, .slice Az Lz cz, .int .i64 0, .slice none 0 0]) (BK.set (i := 0) (u := .int .i64 gz) (vs' := #[.int .i64 gz, .slice none 0 0, .int .i64 0, .slice none 0 0]) bxr rfl) rfl) rfl) rfl)
  have x2 : Ext w w2 := by rw [hw]; have hxp : Ext w w1 := (by with_reducible repeat' first | exact Ext.refl _ | assumption | apply Ext.alloc_r | apply Ext.drew_r | apply Ext.drewN_r | refine Ext.trans ?_ ‹Ext _ _›); exact (Ext.set_ (Ext.set_ (Ext.set_ (Ext.set_ hxp (show _ ≤ w.heap.size + 1 by omega)) (show _ ≤ w.heap.size + 1 by omega)) (show _ ≤ w.heap.size + 1 by omega)) (show _ ≤ w.heap.size + 1 by omega))
  clear bxa
  clear bxr
  have bxa := nba
  clear nba
  have bxr := nbr
  clear nbr
  have szw2 : w2.heap.size = w1.heap.size := by rw [hw]; simp
  replace z := (z.ext (by with_reducible repeat' first | exact Ext.refl _ | assumption | apply Ext.alloc_r | apply Ext.drew_r | apply Ext.drewN_r | refine Ext.trans ?_ ‹Ext _ _›)).kept kw2
  clear hw kw2
  have HQ2 := Lib.hid z
  clear z
  have kr_0 := bxr.c 0 (.int .i64 gz) rfl
  have kr_1 := bxr.c 1 (.slice Az Lz cz) rfl
  have kr_2 := bxr.c 2 (.int .i64 hz) rfl
  have kr_3 := bxr.c 3 (.slice Bz Mz dz) rfl
  refine bodyPost_ret (v := Value.agg #[Value.int IntKind.i64 gz, Value.slice Az Lz cz, Value.int IntKind.i64 hz, Value.slice Bz Mz dz]) (by simp [results, Tryz.results18, go_sem, kr_0, kr_1, kr_2, kr_3]) rfl ?_
  exact ⟨_, _, _, _, _, _, _, _, rfl, HQ2.out, x2⟩
set_option maxHeartbeats 4000000 in
set_option maxRecDepth 100000 in
theorem jmake_gt {w : World} {K : Nat} {g1 h1 g2 h2 : Int} {A1 B1 A2 B2 : Option Addr} {c1 d1 L1 M1 c2 d2 L2 M2 : Nat} {q1 q2 : Rat} (h_1 : QR w g1 A1 c1 L1 h1 B1 d1 M1 K q1) (h_2 : QR w g2 A2 c2 L2 h2 B2 d2 M2 K q2) (hK : K ≤ 100000000) (hq : q2 < q1) :
    Calls Tryz.prog 47 #[Value.agg #[Value.int IntKind.i64 g1, Value.slice A1 L1 c1, Value.int IntKind.i64 h1, Value.slice B1 M1 d1], Value.agg #[Value.int IntKind.i64 g2, Value.slice A2 L2 c2, Value.int IntKind.i64 h2, Value.slice B2 M2 d2]] w (RetJ w K (minQ q1 q2) (maxQ q1 q2)) := by
  obtain ⟨k, hk0⟩ : ∃ k : Int, k = cmpQ q1 q2 := ⟨_, rfl⟩
  have hk : k > 0 := by rw [hk0]; exact (cmpQ_gt _ _).2 hq
  have HK := Lib.hid hk0.symm
  have HLO : Hid (minQ q1 q2 = q2 ∧ maxQ q1 q2 = q1) := by show _ ∧ _; exact ⟨by rw [minQ_comm]; exact min_of_le (Rat.le_of_lt hq), by rw [maxQ_comm]; exact max_of_le (Rat.le_of_lt hq)⟩
  clear hk0 hq
  go_enter Tryz.func47, Tryz.ntmps47
  go_wp2_with fail
  obtain ⟨w0, hw0⟩ : ∃ z : World, z = (((w.alloc (.cells #[.int .i64 g1, .slice A1 L1 c1, .int .i64 h1, .slice B1 M1 d1] 36)).alloc (.cells #[.int .i64 g2, .slice A2 L2 c2, .int .i64 h2, .slice B2 M2 d2] 36)).alloc (.cells #[.int .i64 0, .slice none 0 0, .int .i64 0, .slice none 0 0, .int .i64 0, .slice none 0 0, .int .i64 0, .slice none 0 0] 38)) := ⟨_, rfl⟩
  rw [← hw0]
  have bxa : BK w0 (w.heap.size) 36 #[.int .i64 g1, .slice A1 L1 c1, .int .i64 h1, .slice B1 M1 d1] := by rw [hw0]; have h5 := (BK.ext (BK.ext (BK.new w #[.int .i64 g1, .slice A1 L1 c1, .int .i64 h1, .slice B1 M1 d1] 36) (Ext.alloc _ (.cells #[.int .i64 g2, .slice A2 L2 c2, .int .i64 h2, .slice B2 M2 d2] 36))) (Ext.alloc _ (.cells #[.int .i64 0, .slice none 0 0, .int .i64 0, .slice none 0 0, .int .i64 0, .slice none 0 0, .int .i64 0, .slice none 0 0] 38))); simpa only [World.size_alloc] using h5
  have bxb : BK w0 (w.heap.size + 1) 36 #[.int .i64 g2, .slice A2 L2 c2, .int .i64 h2, .slice B2 M2 d2] := by rw [hw0]; have h5 := (BK.ext (BK.new (w.alloc (.cells #[.int .i64 g1, .slice A1 L1 c1, .int .i64 h1, .slice B1 M1 d1] 36)) #[.int .i64 g2, .slice A2 L2 c2, .int .i64 h2, .slice B2 M2 d2] 36) (Ext.alloc _ (.cells #[.int .i64 0, .slice none 0 0, .int .i64 0, .slice none 0 0, .int .i64 0, .slice none 0 0, .int .i64 0, .slice none 0 0] 38))); simpa only [World.size_alloc] using h5
  have bxr : BK w0 (w.heap.size + 1 + 1) 38 #[.int .i64 0, .slice none 0 0, .int .i64 0, .slice none 0 0, .int .i64 0, .slice none 0 0, .int .i64 0, .slice none 0 0] := by rw [hw0]; have h5 := (BK.new ((w.alloc (.cells #[.int .i64 g1, .slice A1 L1 c1, .int .i64 h1, .slice B1 M1 d1] 36)).alloc (.cells #[.int .i64 g2, .slice A2 L2 c2, .int .i64 h2, .slice B2 M2 d2] 36)) #[.int .i64 0, .slice none 0 0, .int .i64 0, .slice none 0 0, .int .i64 0, .slice none 0 0, .int .i64 0, .slice none 0 0] 38); simpa only [World.size_alloc] using h5
  have hszw0 : w0.heap.size = w.heap.size + 1 + 1 + 1 := by rw [hw0]; simp only [World.size_alloc]
  have xw0 : Ext w w0 := by rw [hw0]; exact (((Ext.alloc _ _).trans (Ext.alloc _ _)).trans (Ext.alloc _ _))
  clear hw0
  refine (qcmp_k (h_1.ext (by with_reducible repeat' first | exact Ext.refl _ | assumption | apply Ext.alloc_r | apply Ext.drew_r | apply Ext.drewN_r | refine Ext.trans ?_ ‹Ext _ _›)) (h_2.ext (by with_reducible repeat' first | exact Ext.refl _ | assumption | apply Ext.alloc_r | apply Ext.drew_r | apply Ext.drewN_r | refine Ext.trans ?_ ‹Ext _ _›)) hK HK.out).mono ?_
  rintro e w1 ⟨rfl, x1⟩
  have szw1 : w0.heap.size ≤ w1.heap.size := x1.size
  replace bxa := bxa.ext x1
  replace bxb := bxb.ext x1
  replace bxr := bxr.ext x1
  have HA := Lib.hid (And.intro (h_2.ext (show Ext w w1 from (by with_reducible repeat' first | exact Ext.refl _ | assumption | apply Ext.alloc_r | apply Ext.drew_r | apply Ext.drewN_r | refine Ext.trans ?_ ‹Ext _ _›))) (h_1.ext (show Ext w w1 from (by with_reducible repeat' first | exact Ext.refl _ | assumption | apply Ext.alloc_r | apply Ext.drew_r | apply Ext.drewN_r | refine Ext.trans ?_ ‹Ext _ _›))))
  clear h_1 h_2
  have ka_0 := bxa.c 0 (.int .i64 g1) rfl
  have ka_1 := bxa.c 1 (.slice A1 L1 c1) rfl
  have ka_2 := bxa.c 2 (.int .i64 h1) rfl
  have ka_3 := bxa.c 3 (.slice B1 M1 d1) rfl
  have kb_0 := bxb.c 0 (.int .i64 g2) rfl
  have kb_1 := bxb.c 1 (.slice A2 L2 c2) rfl
  have kb_2 := bxb.c 2 (.int .i64 h2) rfl
  have kb_3 := bxb.c 3 (.slice B2 M2 d2) rfl
  have kr_0 := bxr.c 0 (.int .i64 0) rfl
  have fr_0 := bxr.f 0
  have kr_1 := bxr.c 1 (.slice none 0 0) rfl
  have fr_1 := bxr.f 1
  have kr_2 := bxr.c 2 (.int .i64 0) rfl
  have fr_2 := bxr.f 2
  have kr_3 := bxr.c 3 (.slice none 0 0) rfl
  have fr_3 := bxr.f 3
  have kr_4 := bxr.c 4 (.int .i64 0) rfl
  have fr_4 := bxr.f 4
  have kr_5 := bxr.c 5 (.slice none 0 0) rfl
  have fr_5 := bxr.f 5
  have kr_6 := bxr.c 6 (.int .i64 0) rfl
  have fr_6 := bxr.f 6
  have kr_7 := bxr.c 7 (.slice none 0 0) rfl
  have fr_7 := bxr.f 7
  go_wp2_with fail
  clear ka_0 ka_1 ka_2 ka_3 kb_0 kb_1 kb_2 kb_3 kr_0 fr_0 kr_1 fr_1 kr_2 fr_2 kr_3 fr_3 kr_4 fr_4 kr_5 fr_5 kr_6 fr_6 kr_7 fr_7
  have u := HA.out.1
  have v := HA.out.2
  clear HA
  obtain ⟨w2, hw⟩ : ∃ z : World, z = ((((((((w1.setCell ⟨w.heap.size + 1 + 1, 0, none⟩ (.int .i64 g2)).setCell ⟨w.heap.size + 1 + 1, 1, none⟩ (.slice A2 L2 c2)).setCell ⟨w.heap.size + 1 + 1, 2, none⟩ (.int .i64 h2)).setCell ⟨w.heap.size + 1 + 1, 3, none⟩ (.slice B2 M2 d2)).setCell ⟨w.heap.size + 1 + 1, 4, none⟩ (.int .i64 g1)).setCell ⟨w.heap.size + 1 + 1, 5, none⟩ (.slice A1 L1 c1)).setCell ⟨w.heap.size + 1 + 1, 6, none⟩ (.int .i64 h1)).setCell ⟨w.heap.size + 1 + 1, 7, none⟩ (.slice B1 M1 d1)) := ⟨_, rfl⟩
  rw [← hw]
  have kw2 : Kept w1 w2 := by rw [hw]; exact (Kept.set_ (Kept.set_ (Kept.set_ (Kept.set_ (Kept.set_ (Kept.set_ (Kept.set_ (Kept.set_ (Kept.refl _) bxr.isBox plain_J) (IsBox.set_ bxr.isBox) plain_J) (IsBox.set_ (IsBox.set_ bxr.isBox)) plain_J) (IsBox.set_ (IsBox.set_ (IsBox.set_ bxr.isBox))) plain_J) (IsBox.set_ (IsBox.set_ (IsBox.set_ (IsBox.set_ bxr.isBox)))) plain_J) (IsBox.set_ (IsBox.set_ (IsBox.set_ (IsBox.set_ (IsBox.set_ bxr.isBox))))) plain_J) (IsBox.set_ (IsBox.set_ (IsBox.set_ (IsBox.set_ (IsBox.set_ (IsBox.set_ bxr.isBox)))))) plain_J) (IsBox.set_ (IsBox.set_ (IsBox.set_ (IsBox.set_ (IsBox.set_ (IsBox.set_ (IsBox.set_ bxr.isBox))))))) plain_J)
  have nba : BK w2 (w.heap.size) 36 #[.int .i64 g1, .slice A1 L1 c1, .int .i64 h1, .slice B1 M1 d1] := by rw [hw]; exact (BK.far (BK.far (BK.far (BK.far (BK.far (BK.far (BK.far (BK.far bxa (show w.heap.size ≠ w.heap.size + 1 + 1 by omega) 0 _) (show w.heap.size ≠ w.heap.size + 1 + 1 by omega) 1 _) (show w.heap.size ≠ w.heap.size + 1 + 1 by omega) 2 _) (show w.heap.size ≠ w.heap.size + 1 + 1 by omega) 3 _) (show w.heap.size ≠ w.heap.size + 1 + 1 by omega) 4 _) (show w.heap.size ≠ w.heap.size + 1 + 1 by omega) 5 _) (show w.heap.size ≠ w.heap.size + 1 + 1 by omega) 6 _) (show w.heap.size ≠ w.heap.size + 1 + 1 by omega) 7 _)
  have nbb : BK w2 (w.heap.size + 1) 36 #[.int .i64 g2, .slice A2 L2 c2, .int .i64 h2, .slice B2 M2 d2] := by rw [hw]; exact (BK.far (BK.far (BK.far (BK.far (BK.far (BK.far (BK.far (BK.far bxb (show w.heap.size + 1 ≠ w.heap.size + 1 + 1 by omega) 0 _) (show w.heap.size + 1 ≠ w.heap.size + 1 + 1 by omega) 1 _) (show w.heap.size + 1 ≠ w.heap.size + 1 + 1 by omega) 2 _) (show w.heap.size + 1 ≠ w.heap.size + 1 + 1 by omega) 3 _) (show w.heap.size + 1 ≠ w.heap.size + 1 + 1 by omega) 4 _) (show w.heap.size + 1 ≠ w.heap.size + 1 + 1 by omega) 5 _) (show w.heap.size + 1 ≠ w.heap.size + 1 + 1 by omega) 6 _) (show w.heap.size + 1 ≠ w.heap.size + 1 + 1 by omega) 7 _)
  have nbr : BK w2 (w.heap.size + 1 + 1) 38 #[.int .i64 g2, .slice A2 L2 c2, .int .i64 h2, .slice B2 M2 d2, .int .i64 g1, .slice A1 L1 c1, .int .i64 h1, .slice B1 M1 d1] := by rw [hw]; exact (BK.set (i := 7) (u := .slice B1 M1 d1) (vs' := #[.int .i64 g2, .slice A2 L2 c2, .int .i64 h2, .slice B2 M2 d2, .int .i64 g1, .slice A1 L1 c1, .int .i64 h1, .slice B1 M1 d1]) (BK.set (i := 6) (u := .int .i64 h1) (vs' := #[.int .i64 g2, .slice A2 L2 c2, .int .i64 h2, .slice B2 M2 d2, .int .i64 g1, .slice A1 L1 c1, .int .i64 h1, .slice none 0 0]) (BK.set (i := 5) (u := .slice A1 L1 c1) (vs' := #[.int .i64 g2, .slice A2 L2 c2, .int .i64 h2, .slice B2 M2 d2, .int .i64 g1, .slice A1 L1 c1, .int .i64 0, .slice none 0 0]) (BK.set (i := 4) (u := .int .i64 g1) (vs' := #[.int .i64 g2, .slice A2 L2 c2, .int .i64 h2, .slice B2 M2 d2, .int .i64 g1, .slice none 0 0, .int .i64 0, .slice none 0 0]) (BK.set (i := 3) (u := .slice B2 M2 d2) (vs' := #[.int .i64 g2, .slice A2 L2 c2, .int .i64 h2, .slice B2 M2 d2, .int .i64 0, .slice none 0 0, .int .i64 0, .slice none 0 0]) (BK.set (i := 2) (u := .int .i64 h2) (vs' := #[.int .i64 g2, .slice A2 L2 c2, .int .i64 h2, .slice none 0 0, .int .i64 0, .slice none 0 0, .int .i64 0, .slice none 0 0]) (BK.set (i := 1) (u := .slice A2 L2 c2) (vs' := #[.int .i64 g2, .slice A2 L2 c2, .int .i64 0, .slice none 0 0, .int .i64 0, .slice none 0 0, .int .i64 0, .slice none 0 0]) (BK.set (i := 0) (u := .int .i64 g2) (vs' := #[.int .i64 g2, .slice none 0 0, .int .i64 0, .slice none 0 0, .int .i64 0, .slice none 0 0, .int .i64 0, .slice none 0 0]) bxr rfl) rfl) rfl) rfl) rfl) rfl) rfl) rfl)
  have x2 : Ext w w2 := by rw [hw]; have hxp : Ext w w1 := (by with_reducible repeat' first | exact Ext.refl _ | assumption | apply Ext.alloc_r | apply Ext.drew_r | apply Ext.drewN_r | refine Ext.trans ?_ ‹Ext _ _›); exact (Ext.set_ (Ext.set_ (Ext.set_ (Ext.set_ (Ext.set_ (Ext.set_ (Ext.set_ (Ext.set_ hxp (show _ ≤ w.heap.size + 1 + 1 by omega)) (show _ ≤ w.heap.size + 1 + 1 by omega)) (show _ ≤ w.heap.size + 1 + 1 by omega)) (show _ ≤ w.heap.size + 1 + 1 by omega)) (show _ ≤ w.heap.size + 1 + 1 by omega)) (show _ ≤ w.heap.size + 1 + 1 by omega)) (show _ ≤ w.heap.size + 1 + 1 by omega)) (show _ ≤ w.heap.size + 1 + 1 by omega))
  clear bxa
  clear bxb
  clear bxr
  have bxa := nba
  clear nba
  have bxb := nbb
  clear nbb
  have bxr := nbr
  clear nbr
  have szw2 : w2.heap.size = w1.heap.size := by rw [hw]; simp
  replace u := (u.ext (by with_reducible repeat' first | exact Ext.refl _ | assumption | apply Ext.alloc_r | apply Ext.drew_r | apply Ext.drewN_r | refine Ext.trans ?_ ‹Ext _ _›)).kept kw2
  replace v := (v.ext (by with_reducible repeat' first | exact Ext.refl _ | assumption | apply Ext.alloc_r | apply Ext.drew_r | apply Ext.drewN_r | refine Ext.trans ?_ ‹Ext _ _›)).kept kw2
  clear hw kw2
  have HU := Lib.hid u
  have HV := Lib.hid v
  clear u v
  have kr_0 := bxr.c 0 (.int .i64 g2) rfl
  have kr_1 := bxr.c 1 (.slice A2 L2 c2) rfl
  have kr_2 := bxr.c 2 (.int .i64 h2) rfl
  have kr_3 := bxr.c 3 (.slice B2 M2 d2) rfl
  have kr_4 := bxr.c 4 (.int .i64 g1) rfl
  have kr_5 := bxr.c 5 (.slice A1 L1 c1) rfl
  have kr_6 := bxr.c 6 (.int .i64 h1) rfl
  have kr_7 := bxr.c 7 (.slice B1 M1 d1) rfl
  refine bodyPost_ret (v := Value.agg #[Value.int IntKind.i64 g2, Value.slice A2 L2 c2, Value.int IntKind.i64 h2, Value.slice B2 M2 d2, Value.int IntKind.i64 g1, Value.slice A1 L1 c1, Value.int IntKind.i64 h1, Value.slice B1 M1 d1]) (by simp [results, Tryz.results47, go_sem, kr_0, kr_1, kr_2, kr_3, kr_4, kr_5, kr_6, kr_7]) rfl ?_
  exact ⟨_, _, _, _, _, _, _, _, _, _, _, _, _, _, _, _, rfl, by rw [HLO.out.1]; exact HU.out, by rw [HLO.out.2]; exact HV.out, x2⟩
set_option maxHeartbeats 4000000 in
set_option maxRecDepth 100000 in
theorem jmake_le {w : World} {K : Nat} {g1 h1 g2 h2 : Int} {A1 B1 A2 B2 : Option Addr} {c1 d1 L1 M1 c2 d2 L2 M2 : Nat} {q1 q2 : Rat} (h_1 : QR w g1 A1 c1 L1 h1 B1 d1 M1 K q1) (h_2 : QR w g2 A2 c2 L2 h2 B2 d2 M2 K q2) (hK : K ≤ 100000000) (hq : q1 ≤ q2) :
    Calls Tryz.prog 47 #[Value.agg #[Value.int IntKind.i64 g1, Value.slice A1 L1 c1, Value.int IntKind.i64 h1, Value.slice B1 M1 d1], Value.agg #[Value.int IntKind.i64 g2, Value.slice A2 L2 c2, Value.int IntKind.i64 h2, Value.slice B2 M2 d2]] w (RetJ w K (minQ q1 q2) (maxQ q1 q2)) := by
  obtain ⟨k, hk0⟩ : ∃ k : Int, k = cmpQ q1 q2 := ⟨_, rfl⟩
  have hk : ¬ k > 0 := by rw [hk0]; exact fun h => Rat.not_lt.2 hq ((cmpQ_gt _ _).1 h)
  have HK := Lib.hid hk0.symm
  have HLO : Hid (minQ q1 q2 = q1 ∧ maxQ q1 q2 = q2) := by show _ ∧ _; exact ⟨min_of_le hq, max_of_le hq⟩
  clear hk0 hq
  go_enter Tryz.func47, Tryz.ntmps47
  go_wp2_with fail
  obtain ⟨w0, hw0⟩ : ∃ z : World, z = (((w.alloc (.cells #[.int .i64 g1, .slice A1 L1 c1, .int .i64 h1, .slice B1 M1 d1] 36)).alloc (.cells #[.int .i64 g2, .slice A2 L2 c2, .int .i64 h2, .slice B2 M2 d2] 36)).alloc (.cells #[.int .i64 0, .slice none 0 0, .int .i64 0, .slice none 0 0, .int .i64 0, .slice none 0 0, .int .i64 0, .slice none 0 0] 38)) := ⟨_, rfl⟩
  rw [← hw0]
  have bxa : BK w0 (w.heap.size) 36 #[.int .i64 g1, .slice A1 L1 c1, .int .i64 h1, .slice B1 M1 d1] := by rw [hw0]; have h5 := (BK.ext (BK.ext (BK.new w #[.int .i64 g1, .slice A1 L1 c1, .int .i64 h1, .slice B1 M1 d1] 36) (Ext.alloc _ (.cells #[.int .i64 g2, .slice A2 L2 c2, .int .i64 h2, .slice B2 M2 d2] 36))) (Ext.alloc _ (.cells #[.int .i64 0, .slice none 0 0, .int .i64 0, .slice none 0 0, .int .i64 0, .slice none 0 0, .int .i64 0, .slice none 0 0] 38))); simpa only [World.size_alloc] using h5
  have bxb : BK w0 (w.heap.size + 1) 36 #[.int .i64 g2, .slice A2 L2 c2, .int .i64 h2, .slice B2 M2 d2] := by rw [hw0]; have h5 := (BK.ext (BK.new (w.alloc (.cells #[.int .i64 g1, .slice A1 L1 c1, .int .i64 h1, .slice B1 M1 d1] 36)) #[.int .i64 g2, .slice A2 L2 c2, .int .i64 h2, .slice B2 M2 d2] 36) (Ext.alloc _ (.cells #[.int .i64 0, .slice none 0 0, .int .i64 0, .slice none 0 0, .int .i64 0, .slice none 0 0, .int .i64 0, .slice none 0 0] 38))); simpa only [World.size_alloc] using h5
  have bxr : BK w0 (w.heap.size + 1 + 1) 38 #[.int .i64 0, .slice none 0 0, .int .i64 0, .slice none 0 0, .int .i64 0, .slice none 0 0, .int .i64 0, .slice none 0 0] := by rw [hw0]; have h5 := (BK.new ((w.alloc (.cells #[.int .i64 g1, .slice A1 L1 c1, .int .i64 h1, .slice B1 M1 d1] 36)).alloc (.cells #[.int .i64 g2, .slice A2 L2 c2, .int .i64 h2, .slice B2 M2 d2] 36)) #[.int .i64 0, .slice none 0 0, .int .i64 0, .slice none 0 0, .int .i64 0, .slice none 0 0, .int .i64 0, .slice none 0 0] 38); simpa only [World.size_alloc] using h5
  have hszw0 : w0.heap.size = w.heap.size + 1 + 1 + 1 := by rw [hw0]; simp only [World.size_alloc]
  have xw0 : Ext w w0 := by rw [hw0]; exact (((Ext.alloc _ _).trans (Ext.alloc _ _)).trans (Ext.alloc _ _))
  clear hw0
  refine (qcmp_k (h_1.ext (by with_reducible repeat' first | exact Ext.refl _ | assumption | apply Ext.alloc_r | apply Ext.drew_r | apply Ext.drewN_r | refine Ext.trans ?_ ‹Ext _ _›)) (h_2.ext (by with_reducible repeat' first | exact Ext.refl _ | assumption | apply Ext.alloc_r | apply Ext.drew_r | apply Ext.drewN_r | refine Ext.trans ?_ ‹Ext _ _›)) hK HK.out).mono ?_
  rintro e w1 ⟨rfl, x1⟩
  have szw1 : w0.heap.size ≤ w1.heap.size := x1.size
  replace bxa := bxa.ext x1
  replace bxb := bxb.ext x1
  replace bxr := bxr.ext x1
  have HA := Lib.hid (And.intro (h_1.ext (show Ext w w1 from (by with_reducible repeat' first | exact Ext.refl _ | assumption | apply Ext.alloc_r | apply Ext.drew_r | apply Ext.drewN_r | refine Ext.trans ?_ ‹Ext _ _›))) (h_2.ext (show Ext w w1 from (by with_reducible repeat' first | exact Ext.refl _ | assumption | apply Ext.alloc_r | apply Ext.drew_r | apply Ext.drewN_r | refine Ext.trans ?_ ‹Ext _ _›))))
  clear h_1 h_2
  have ka_0 := bxa.c 0 (.int .i64 g1) rfl
  have ka_1 := bxa.c 1 (.slice A1 L1 c1) rfl
  have ka_2 := bxa.c 2 (.int .i64 h1) rfl
  have ka_3 := bxa.c 3 (.slice B1 M1 d1) rfl
  have kb_0 := bxb.c 0 (.int .i64 g2) rfl
  have kb_1 := bxb.c 1 (.slice A2 L2 c2) rfl
  have kb_2 := bxb.c 2 (.int .i64 h2) rfl
  have kb_3 := bxb.c 3 (.slice B2 M2 d2) rfl
  have kr_0 := bxr.c 0 (.int .i64 0) rfl
  have fr_0 := bxr.f 0
  have kr_1 := bxr.c 1 (.slice none 0 0) rfl
  have fr_1 := bxr.f 1
  have kr_2 := bxr.c 2 (.int .i64 0) rfl
  have fr_2 := bxr.f 2
  have kr_3 := bxr.c 3 (.slice none 0 0) rfl
  have fr_3 := bxr.f 3
  have kr_4 := bxr.c 4 (.int .i64 0) rfl
  have fr_4 := bxr.f 4
  have kr_5 := bxr.c 5 (.slice none 0 0) rfl
  have fr_5 := bxr.f 5
  have kr_6 := bxr.c 6 (.int .i64 0) rfl
  have fr_6 := bxr.f 6
  have kr_7 := bxr.c 7 (.slice none 0 0) rfl
  have fr_7 := bxr.f 7
  go_wp2_with fail
  clear ka_0 ka_1 ka_2 ka_3 kb_0 kb_1 kb_2 kb_3 kr_0 fr_0 kr_1 fr_1 kr_2 fr_2 kr_3 fr_3 kr_4 fr_4 kr_5 fr_5 kr_6 fr_6 kr_7 fr_7
  have u := HA.out.1
  have v := HA.out.2
  clear HA
  obtain ⟨w2, hw⟩ : ∃ z : World, z = ((((((((w1.setCell ⟨w.heap.size + 1 + 1, 0, none⟩ (.int .i64 g1)).setCell ⟨w.heap.size + 1 + 1, 1, none⟩ (.slice A1 L1 c1)).setCell ⟨w.heap.size + 1 + 1, 2, none⟩ (.int .i64 h1)).setCell ⟨w.heap.size + 1 + 1, 3, none⟩ (.slice B1 M1 d1)).setCell ⟨w.heap.size + 1 + 1, 4, none⟩ (.int .i64 g2)).setCell ⟨w.heap.size + 1 + 1, 5, none⟩ (.slice A2 L2 c2)).setCell ⟨w.heap.size + 1 + 1, 6, none⟩ (.int .i64 h2)).setCell ⟨w.heap.size + 1 + 1, 7, none⟩ (.slice B2 M2 d2)) := ⟨_, rfl⟩
  rw [← hw]
  have kw2 : Kept w1 w2 := by rw [hw]; exact (Kept.set_ (Kept.set_ (Kept.set_ (Kept.set_ (Kept.set_ (Kept.set_ (Kept.set_ (Kept.set_ (Kept.refl _) bxr.isBox plain_J) (IsBox.set_ bxr.isBox) plain_J) (IsBox.set_ (IsBox.set_ bxr.isBox)) plain_J) (IsBox.set_ (IsBox.set_ (IsBox.set_ bxr.isBox))) plain_J) (IsBox.set_ (IsBox.set_ (IsBox.set_ (IsBox.set_ bxr.isBox)))) plain_J) (IsBox.set_ (IsBox.set_ (IsBox.set_ (IsBox.set_ (IsBox.set_ bxr.isBox))))) plain_J) (IsBox.set_ (IsBox.set_ (IsBox.set_ (IsBox.set_ (IsBox.set_ (IsBox.set_ bxr.isBox)))))) plain_J) (IsBox.set_ (IsBox.set_ (IsBox.set_ (IsBox.set_ (IsBox.set_ (IsBox.set_ (IsBox.set_ bxr.isBox))))))) plain_J)
  have nba : BK w2 (w.heap.size) 36 #[.int .i64 g1, .slice A1 L1 c1, .int .i64 h1, .slice B1 M1 d1] := by rw [hw]; exact (BK.far (BK.far (BK.far (BK.far (BK.far (BK.far (BK.far (BK.far bxa (show w.heap.size ≠ w.heap.size + 1 + 1 by omega) 0 _) (show w.heap.size ≠ w.heap.size + 1 + 1 by omega) 1 _) (show w.heap.size ≠ w.heap.size + 1 + 1 by omega) 2 _) (show w.heap.size ≠ w.heap.size + 1 + 1 by omega) 3 _) (show w.heap.size ≠ w.heap.size + 1 + 1 by omega) 4 _) (show w.heap.size ≠ w.heap.size + 1 + 1 by omega) 5 _) (show w.heap.size ≠ w.heap.size + 1 + 1 by omega) 6 _) (show w.heap.size ≠ w.heap.size + 1 + 1 by omega) 7 _)
  have nbb : BK w2 (w.heap.size + 1) 36 #[.int .i64 g2, .slice A2 L2 c2, .int .i64 h2, .slice B2 M2 d2] := by rw [hw]; exact (BK.far (BK.far (BK.far (BK.far (BK.far (BK.far (BK.far (BK.far bxb (show w.heap.size + 1 ≠ w.heap.size + 1 + 1 by omega) 0 _) (show w.heap.size + 1 ≠ w.heap.size + 1 + 1 by omega) 1 _) (show w.heap.size + 1 ≠ w.heap.size + 1 + 1 by omega) 2 _) (show w.heap.size + 1 ≠ w.heap.size + 1 + 1 by omega) 3 _) (show w.heap.size + 1 ≠ w.heap.size + 1 + 1 by omega) 4 _) (show w.heap.size + 1 ≠ w.heap.size + 1 + 1 by omega) 5 _) (show w.heap.size + 1 ≠ w.heap.size + 1 + 1 by omega) 6 _) (show w.heap.size + 1 ≠ w.heap.size + 1 + 1 by omega) 7 _)
  have nbr : BK w2 (w.heap.size + 1 + 1) 38 #[.int .i64 g1, .slice A1 L1 c1, .int .i64 h1, .slice B1 M1 d1, .int .i64 g2, .slice A2 L2 c2, .int .i64 h2, .slice B2 M2 d2] := by rw [hw]; exact (BK.set (i := 7) (u := .slice B2 M2 d2) (vs' := #[.int .i64 g1, .slice A1 L1 c1, .int .i64 h1, .slice B1 M1 d1, .int .i64 g2, .slice A2 L2 c2, .int .i64 h2, .slice B2 M2 d2]) (BK.set (i := 6) (u := .int .i64 h2) (vs' := #[.int .i64 g1, .slice A1 L1 c1, .int .i64 h1, .slice B1 M1 d1, .int .i64 g2, .slice A2 L2 c2, .int .i64 h2, .slice none 0 0]) (BK.set (i := 5) (u := .slice A2 L2 c2) (vs' := #[.int .i64 g1, .slice A1 L1 c1, .int .i64 h1, .slice B1 M1 d1, .int .i64 g2, .slice A2 L2 c2, .int .i64 0, .slice none 0 0]) (BK.set (i := 4) (u := .int .i64 g2) (vs' := #[.int .i64 g1, .slice A1 L1 c1, .int .i64 h1, .slice B1 M1 d1, .int .i64 g2, .slice none 0 0, .int .i64 0, .slice none 0 0]) (BK.set (i := 3) (u := .slice B1 M1 d1) (vs' := #[.int .i64 g1, .slice A1 L1 c1, .int .i64 h1, .slice B1 M1 d1, .int .i64 0, .slice none 0 0, .int .i64 0, .slice none 0 0]) (BK.set (i := 2) (u := .int .i64 h1) (vs' := #[.int .i64 g1, .slice A1 L1 c1, .int .i64 h1, .slice none 0 0, .int .i64 0, .slice none 0 0, .int .i64 0, .slice none 0 0]) (BK.set (i := 1) (u := .slice A1 L1 c1) (vs' := #[.int .i64 g1, .slice A1 L1 c1, .int .i64 0, .slice none 0 0, .int .i64 0, .slice none 0 0, .int .i64 0, .slice none 0 0]) (BK.set (i := 0) (u := .int .i64 g1) (vs' := #[.int .i64 g1, .slice none 0 0, .int .i64 0, .slice none 0 0, .int .i64 0, .slice none 0 0, .int .i64 0, .slice none 0 0]) bxr rfl) rfl) rfl) rfl) rfl) rfl) rfl) rfl)
  have x2 : Ext w w2 := by rw [hw]; have hxp : Ext w w1 := (by with_reducible repeat' first | exact Ext.refl _ | assumption | apply Ext.alloc_r | apply Ext.drew_r | apply Ext.drewN_r | refine Ext.trans ?_ ‹Ext _ _›); exact (Ext.set_ (Ext.set_ (Ext.set_ (Ext.set_ (Ext.set_ (Ext.set_ (Ext.set_ (Ext.set_ hxp (show _ ≤ w.heap.size + 1 + 1 by omega)) (show _ ≤ w.heap.size + 1 + 1 by omega)) (show _ ≤ w.heap.size + 1 + 1 by omega)) (show _ ≤ w.heap.size + 1 + 1 by omega)) (show _ ≤ w.heap.size + 1 + 1 by omega)) (show _ ≤ w.heap.size + 1 + 1 by omega)) (show _ ≤ w.heap.size + 1 + 1 by omega)) (show _ ≤ w.heap.size + 1 + 1 by omega))
  clear bxa
  clear bxb
  clear bxr
  have bxa := nba
  clear nba
  have bxb := nbb
  clear nbb
  have bxr := nbr
  clear nbr
  have szw2 : w2.heap.size = w1.heap.size := by rw [hw]; simp
  replace u := (u.ext (by with_reducible repeat' first | exact Ext.refl _ | assumption | apply Ext.alloc_r | apply Ext.drew_r | apply Ext.drewN_r | refine Ext.trans ?_ ‹Ext _ _›)).kept kw2
  replace v := (v.ext (by with_reducible repeat' first | exact Ext.refl _ | assumption | apply Ext.alloc_r | apply Ext.drew_r | apply Ext.drewN_r | refine Ext.trans ?_ ‹Ext _ _›)).kept kw2
  clear hw kw2
  have HU := Lib.hid u
  have HV := Lib.hid v
  clear u v
  have kr_0 := bxr.c 0 (.int .i64 g1) rfl
  have kr_1 := bxr.c 1 (.slice A1 L1 c1) rfl
  have kr_2 := bxr.c 2 (.int .i64 h1) rfl
  have kr_3 := bxr.c 3 (.slice B1 M1 d1) rfl
  have kr_4 := bxr.c 4 (.int .i64 g2) rfl
  have kr_5 := bxr.c 5 (.slice A2 L2 c2) rfl
  have kr_6 := bxr.c 6 (.int .i64 h2) rfl
  have kr_7 := bxr.c 7 (.slice B2 M2 d2) rfl
  refine bodyPost_ret (v := Value.agg #[Value.int IntKind.i64 g1, Value.slice A1 L1 c1, Value.int IntKind.i64 h1, Value.slice B1 M1 d1, Value.int IntKind.i64 g2, Value.slice A2 L2 c2, Value.int IntKind.i64 h2, Value.slice B2 M2 d2]) (by simp [results, Tryz.results47, go_sem, kr_0, kr_1, kr_2, kr_3, kr_4, kr_5, kr_6, kr_7]) rfl ?_
  exact ⟨_, _, _, _, _, _, _, _, _, _, _, _, _, _, _, _, rfl, by rw [HLO.out.1]; exact HU.out, by rw [HLO.out.2]; exact HV.out, x2⟩
theorem jmake_r {w : World} {K : Nat} {g1 h1 g2 h2 : Int} {A1 B1 A2 B2 : Option Addr} {c1 d1 L1 M1 c2 d2 L2 M2 : Nat} {q1 q2 : Rat} (h_1 : QR w g1 A1 c1 L1 h1 B1 d1 M1 K q1) (h_2 : QR w g2 A2 c2 L2 h2 B2 d2 M2 K q2) (hK : K ≤ 100000000) :
    Calls Tryz.prog 47 #[Value.agg #[Value.int IntKind.i64 g1, Value.slice A1 L1 c1, Value.int IntKind.i64 h1, Value.slice B1 M1 d1], Value.agg #[Value.int IntKind.i64 g2, Value.slice A2 L2 c2, Value.int IntKind.i64 h2, Value.slice B2 M2 d2]] w (RetJ w K (minQ q1 q2) (maxQ q1 q2)) := by
  rcases Rat.le_total (a := q1) (b := q2) with h | h
  · exact jmake_le h_1 h_2 hK h
  · rcases Rat.le_iff_lt_or_eq.1 h with h | h
    · exact jmake_gt h_1 h_2 hK h
    · exact jmake_le h_1 h_2 hK (by rw [h]; exact Rat.le_refl)
set_option maxHeartbeats 4000000 in
set_option maxRecDepth 100000 in
theorem jpoint_r {w : World} {K : Nat} {g1 h1 : Int} {A1 B1 : Option Addr} {c1 d1 L1 M1 : Nat} {q1 : Rat} (h_1 : QR w g1 A1 c1 L1 h1 B1 d1 M1 K q1) :
    Calls Tryz.prog 30 #[Value.agg #[Value.int IntKind.i64 g1, Value.slice A1 L1 c1, Value.int IntKind.i64 h1, Value.slice B1 M1 d1]] w (RetJ w K q1 q1) := by
  have hx : Ext w ((w.alloc (.cells #[.int .i64 g1, .slice A1 L1 c1, .int .i64 h1, .slice B1 M1 d1] 36)).alloc (.cells #[.int .i64 g1, .slice A1 L1 c1, .int .i64 h1, .slice B1 M1 d1, .int .i64 g1, .slice A1 L1 c1, .int .i64 h1, .slice B1 M1 d1] 38)) := (Ext.alloc _ _).trans (Ext.alloc _ _)
  have HU := Lib.hid (h_1.ext hx)
  have HX := Lib.hid hx
  clear hx h_1
  go_enter Tryz.func30, Tryz.ntmps30
  go_wp2_with fail
  refine bodyPost_ret (v := Value.agg #[Value.int IntKind.i64 g1, Value.slice A1 L1 c1, Value.int IntKind.i64 h1, Value.slice B1 M1 d1, Value.int IntKind.i64 g1, Value.slice A1 L1 c1, Value.int IntKind.i64 h1, Value.slice B1 M1 d1]) (by simp [results, Tryz.results30, go_sem]) rfl ?_
  exact ⟨_, _, _, _, _, _, _, _, _, _, _, _, _, _, _, _, rfl, HU.out, HU.out, HX.out⟩
set_option maxHeartbeats 4000000 in
set_option maxRecDepth 100000 in
theorem jcontains_yes {w : World} {K : Nat} {g1 h1 g2 h2 g3 h3 : Int} {A1 B1 A2 B2 A3 B3 : Option Addr} {c1 d1 L1 M1 c2 d2 L2 M2 c3 d3 L3 M3 : Nat} {q1 q2 q3 : Rat} (h_1 : QR w g1 A1 c1 L1 h1 B1 d1 M1 K q1) (h_2 : QR w g2 A2 c2 L2 h2 B2 d2 M2 K q2) (h_3 : QR w g3 A3 c3 L3 h3 B3 d3 M3 K q3) (hK : K ≤ 100000000) (hq : q1 ≤ q3) (hr : q3 ≤ q2) :
    Calls Tryz.prog 21 #[Value.agg #[Value.int IntKind.i64 g1, Value.slice A1 L1 c1, Value.int IntKind.i64 h1, Value.slice B1 M1 d1, Value.int IntKind.i64 g2, Value.slice A2 L2 c2, Value.int IntKind.i64 h2, Value.slice B2 M2 d2], Value.agg #[Value.int IntKind.i64 g3, Value.slice A3 L3 c3, Value.int IntKind.i64 h3, Value.slice B3 M3 d3]] w fun e w' => e = .returned (.bool true) ∧ Ext w w' := by
  obtain ⟨k, hk0⟩ : ∃ k : Int, k = cmpQ q1 q3 := ⟨_, rfl⟩
  have hk : k ≤ 0 := by rw [hk0]; exact (cmpQ_le _ _).2 hq
  have HK := Lib.hid hk0.symm
  clear hk0 hq
  obtain ⟨j, hj0⟩ : ∃ j : Int, j = cmpQ q3 q2 := ⟨_, rfl⟩
  have hj : j ≤ 0 := by rw [hj0]; exact (cmpQ_le _ _).2 hr
  have HJ := Lib.hid hj0.symm
  clear hj0 hr
  go_enter Tryz.func21, Tryz.ntmps21
  go_wp2_with fail
  obtain ⟨w0, hw0⟩ : ∃ z : World, z = ((w.alloc (.cells #[.int .i64 g1, .slice A1 L1 c1, .int .i64 h1, .slice B1 M1 d1, .int .i64 g2, .slice A2 L2 c2, .int .i64 h2, .slice B2 M2 d2] 38)).alloc (.cells #[.int .i64 g3, .slice A3 L3 c3, .int .i64 h3, .slice B3 M3 d3] 36)) := ⟨_, rfl⟩
  rw [← hw0]
  have bxi : BK w0 (w.heap.size) 38 #[.int .i64 g1, .slice A1 L1 c1, .int .i64 h1, .slice B1 M1 d1, .int .i64 g2, .slice A2 L2 c2, .int .i64 h2, .slice B2 M2 d2] := by rw [hw0]; have h5 := (BK.ext (BK.new w #[.int .i64 g1, .slice A1 L1 c1, .int .i64 h1, .slice B1 M1 d1, .int .i64 g2, .slice A2 L2 c2, .int .i64 h2, .slice B2 M2 d2] 38) (Ext.alloc _ (.cells #[.int .i64 g3, .slice A3 L3 c3, .int .i64 h3, .slice B3 M3 d3] 36))); simpa only [World.size_alloc] using h5
  have bxa : BK w0 (w.heap.size + 1) 36 #[.int .i64 g3, .slice A3 L3 c3, .int .i64 h3, .slice B3 M3 d3] := by rw [hw0]; have h5 := (BK.new (w.alloc (.cells #[.int .i64 g1, .slice A1 L1 c1, .int .i64 h1, .slice B1 M1 d1, .int .i64 g2, .slice A2 L2 c2, .int .i64 h2, .slice B2 M2 d2] 38)) #[.int .i64 g3, .slice A3 L3 c3, .int .i64 h3, .slice B3 M3 d3] 36); simpa only [World.size_alloc] using h5
  have hszw0 : w0.heap.size = w.heap.size + 1 + 1 := by rw [hw0]; simp only [World.size_alloc]
  have xw0 : Ext w w0 := by rw [hw0]; exact ((Ext.alloc _ _).trans (Ext.alloc _ _))
  clear hw0
  refine (qcmp_k (h_1.ext (by with_reducible repeat' first | exact Ext.refl _ | assumption | apply Ext.alloc_r | apply Ext.drew_r | apply Ext.drewN_r | refine Ext.trans ?_ ‹Ext _ _›)) (h_3.ext (by with_reducible repeat' first | exact Ext.refl _ | assumption | apply Ext.alloc_r | apply Ext.drew_r | apply Ext.drewN_r | refine Ext.trans ?_ ‹Ext _ _›)) hK HK.out).mono ?_
  rintro e w1 ⟨rfl, x1⟩
  have szw1 : w0.heap.size ≤ w1.heap.size := x1.size
  replace bxi := bxi.ext x1
  replace bxa := bxa.ext x1
  have ki_0 := bxi.c 0 (.int .i64 g1) rfl
  have ki_1 := bxi.c 1 (.slice A1 L1 c1) rfl
  have ki_2 := bxi.c 2 (.int .i64 h1) rfl
  have ki_3 := bxi.c 3 (.slice B1 M1 d1) rfl
  have ki_4 := bxi.c 4 (.int .i64 g2) rfl
  have ki_5 := bxi.c 5 (.slice A2 L2 c2) rfl
  have ki_6 := bxi.c 6 (.int .i64 h2) rfl
  have ki_7 := bxi.c 7 (.slice B2 M2 d2) rfl
  have ka_0 := bxa.c 0 (.int .i64 g3) rfl
  have ka_1 := bxa.c 1 (.slice A3 L3 c3) rfl
  have ka_2 := bxa.c 2 (.int .i64 h3) rfl
  have ka_3 := bxa.c 3 (.slice B3 M3 d3) rfl
  go_wp2_with fail
  clear ki_0 ki_1 ki_2 ki_3 ki_4 ki_5 ki_6 ki_7 ka_0 ka_1 ka_2 ka_3
  refine (qcmp_k (h_3.ext (by with_reducible repeat' first | exact Ext.refl _ | assumption | apply Ext.alloc_r | apply Ext.drew_r | apply Ext.drewN_r | refine Ext.trans ?_ ‹Ext _ _›)) (h_2.ext (by with_reducible repeat' first | exact Ext.refl _ | assumption | apply Ext.alloc_r | apply Ext.drew_r | apply Ext.drewN_r | refine Ext.trans ?_ ‹Ext _ _›)) hK HJ.out).mono ?_
  rintro e w2 ⟨rfl, x2⟩
  have szw2 : w1.heap.size ≤ w2.heap.size := x2.size
  replace bxi := bxi.ext x2
  replace bxa := bxa.ext x2
  have hjd : decide (j ≤ 0) = true := decide_eq_true (by omega)
  have x0w : Ext w w2 := (by with_reducible repeat' first | exact Ext.refl _ | assumption | apply Ext.alloc_r | apply Ext.drew_r | apply Ext.drewN_r | refine Ext.trans ?_ ‹Ext _ _›)
  have ki_0 := bxi.c 0 (.int .i64 g1) rfl
  have ki_1 := bxi.c 1 (.slice A1 L1 c1) rfl
  have ki_2 := bxi.c 2 (.int .i64 h1) rfl
  have ki_3 := bxi.c 3 (.slice B1 M1 d1) rfl
  have ki_4 := bxi.c 4 (.int .i64 g2) rfl
  have ki_5 := bxi.c 5 (.slice A2 L2 c2) rfl
  have ki_6 := bxi.c 6 (.int .i64 h2) rfl
  have ki_7 := bxi.c 7 (.slice B2 M2 d2) rfl
  have ka_0 := bxa.c 0 (.int .i64 g3) rfl
  have ka_1 := bxa.c 1 (.slice A3 L3 c3) rfl
  have ka_2 := bxa.c 2 (.int .i64 h3) rfl
  have ka_3 := bxa.c 3 (.slice B3 M3 d3) rfl
  go_wp2_with fail
  clear ki_0 ki_1 ki_2 ki_3 ki_4 ki_5 ki_6 ki_7 ka_0 ka_1 ka_2 ka_3
  go_ret
  exact ⟨rfl, x0w⟩
set_option maxHeartbeats 4000000 in
set_option maxRecDepth 100000 in
theorem jcontains_no2 {w : World} {K : Nat} {g1 h1 g2 h2 g3 h3 : Int} {A1 B1 A2 B2 A3 B3 : Option Addr} {c1 d1 L1 M1 c2 d2 L2 M2 c3 d3 L3 M3 : Nat} {q1 q2 q3 : Rat} (h_1 : QR w g1 A1 c1 L1 h1 B1 d1 M1 K q1) (h_2 : QR w g2 A2 c2 L2 h2 B2 d2 M2 K q2) (h_3 : QR w g3 A3 c3 L3 h3 B3 d3 M3 K q3) (hK : K ≤ 100000000) (hq : q1 ≤ q3) (hr : ¬ q3 ≤ q2) :
    Calls Tryz.prog 21 #[Value.agg #[Value.int IntKind.i64 g1, Value.slice A1 L1 c1, Value.int IntKind.i64 h1, Value.slice B1 M1 d1, Value.int IntKind.i64 g2, Value.slice A2 L2 c2, Value.int IntKind.i64 h2, Value.slice B2 M2 d2], Value.agg #[Value.int IntKind.i64 g3, Value.slice A3 L3 c3, Value.int IntKind.i64 h3, Value.slice B3 M3 d3]] w fun e w' => e = .returned (.bool false) ∧ Ext w w' := by
  obtain ⟨k, hk0⟩ : ∃ k : Int, k = cmpQ q1 q3 := ⟨_, rfl⟩
  have hk : k ≤ 0 := by rw [hk0]; exact (cmpQ_le _ _).2 hq
  have HK := Lib.hid hk0.symm
  clear hk0 hq
  obtain ⟨j, hj0⟩ : ∃ j : Int, j = cmpQ q3 q2 := ⟨_, rfl⟩
  have hj : ¬ j ≤ 0 := by rw [hj0]; exact fun h => hr ((cmpQ_le _ _).1 h)
  have HJ := Lib.hid hj0.symm
  clear hj0 hr
  go_enter Tryz.func21, Tryz.ntmps21
  go_wp2_with fail
  obtain ⟨w0, hw0⟩ : ∃ z : World, z = ((w.alloc (.cells #[.int .i64 g1, .slice A1 L1 c1, .int .i64 h1, .slice B1 M1 d1, .int .i64 g2, .slice A2 L2 c2, .int .i64 h2, .slice B2 M2 d2] 38)).alloc (.cells #[.int .i64 g3, .slice A3 L3 c3, .int .i64 h3, .slice B3 M3 d3] 36)) := ⟨_, rfl⟩
  rw [← hw0]
  have bxi : BK w0 (w.heap.size) 38 #[.int .i64 g1, .slice A1 L1 c1, .int .i64 h1, .slice B1 M1 d1, .int .i64 g2, .slice A2 L2 c2, .int .i64 h2, .slice B2 M2 d2] := by rw [hw0]; have h5 := (BK.ext (BK.new w #[.int .i64 g1, .slice A1 L1 c1, .int .i64 h1, .slice B1 M1 d1, .int .i64 g2, .slice A2 L2 c2, .int .i64 h2, .slice B2 M2 d2] 38) (Ext.alloc _ (.cells #[.int .i64 g3, .slice A3 L3 c3, .int .i64 h3, .slice B3 M3 d3] 36))); simpa only [World.size_alloc] using h5
  have bxa : BK w0 (w.heap.size + 1) 36 #[.int .i64 g3, .slice A3 L3 c3, .int .i64 h3, .slice B3 M3 d3] := by rw [hw0]; have h5 := (BK.new (w.alloc (.cells #[.int .i64 g1, .slice A1 L1 c1, .int .i64 h1, .slice B1 M1 d1, .int .i64 g2, .slice A2 L2 c2, .int .i64 h2, .slice B2 M2 d2] 38)) #[.int .i64 g3, .slice A3 L3 c3, .int .i64 h3, .slice B3 M3 d3] 36); simpa only [World.size_alloc] using h5
  have hszw0 : w0.heap.size = w.heap.size + 1 + 1 := by rw [hw0]; simp only [World.size_alloc]
  have xw0 : Ext w w0 := by rw [hw0]; exact ((Ext.alloc _ _).trans (Ext.alloc _ _))
  clear hw0
  refine (qcmp_k (h_1.ext (by with_reducible repeat' first | exact Ext.refl _ | assumption | apply Ext.alloc_r | apply Ext.drew_r | apply Ext.drewN_r | refine Ext.trans ?_ ‹Ext _ _›)) (h_3.ext (by with_reducible repeat' first | exact Ext.refl _ | assumption | apply Ext.alloc_r | apply Ext.drew_r | apply Ext.drewN_r | refine Ext.trans ?_ ‹Ext _ _›)) hK HK.out).mono ?_
  rintro e w1 ⟨rfl, x1⟩
  have szw1 : w0.heap.size ≤ w1.heap.size := x1.size
  replace bxi := bxi.ext x1
  replace bxa := bxa.ext x1
  have ki_0 := bxi.c 0 (.int .i64 g1) rfl
  have ki_1 := bxi.c 1 (.slice A1 L1 c1) rfl
  have ki_2 := bxi.c 2 (.int .i64 h1) rfl
  have ki_3 := bxi.c 3 (.slice B1 M1 d1) rfl
  have ki_4 := bxi.c 4 (.int .i64 g2) rfl
  have ki_5 := bxi.c 5 (.slice A2 L2 c2) rfl
  have ki_6 := bxi.c 6 (.int .i64 h2) rfl
  have ki_7 := bxi.c 7 (.slice B2 M2 d2) rfl
  have ka_0 := bxa.c 0 (.int .i64 g3) rfl
  have ka_1 := bxa.c 1 (.slice A3 L3 c3) rfl
  have ka_2 := bxa.c 2 (.int .i64 h3) rfl
  have ka_3 := bxa.c 3 (.slice B3 M3 d3) rfl
  go_wp2_with fail
  clear ki_0 ki_1 ki_2 ki_3 ki_4 ki_5 ki_6 ki_7 ka_0 ka_1 ka_2 ka_3
  refine (qcmp_k (h_3.ext (by with_reducible repeat' first | exact Ext.refl _ | assumption | apply Ext.alloc_r | apply Ext.drew_r | apply Ext.drewN_r | refine Ext.trans ?_ ‹Ext _ _›)) (h_2.ext (by with_reducible repeat' first | exact Ext.refl _ | assumption | apply Ext.alloc_r | apply Ext.drew_r | apply Ext.drewN_r | refine Ext.trans ?_ ‹Ext _ _›)) hK HJ.out).mono ?_
  rintro e w2 ⟨rfl, x2⟩
  have szw2 : w1.heap.size ≤ w2.heap.size := x2.size
  replace bxi := bxi.ext x2
  replace bxa := bxa.ext x2
  have hjd : decide (j ≤ 0) = false := decide_eq_false (by omega)
  have x0w : Ext w w2 := (by with_reducible repeat' first | exact Ext.refl _ | assumption | apply Ext.alloc_r | apply Ext.drew_r | apply Ext.drewN_r | refine Ext.trans ?_ ‹Ext _ _›)
  have ki_0 := bxi.c 0 (.int .i64 g1) rfl
  have ki_1 := bxi.c 1 (.slice A1 L1 c1) rfl
  have ki_2 := bxi.c 2 (.int .i64 h1) rfl
  have ki_3 := bxi.c 3 (.slice B1 M1 d1) rfl
  have ki_4 := bxi.c 4 (.int .i64 g2) rfl
  have ki_5 := bxi.c 5 (.slice A2 L2 c2) rfl
  have ki_6 := bxi.c 6 (.int .i64 h2) rfl
  have ki_7 := bxi.c 7 (.slice B2 M2 d2) rfl
  have ka_0 := bxa.c 0 (.int .i64 g3) rfl
  have ka_1 := bxa.c 1 (.slice A3 L3 c3) rfl
  have ka_2 := bxa.c 2 (.int .i64 h3) rfl
  have ka_3 := bxa.c 3 (.slice B3 M3 d3) rfl
  go_wp2_with fail
  clear ki_0 ki_1 ki_2 ki_3 ki_4 ki_5 ki_6 ki_7 ka_0 ka_1 ka_2 ka_3
  go_ret
  exact ⟨rfl, x0w⟩
set_option maxHeartbeats 4000000 in
set_option maxRecDepth 100000 in
theorem jcontains_no1 {w : World} {K : Nat} {g1 h1 g2 h2 g3 h3 : Int} {A1 B1 A2 B2 A3 B3 : Option Addr} {c1 d1 L1 M1 c2 d2 L2 M2 c3 d3 L3 M3 : Nat} {q1 q3 : Rat} (h_1 : QR w g1 A1 c1 L1 h1 B1 d1 M1 K q1) (h_3 : QR w g3 A3 c3 L3 h3 B3 d3 M3 K q3) (hK : K ≤ 100000000) (hq : ¬ q1 ≤ q3) :
    Calls Tryz.prog 21 #[Value.agg #[Value.int IntKind.i64 g1, Value.slice A1 L1 c1, Value.int IntKind.i64 h1, Value.slice B1 M1 d1, Value.int IntKind.i64 g2, Value.slice A2 L2 c2, Value.int IntKind.i64 h2, Value.slice B2 M2 d2], Value.agg #[Value.int IntKind.i64 g3, Value.slice A3 L3 c3, Value.int IntKind.i64 h3, Value.slice B3 M3 d3]] w fun e w' => e = .returned (.bool false) ∧ Ext w w' := by
  obtain ⟨k, hk0⟩ : ∃ k : Int, k = cmpQ q1 q3 := ⟨_, rfl⟩
  have hk : ¬ k ≤ 0 := by rw [hk0]; exact fun h => hq ((cmpQ_le _ _).1 h)
  have HK := Lib.hid hk0.symm
  clear hk0 hq
  go_enter Tryz.func21, Tryz.ntmps21
  go_wp2_with fail
  obtain ⟨w0, hw0⟩ : ∃ z : World, z = ((w.alloc (.cells #[.int .i64 g1, .slice A1 L1 c1, .int .i64 h1, .slice B1 M1 d1, .int .i64 g2, .slice A2 L2 c2, .int .i64 h2, .slice B2 M2 d2] 38)).alloc (.cells #[.int .i64 g3, .slice A3 L3 c3, .int .i64 h3, .slice B3 M3 d3] 36)) := ⟨_, rfl⟩
  rw [← hw0]
  have bxi : BK w0 (w.heap.size) 38 #[.int .i64 g1, .slice A1 L1 c1, .int .i64 h1, .slice B1 M1 d1, .int .i64 g2, .slice A2 L2 c2, .int .i64 h2, .slice B2 M2 d2] := by rw [hw0]; have h5 := (BK.ext (BK.new w #[.int .i64 g1, .slice A1 L1 c1, .int .i64 h1, .slice B1 M1 d1, .int .i64 g2, .slice A2 L2 c2, .int .i64 h2, .slice B2 M2 d2] 38) (Ext.alloc _ (.cells #[.int .i64 g3, .slice A3 L3 c3, .int .i64 h3, .slice B3 M3 d3] 36))); simpa only [World.size_alloc] using h5
  have bxa : BK w0 (w.heap.size + 1) 36 #[.int .i64 g3, .slice A3 L3 c3, .int .i64 h3, .slice B3 M3 d3] := by rw [hw0]; have h5 := (BK.new (w.alloc (.cells #[.int .i64 g1, .slice A1 L1 c1, .int .i64 h1, .slice B1 M1 d1, .int .i64 g2, .slice A2 L2 c2, .int .i64 h2, .slice B2 M2 d2] 38)) #[.int .i64 g3, .slice A3 L3 c3, .int .i64 h3, .slice B3 M3 d3] 36); simpa only [World.size_alloc] using h5
  have hszw0 : w0.heap.size = w.heap.size + 1 + 1 := by rw [hw0]; simp only [World.size_alloc]
  have xw0 : Ext w w0 := by rw [hw0]; exact ((Ext.alloc _ _).trans (Ext.alloc _ _))
  clear hw0
  refine (qcmp_k (h_1.ext (by with_reducible repeat' first | exact Ext.refl _ | assumption | apply Ext.alloc_r | apply Ext.drew_r | apply Ext.drewN_r | refine Ext.trans ?_ ‹Ext _ _›)) (h_3.ext (by with_reducible repeat' first | exact Ext.refl _ | assumption | apply Ext.alloc_r | apply Ext.drew_r | apply Ext.drewN_r | refine Ext.trans ?_ ‹Ext _ _›)) hK HK.out).mono ?_
  rintro e w1 ⟨rfl, x1⟩
  have szw1 : w0.heap.size ≤ w1.heap.size := x1.size
  replace bxi := bxi.ext x1
  replace bxa := bxa.ext x1
  have x0w : Ext w w1 := (by with_reducible repeat' first | exact Ext.refl _ | assumption | apply Ext.alloc_r | apply Ext.drew_r | apply Ext.drewN_r | refine Ext.trans ?_ ‹Ext _ _›)
  have ki_0 := bxi.c 0 (.int .i64 g1) rfl
  have ki_1 := bxi.c 1 (.slice A1 L1 c1) rfl
  have ki_2 := bxi.c 2 (.int .i64 h1) rfl
  have ki_3 := bxi.c 3 (.slice B1 M1 d1) rfl
  have ki_4 := bxi.c 4 (.int .i64 g2) rfl
  have ki_5 := bxi.c 5 (.slice A2 L2 c2) rfl
  have ki_6 := bxi.c 6 (.int .i64 h2) rfl
  have ki_7 := bxi.c 7 (.slice B2 M2 d2) rfl
  have ka_0 := bxa.c 0 (.int .i64 g3) rfl
  have ka_1 := bxa.c 1 (.slice A3 L3 c3) rfl
  have ka_2 := bxa.c 2 (.int .i64 h3) rfl
  have ka_3 := bxa.c 3 (.slice B3 M3 d3) rfl
  go_wp2_with fail
  clear ki_0 ki_1 ki_2 ki_3 ki_4 ki_5 ki_6 ki_7 ka_0 ka_1 ka_2 ka_3
  go_ret
  exact ⟨rfl, x0w⟩
theorem jcontains_r {w : World} {K : Nat} {g1 h1 g2 h2 g3 h3 : Int} {A1 B1 A2 B2 A3 B3 : Option Addr} {c1 d1 L1 M1 c2 d2 L2 M2 c3 d3 L3 M3 : Nat} {q1 q2 q3 : Rat} (h_1 : QR w g1 A1 c1 L1 h1 B1 d1 M1 K q1) (h_2 : QR w g2 A2 c2 L2 h2 B2 d2 M2 K q2) (h_3 : QR w g3 A3 c3 L3 h3 B3 d3 M3 K q3) (hK : K ≤ 100000000) :
    Calls Tryz.prog 21 #[Value.agg #[Value.int IntKind.i64 g1, Value.slice A1 L1 c1, Value.int IntKind.i64 h1, Value.slice B1 M1 d1, Value.int IntKind.i64 g2, Value.slice A2 L2 c2, Value.int IntKind.i64 h2, Value.slice B2 M2 d2], Value.agg #[Value.int IntKind.i64 g3, Value.slice A3 L3 c3, Value.int IntKind.i64 h3, Value.slice B3 M3 d3]] w fun e w' => e = .returned (.bool (decide (q1 ≤ q3 ∧ q3 ≤ q2))) ∧ Ext w w' := by
  by_cases h : q1 ≤ q3
  · by_cases h' : q3 ≤ q2
    · rw [decide_eq_true (And.intro h h')]; exact jcontains_yes h_1 h_2 h_3 hK h h'
    · rw [decide_eq_false (fun z => h' z.2)]; exact jcontains_no2 h_1 h_2 h_3 hK h h'
  · rw [decide_eq_false (fun z => h z.1)]; exact jcontains_no1 h_1 h_3 hK h
theorem jcontains_is {w : World} {K : Nat} {b : Bool} {g1 h1 g2 h2 g3 h3 : Int} {A1 B1 A2 B2 A3 B3 : Option Addr} {c1 d1 L1 M1 c2 d2 L2 M2 c3 d3 L3 M3 : Nat} {q1 q2 q3 : Rat} (h_1 : QR w g1 A1 c1 L1 h1 B1 d1 M1 K q1) (h_2 : QR w g2 A2 c2 L2 h2 B2 d2 M2 K q2) (h_3 : QR w g3 A3 c3 L3 h3 B3 d3 M3 K q3) (hK : K ≤ 100000000) (e : decide (q1 ≤ q3 ∧ q3 ≤ q2) = b) :
    Calls Tryz.prog 21 #[Value.agg #[Value.int IntKind.i64 g1, Value.slice A1 L1 c1, Value.int IntKind.i64 h1, Value.slice B1 M1 d1, Value.int IntKind.i64 g2, Value.slice A2 L2 c2, Value.int IntKind.i64 h2, Value.slice B2 M2 d2], Value.agg #[Value.int IntKind.i64 g3, Value.slice A3 L3 c3, Value.int IntKind.i64 h3, Value.slice B3 M3 d3]] w fun e w' => e = .returned (.bool b) ∧ Ext w w' := by rw [← e]; exact jcontains_r h_1 h_2 h_3 hK
end Go.Proofs.YtehhkeenjlpikaaGreat
