/- The laws' helpers of and is of chapter 05. -/
import Derived.Test.YtfnmbhjifdfibaaSpLaw5
import Derived.Test.YtfnmbhjifdfibaaSpRef5
import Derived.Deep.RegionHeldLaw
import Derived.Deep.LoopGhost
import Derived.Deep.QuietTactic
import Derived.BigQuiet
namespace Go.Proofs.Ytfnmbhjifdfibaa
open Go.RowKit
set_option maxHeartbeats 4000000 in
set_option maxRecDepth 100000 in
theorem lof5 {w : World} {s1 : Bool} {A1 B1 : Option Addr} {c1 d1 L1 M1 K : Nat} {x : Int} {y : Nat} (h : RW w s1 A1 c1 L1 B1 d1 M1 x y) (hL : 32 * L1 ≤ K) (hM : 32 * M1 ≤ K) (hK : K ≤ 1000000000) (hK1 : 1 ≤ K) :
    Calls Try.prog 16 #[Value.agg #[.bool s1, .slice A1 L1 c1, .slice B1 M1 d1]] w (RetQ w K (mkRat x y)) := by
  have HO : Hid (∀ w', Ext w w' → Calls Try.prog 69 #[.bool s1, .slice A1 L1 c1, .slice B1 M1 d1] w' (RetQ w' K (mkRat x y))) := fun w' hx => qof_r (h.num.ext hx) (h.den.ext hx) hL hM hK hK1
  clear h
  go_enter Try.func16, Try.ntmps16
  go_wp2_with fail
  obtain ⟨w0, hw0⟩ : ∃ z : World, z = ((w.alloc (.cells #[.bool s1, .slice A1 L1 c1, .slice B1 M1 d1] 27)).alloc (.cells #[.int .i64 0, .slice none 0 0, .int .i64 0, .slice none 0 0] 38)) := ⟨_, rfl⟩
  rw [← hw0]
  have bxa : BK w0 (w.heap.size) 27 #[.bool s1, .slice A1 L1 c1, .slice B1 M1 d1] := by rw [hw0]; have h5 := (BK.ext (BK.new w #[.bool s1, .slice A1 L1 c1, .slice B1 M1 d1] 27) (Ext.alloc _ (.cells #[.int .i64 0, .slice none 0 0, .int .i64 0, .slice none 0 0] 38))); simpa only [World.size_alloc] using h5
  have bxr : BK w0 (w.heap.size + 1) 38 #[.int .i64 0, .slice none 0 0, .int .i64 0, .slice none 0 0] := by rw [hw0]; have h5 := (BK.new (w.alloc (.cells #[.bool s1, .slice A1 L1 c1, .slice B1 M1 d1] 27)) #[.int .i64 0, .slice none 0 0, .int .i64 0, .slice none 0 0] 38); simpa only [World.size_alloc] using h5
  have hszw0 : w0.heap.size = w.heap.size + 1 + 1 := by rw [hw0]; simp only [World.size_alloc]
  have xw0 : Ext w w0 := by rw [hw0]; exact ((Ext.alloc _ _).trans (Ext.alloc _ _))
  clear hw0
  refine (HO.out _ (by with_reducible repeat' first | exact Ext.refl _ | assumption | apply Ext.alloc_r | apply Ext.drew_r | apply Ext.drewN_r | refine Ext.trans ?_ ‹Ext _ _›)).mono ?_
  rintro e w1 ⟨gz, Az, cz, Lz, hz, Bz, dz, Mz, rfl, z, x1⟩
  have szw1 : w0.heap.size ≤ w1.heap.size := x1.size
  replace bxa := bxa.ext x1
  replace bxr := bxr.ext x1
  have HZ := Lib.hid z
  clear z HO
  have ka_0 := bxa.c 0 (.bool s1) rfl
  have ka_1 := bxa.c 1 (.slice A1 L1 c1) rfl
  have ka_2 := bxa.c 2 (.slice B1 M1 d1) rfl
  have kr_0 := bxr.c 0 (.int .i64 0) rfl
  have fr_0 := bxr.f 0
  have kr_1 := bxr.c 1 (.slice none 0 0) rfl
  have fr_1 := bxr.f 1
  have kr_2 := bxr.c 2 (.int .i64 0) rfl
  have fr_2 := bxr.f 2
  have kr_3 := bxr.c 3 (.slice none 0 0) rfl
  have fr_3 := bxr.f 3
  go_wp2_with fail
  clear ka_0 ka_1 ka_2 kr_0 fr_0 kr_1 fr_1 kr_2 fr_2 kr_3 fr_3
  have z := HZ.out
  clear HZ
  obtain ⟨w2, hw⟩ : ∃ z : World, z = ((((w1.setCell ⟨w.heap.size + 1, 0, none⟩ (.int .i64 gz)).setCell ⟨w.heap.size + 1, 1, none⟩ (.slice Az Lz cz)).setCell ⟨w.heap.size + 1, 2, none⟩ (.int .i64 hz)).setCell ⟨w.heap.size + 1, 3, none⟩ (.slice Bz Mz dz)) := ⟨_, rfl⟩
  rw [← hw]
  have kw2 : Kept w1 w2 := by rw [hw]; exact (Kept.set_ (Kept.set_ (Kept.set_ (Kept.set_ (Kept.refl _) bxr.isBox plain_Q) (IsBox.set_ bxr.isBox) plain_Q) (IsBox.set_ (IsBox.set_ bxr.isBox)) plain_Q) (IsBox.set_ (IsBox.set_ (IsBox.set_ bxr.isBox))) plain_Q)
  have nba : BK w2 (w.heap.size) 27 #[.bool s1, .slice A1 L1 c1, .slice B1 M1 d1] := by rw [hw]; exact (BK.far (BK.far (BK.far (BK.far bxa (show w.heap.size ≠ w.heap.size + 1 by omega) 0 _) (show w.heap.size ≠ w.heap.size + 1 by omega) 1 _) (show w.heap.size ≠ w.heap.size + 1 by omega) 2 _) (show w.heap.size ≠ w.heap.size + 1 by omega) 3 _)
  have nbr : BK w2 (w.heap.size + 1) 38 #[.int .i64 gz, .slice Az Lz cz, .int .i64 hz, .slice Bz Mz dz] := by rw [hw]; exact (BK.set (i := 3) (u := .slice Bz Mz dz) (vs' := #[.int .i64 gz, .slice Az Lz cz, .int .i64 hz, .slice Bz Mz dz]) (BK.set (i := 2) (u := .int .i64 hz) (vs' := #[.int .i64 gz, .slice Az Lz cz, .int .i64 hz, .slice none 0 0]) (BK.set (i := 1) (u := .slice Az Lz cz) (vs' := #[.int .i64 gz, .slice Az Lz cz, .int .i64 0, .slice none 0 0]) (BK.set (i := 0) (u := .int .i64 gz) (vs' := #[.int .i64 gz, .slice none 0 0, .int .i64 0, .slice none 0 0]) bxr rfl) rfl) rfl) rfl)
  have x2 : Ext w w2 := by rw [hw]; have hxp : Ext w w1 := (by with_reducible repeat' first | exact Ext.refl _ | assumption | apply Ext.alloc_r | apply Ext.drew_r | apply Ext.drewN_r | refine Ext.trans ?_ ‹Ext _ _›); exact (Ext.set_ (Ext.set_ (Ext.set_ (Ext.set_ hxp (show _ ≤ w.heap.size + 1 by omega)) (show _ ≤ w.heap.size + 1 by omega)) (show _ ≤ w.heap.size + 1 by omega)) (show _ ≤ w.heap.size + 1 by omega))
  clear bxa
  clear bxr
  have bxa := nba
  clear nba
  have bxr := nbr
  clear nbr
  have szw2 : w2.heap.size = w1.heap.size := by rw [hw]; simp
  replace z := (z.ext (by with_reducible repeat' first | exact Ext.refl _ | assumption | apply Ext.alloc_r | apply Ext.drew_r | apply Ext.drewN_r | refine Ext.trans ?_ ‹Ext _ _›)).kept kw2
  clear hw kw2
  have HQ2 := Lib.hid z
  clear z
  have kr_0 := bxr.c 0 (.int .i64 gz) rfl
  have kr_1 := bxr.c 1 (.slice Az Lz cz) rfl
  have kr_2 := bxr.c 2 (.int .i64 hz) rfl
  have kr_3 := bxr.c 3 (.slice Bz Mz dz) rfl
  refine bodyPost_ret (v := .agg #[.int .i64 gz, .slice Az Lz cz, .int .i64 hz, .slice Bz Mz dz]) (by simp [results, Try.results16, go_sem, kr_0, kr_1, kr_2, kr_3]) rfl ?_
  exact ⟨_, _, _, _, _, _, _, _, rfl, HQ2.out, x2⟩
set_option maxHeartbeats 4000000 in
set_option maxRecDepth 100000 in
theorem lis5 {w : World} {s1 : Bool} {A1 B1 : Option Addr} {c1 L1 d1 M1 N g : Nat} {q : Rat} {g2 h2 : Int} {A2 B2 : Option Addr} {c2 d2 L2 M2 K2 : Nat} {q2 : Rat} (h : RO w g s1 A1 c1 L1 B1 d1 M1 N q) (z1 : QR w g2 A2 c2 L2 h2 B2 d2 M2 K2 q2) (hq : q2 = q) (hs1 : K2 ≤ 1000000000) :
    Calls Try.prog 21 #[Value.agg #[.bool s1, .slice A1 L1 c1, .slice B1 M1 d1], Value.agg #[.int .i64 g2, .slice A2 L2 c2, .int .i64 h2, .slice B2 M2 d2]] w fun e w' => e = .returned (.bool true) ∧ Ext w w' := by
  have HI : Hid (∀ w', Ext w w' → Calls Try.prog 74 #[.bool s1, .slice A1 L1 c1, .slice B1 M1 d1, Value.agg #[.int .i64 g2, .slice A2 L2 c2, .int .i64 h2, .slice B2 M2 d2]] w' fun e w'' => e = .returned (.bool true) ∧ Ext w' w'') := fun w' hx => qis_r (h.ext hx) (z1.ext hx) hq hs1
  clear h z1 hq
  go_enter Try.func21, Try.ntmps21
  go_wp2_with fail
  obtain ⟨w0, hw0⟩ : ∃ z : World, z = ((w.alloc (.cells #[.bool s1, .slice A1 L1 c1, .slice B1 M1 d1] 27)).alloc (.cells #[.int .i64 g2, .slice A2 L2 c2, .int .i64 h2, .slice B2 M2 d2] 38)) := ⟨_, rfl⟩
  rw [← hw0]
  have bxa : BK w0 (w.heap.size) 27 #[.bool s1, .slice A1 L1 c1, .slice B1 M1 d1] := by rw [hw0]; have h5 := (BK.ext (BK.new w #[.bool s1, .slice A1 L1 c1, .slice B1 M1 d1] 27) (Ext.alloc _ (.cells #[.int .i64 g2, .slice A2 L2 c2, .int .i64 h2, .slice B2 M2 d2] 38))); simpa only [World.size_alloc] using h5
  have bxb : BK w0 (w.heap.size + 1) 38 #[.int .i64 g2, .slice A2 L2 c2, .int .i64 h2, .slice B2 M2 d2] := by rw [hw0]; have h5 := (BK.new (w.alloc (.cells #[.bool s1, .slice A1 L1 c1, .slice B1 M1 d1] 27)) #[.int .i64 g2, .slice A2 L2 c2, .int .i64 h2, .slice B2 M2 d2] 38); simpa only [World.size_alloc] using h5
  have hszw0 : w0.heap.size = w.heap.size + 1 + 1 := by rw [hw0]; simp only [World.size_alloc]
  have xw0 : Ext w w0 := by rw [hw0]; exact ((Ext.alloc _ _).trans (Ext.alloc _ _))
  clear hw0
  refine (HI.out _ (by with_reducible repeat' first | exact Ext.refl _ | assumption | apply Ext.alloc_r | apply Ext.drew_r | apply Ext.drewN_r | refine Ext.trans ?_ ‹Ext _ _›)).mono ?_
  rintro e w1 ⟨rfl, x1⟩
  have szw1 : w0.heap.size ≤ w1.heap.size := x1.size
  replace bxa := bxa.ext x1
  replace bxb := bxb.ext x1
  have x0w : Ext w w1 := (by with_reducible repeat' first | exact Ext.refl _ | assumption | apply Ext.alloc_r | apply Ext.drew_r | apply Ext.drewN_r | refine Ext.trans ?_ ‹Ext _ _›)
  clear HI
  have ka_0 := bxa.c 0 (.bool s1) rfl
  have ka_1 := bxa.c 1 (.slice A1 L1 c1) rfl
  have ka_2 := bxa.c 2 (.slice B1 M1 d1) rfl
  have kb_0 := bxb.c 0 (.int .i64 g2) rfl
  have kb_1 := bxb.c 1 (.slice A2 L2 c2) rfl
  have kb_2 := bxb.c 2 (.int .i64 h2) rfl
  have kb_3 := bxb.c 3 (.slice B2 M2 d2) rfl
  go_wp2_with fail
  clear ka_0 ka_1 ka_2 kb_0 kb_1 kb_2 kb_3
  go_ret
  exact ⟨rfl, x0w⟩
theorem qcmp_is {w : World} {g1 h1 g2 h2 k : Int} {A1 B1 A2 B2 : Option Addr} {c1 d1 L1 M1 K1 c2 d2 L2 M2 K2 : Nat} {q1 q2 : Rat} (z1 : QR w g1 A1 c1 L1 h1 B1 d1 M1 K1 q1) (z2 : QR w g2 A2 c2 L2 h2 B2 d2 M2 K2 q2) (hs1 : K1 ≤ 1000000000) (hs2 : K2 ≤ 1000000000) (e : cmpQ q1 q2 = k) :
    Calls Try.prog 48 #[Value.agg #[.int .i64 g1, .slice A1 L1 c1, .int .i64 h1, .slice B1 M1 d1], Value.agg #[.int .i64 g2, .slice A2 L2 c2, .int .i64 h2, .slice B2 M2 d2]] w fun e w' => e = .returned (.int .i64 k) ∧ Ext w w' := by
  subst e
  exact qcmp_r z1 z2 hs1 hs2
end Go.Proofs.Ytfnmbhjifdfibaa
