/- The walk of RationalPowers. -/
import Derived.Test.YtfnmbhjifdfibaaLaw5
import Derived.Test.YtfnmbhjifdfibaaRef5
import Derived.Test.YtfnmbhjifdfibaaPowB
import Derived.Test.YtfnmbhjifdfibaaKept
import Derived.Test.YtfnmbhjifdfibaaOpen
import Derived.Deep.LoopGhost
namespace Go.Proofs.Ytfnmbhjifdfibaa
open Go.RowKit
set_option maxHeartbeats 4000000 in
set_option maxRecDepth 100000 in
theorem lof5 {w : World} {s1 : Bool} {A1 B1 : Option Addr} {c1 d1 L1 M1 K : Nat} {x : Int} {y : Nat} (h : RW w s1 A1 c1 L1 B1 d1 M1 x y) (hL : 32 * L1 ≤ K) (hM : 32 * M1 ≤ K) (hK : K ≤ 1000000000) (hK1 : 1 ≤ K) :
    Calls Try.prog 16 #[Value.agg #[.bool s1, .slice A1 L1 c1, .slice B1 M1 d1]] w (RetQ w K (mkRat x y)) := by
  have HO : Hid (∀ w', Ext w w' → Calls Try.prog 69 #[.bool s1, .slice A1 L1 c1, .slice B1 M1 d1] w' (RetQ w' K (mkRat x y))) := fun w' hx => qof_r (h.num.ext hx) (h.den.ext hx) hL hM hK hK1
  clear h
  go_enter Try.func16, Try.ntmps16
  go_wp2_with fail
  obtain ⟨w0, hw0⟩ : ∃ z : World, z = ((w.alloc (.cells #[.bool s1, .slice A1 L1 c1, .slice B1 M1 d1] 27)).alloc (.cells #[.int .i64 0, .slice none 0 0, .int .i64 0, .slice none 0 0] 38)) := ⟨_, rfl⟩
  rw [← hw0]
  have bxa : BK w0 (w.heap.size) 27 #[.bool s1, .slice A1 L1 c1, .slice B1 M1 d1] := by rw [hw0]; have h5 := (BK.ext (BK.new w #[.bool s1, .slice A1 L1 c1, .slice B1 M1 d1] 27) (Ext.alloc _ (.cells #[.int .i64 0, .slice none 0 0, .int .i64 0, .slice none 0 0] 38))); simpa only [World.size_alloc] using h5
  have bxr : BK w0 (w.heap.size + 1) 38 #[.int .i64 0, .slice none 0 0, .int .i64 0, .slice none 0 0] := by rw [hw0]; have h5 := (BK.new (w.alloc (.cells #[.bool s1, .slice A1 L1 c1, .slice B1 M1 d1] 27)) #[.int .i64 0, .slice none 0 0, .int .i64 0, .slice none 0 0] 38); simpa only [World.size_alloc] using h5
  have hszw0 : w0.heap.size = w.heap.size + 1 + 1 := by rw [hw0]; simp only [World.size_alloc]
  have xw0 : Ext w w0 := by rw [hw0]; exact ((Ext.alloc _ _).trans (Ext.alloc _ _))
  clear hw0
  refine (HO.out _ (by repeat' (first | with_reducible exact Ext.refl _ | with_reducible assumption | with_reducible apply Ext.alloc_r | with_reducible apply Ext.drew_r | with_reducible apply Ext.drewN_r | with_reducible refine Ext.trans ?_ ‹Ext _ _›))).mono ?_
  rintro e w1 ⟨gz, Az, cz, Lz, hz, Bz, dz, Mz, rfl, z, x1⟩
  have szw1 : w0.heap.size ≤ w1.heap.size := x1.size
  replace bxa := bxa.ext x1
  replace bxr := bxr.ext x1
  have HZ := Lib.hid z
  clear z HO
  have ka_0 := bxa.c 0 (.bool s1) rfl
  have ka_1 := bxa.c 1 (.slice A1 L1 c1) rfl
  have ka_2 := bxa.c 2 (.slice B1 M1 d1) rfl
  have kr_0 := bxr.c 0 (.int .i64 0) rfl
  have fr_0 := bxr.f 0
  have kr_1 := bxr.c 1 (.slice none 0 0) rfl
  have fr_1 := bxr.f 1
  have kr_2 := bxr.c 2 (.int .i64 0) rfl
  have fr_2 := bxr.f 2
  have kr_3 := bxr.c 3 (.slice none 0 0) rfl
  have fr_3 := bxr.f 3
  go_wp2_with fail
  clear ka_0 ka_1 ka_2 kr_0 fr_0 kr_1 fr_1 kr_2 fr_2 kr_3 fr_3
  have z := HZ.out
  clear HZ
  obtain ⟨w2, hw⟩ : ∃ z : World, z = ((((w1.setCell ⟨w.heap.size + 1, 0, none⟩ (.int .i64 gz)).setCell ⟨w.heap.size + 1, 1, none⟩ (.slice Az Lz cz)).setCell ⟨w.heap.size + 1, 2, none⟩ (.int .i64 hz)).setCell ⟨w.heap.size + 1, 3, none⟩ (.slice Bz Mz dz)) := ⟨_, rfl⟩
  rw [← hw]
  have kw2 : Kept w1 w2 := by rw [hw]; exact (Kept.set_ (Kept.set_ (Kept.set_ (Kept.set_ (Kept.refl _) bxr.isBox plain_Q) (IsBox.set_ bxr.isBox) plain_Q) (IsBox.set_ (IsBox.set_ bxr.isBox)) plain_Q) (IsBox.set_ (IsBox.set_ (IsBox.set_ bxr.isBox))) plain_Q)
  have nba : BK w2 (w.heap.size) 27 #[.bool s1, .slice A1 L1 c1, .slice B1 M1 d1] := by rw [hw]; exact (BK.far (BK.far (BK.far (BK.far bxa (show w.heap.size ≠ w.heap.size + 1 by omega) 0 _) (show w.heap.size ≠ w.heap.size + 1 by omega) 1 _) (show w.heap.size ≠ w.heap.size + 1 by omega) 2 _) (show w.heap.size ≠ w.heap.size + 1 by omega) 3 _)
  have nbr : BK w2 (w.heap.size + 1) 38 #[.int .i64 gz, .slice Az Lz cz, .int .i64 hz, .slice Bz Mz dz] := by rw [hw]; exact (BK.set (i := 3) (u := .slice Bz Mz dz) (vs' := #[.int .i64 gz, .slice Az Lz cz, .int .i64 hz, .slice Bz Mz dz]) (BK.set (i := 2) (u := .int .i64 hz) (vs' := #[.int .i64 gz, .slice Az Lz cz, .int .i64 hz, .slice none 0 0]) (BK.set (i := 1) (u := .slice Az Lz cz) (vs' := #[.int .i64 gz, .slice Az Lz cz, .int .i64 0, .slice none 0 0]) (BK.set (i := 0) (u := .int .i64 gz) (vs' := #[.int .i64 gz, .slice none 0 0, .int .i64 0, .slice none 0 0]) bxr rfl) rfl) rfl) rfl)
  have x2 : Ext w w2 := by rw [hw]; have hxp : Ext w w1 := (by repeat' (first | with_reducible exact Ext.refl _ | with_reducible assumption | with_reducible apply Ext.alloc_r | with_reducible apply Ext.drew_r | with_reducible apply Ext.drewN_r | with_reducible refine Ext.trans ?_ ‹Ext _ _›)); exact (Ext.set_ (Ext.set_ (Ext.set_ (Ext.set_ hxp (show _ ≤ w.heap.size + 1 by omega)) (show _ ≤ w.heap.size + 1 by omega)) (show _ ≤ w.heap.size + 1 by omega)) (show _ ≤ w.heap.size + 1 by omega))
  clear bxa
  clear bxr
  have bxa := nba
  clear nba
  have bxr := nbr
  clear nbr
  have szw2 : w2.heap.size = w1.heap.size := by rw [hw]; simp
  replace z := (z.ext (by repeat' (first | with_reducible exact Ext.refl _ | with_reducible assumption | with_reducible apply Ext.alloc_r | with_reducible apply Ext.drew_r | with_reducible apply Ext.drewN_r | with_reducible refine Ext.trans ?_ ‹Ext _ _›))).kept kw2
  clear hw kw2
  have HQ2 := Lib.hid z
  clear z
  have kr_0 := bxr.c 0 (.int .i64 gz) rfl
  have kr_1 := bxr.c 1 (.slice Az Lz cz) rfl
  have kr_2 := bxr.c 2 (.int .i64 hz) rfl
  have kr_3 := bxr.c 3 (.slice Bz Mz dz) rfl
  refine bodyPost_ret (v := .agg #[.int .i64 gz, .slice Az Lz cz, .int .i64 hz, .slice Bz Mz dz]) (by simp [results, Try.results16, go_sem, kr_0, kr_1, kr_2, kr_3]) rfl ?_
  exact ⟨_, _, _, _, _, _, _, _, rfl, HQ2.out, x2⟩
set_option maxHeartbeats 4000000 in
set_option maxRecDepth 100000 in
theorem lis5 {w : World} {s1 : Bool} {A1 B1 : Option Addr} {c1 L1 d1 M1 N g : Nat} {q : Rat} {g2 h2 : Int} {A2 B2 : Option Addr} {c2 d2 L2 M2 K2 : Nat} {q2 : Rat} (h : RO w g s1 A1 c1 L1 B1 d1 M1 N q) (z1 : QR w g2 A2 c2 L2 h2 B2 d2 M2 K2 q2) (hq : q2 = q) (hs1 : K2 ≤ 1000000000) :
    Calls Try.prog 21 #[Value.agg #[.bool s1, .slice A1 L1 c1, .slice B1 M1 d1], Value.agg #[.int .i64 g2, .slice A2 L2 c2, .int .i64 h2, .slice B2 M2 d2]] w fun e w' => e = .returned (.bool true) ∧ Ext w w' := by
  have HI : Hid (∀ w', Ext w w' → Calls Try.prog 74 #[.bool s1, .slice A1 L1 c1, .slice B1 M1 d1, Value.agg #[.int .i64 g2, .slice A2 L2 c2, .int .i64 h2, .slice B2 M2 d2]] w' fun e w'' => e = .returned (.bool true) ∧ Ext w' w'') := fun w' hx => qis_r (h.ext hx) (z1.ext hx) hq hs1
  clear h z1 hq
  go_enter Try.func21, Try.ntmps21
  go_wp2_with fail
  obtain ⟨w0, hw0⟩ : ∃ z : World, z = ((w.alloc (.cells #[.bool s1, .slice A1 L1 c1, .slice B1 M1 d1] 27)).alloc (.cells #[.int .i64 g2, .slice A2 L2 c2, .int .i64 h2, .slice B2 M2 d2] 38)) := ⟨_, rfl⟩
  rw [← hw0]
  have bxa : BK w0 (w.heap.size) 27 #[.bool s1, .slice A1 L1 c1, .slice B1 M1 d1] := by rw [hw0]; have h5 := (BK.ext (BK.new w #[.bool s1, .slice A1 L1 c1, .slice B1 M1 d1] 27) (Ext.alloc _ (.cells #[.int .i64 g2, .slice A2 L2 c2, .int .i64 h2, .slice B2 M2 d2] 38))); simpa only [World.size_alloc] using h5
  have bxb : BK w0 (w.heap.size + 1) 38 #[.int .i64 g2, .slice A2 L2 c2, .int .i64 h2, .slice B2 M2 d2] := by rw [hw0]; have h5 := (BK.new (w.alloc (.cells #[.bool s1, .slice A1 L1 c1, .slice B1 M1 d1] 27)) #[.int .i64 g2, .slice A2 L2 c2, .int .i64 h2, .slice B2 M2 d2] 38); simpa only [World.size_alloc] using h5
  have hszw0 : w0.heap.size = w.heap.size + 1 + 1 := by rw [hw0]; simp only [World.size_alloc]
  have xw0 : Ext w w0 := by rw [hw0]; exact ((Ext.alloc _ _).trans (Ext.alloc _ _))
  clear hw0
  refine (HI.out _ (by repeat' (first | with_reducible exact Ext.refl _ | with_reducible assumption | with_reducible apply Ext.alloc_r | with_reducible apply Ext.drew_r | with_reducible apply Ext.drewN_r | with_reducible refine Ext.trans ?_ ‹Ext _ _›))).mono ?_
  rintro e w1 ⟨rfl, x1⟩
  have szw1 : w0.heap.size ≤ w1.heap.size := x1.size
  replace bxa := bxa.ext x1
  replace bxb := bxb.ext x1
  have x0w : Ext w w1 := (by repeat' (first | with_reducible exact Ext.refl _ | with_reducible assumption | with_reducible apply Ext.alloc_r | with_reducible apply Ext.drew_r | with_reducible apply Ext.drewN_r | with_reducible refine Ext.trans ?_ ‹Ext _ _›))
  clear HI
  have ka_0 := bxa.c 0 (.bool s1) rfl
  have ka_1 := bxa.c 1 (.slice A1 L1 c1) rfl
  have ka_2 := bxa.c 2 (.slice B1 M1 d1) rfl
  have kb_0 := bxb.c 0 (.int .i64 g2) rfl
  have kb_1 := bxb.c 1 (.slice A2 L2 c2) rfl
  have kb_2 := bxb.c 2 (.int .i64 h2) rfl
  have kb_3 := bxb.c 3 (.slice B2 M2 d2) rfl
  go_wp2_with fail
  clear ka_0 ka_1 ka_2 kb_0 kb_1 kb_2 kb_3
  go_ret
  exact ⟨rfl, x0w⟩
theorem qcmp_is {w : World} {g1 h1 g2 h2 k : Int} {A1 B1 A2 B2 : Option Addr} {c1 d1 L1 M1 K1 c2 d2 L2 M2 K2 : Nat} {q1 q2 : Rat} (z1 : QR w g1 A1 c1 L1 h1 B1 d1 M1 K1 q1) (z2 : QR w g2 A2 c2 L2 h2 B2 d2 M2 K2 q2) (hs1 : K1 ≤ 1000000000) (hs2 : K2 ≤ 1000000000) (e : cmpQ q1 q2 = k) :
    Calls Try.prog 48 #[Value.agg #[.int .i64 g1, .slice A1 L1 c1, .int .i64 h1, .slice B1 M1 d1], Value.agg #[.int .i64 g2, .slice A2 L2 c2, .int .i64 h2, .slice B2 M2 d2]] w fun e w' => e = .returned (.int .i64 k) ∧ Ext w w' := by
  subst e
  exact qcmp_r z1 z2 hs1 hs2
set_option maxHeartbeats 4000000 in
set_option maxRecDepth 100000 in
theorem rpow_far {w : World} {s1 : Bool} {A1 B1 : Option Addr} {c1 d1 L1 M1 N1 : Nat} {q1 : Rat} {k : Nat} (h1 : RV w s1 A1 c1 L1 B1 d1 M1 N1 q1) (hN1 : N1 ≤ 40) (hk : k ≤ 16777216) (hlim : 16777216 < max (bl q1.num.natAbs) (bl q1.den) * k) :
    Calls Try.prog 49 #[Value.agg #[.bool s1, .slice A1 L1 c1, .slice B1 M1 d1], .int .i64 k] w fun e w' => e = .returned (.tuple #[.agg #[.bool false, .slice none 0 0, .slice none 0 0], .int .i64 8]) ∧ Ext w w' := by
  go_enter Try.func49, Try.ntmps49
  go_wp2_with fail
  obtain ⟨w0, hw0⟩ : ∃ z : World, z = ((w.alloc (.cells #[.bool s1, .slice A1 L1 c1, .slice B1 M1 d1] 27)).alloc (.cells #[.bool false, .slice none 0 0, .slice none 0 0] 27)) := ⟨_, rfl⟩
  rw [← hw0]
  have bxa : BK w0 (w.heap.size) 27 #[.bool s1, .slice A1 L1 c1, .slice B1 M1 d1] := by rw [hw0]; have h5 := (BK.ext (BK.new w #[.bool s1, .slice A1 L1 c1, .slice B1 M1 d1] 27) (Ext.alloc _ (.cells #[.bool false, .slice none 0 0, .slice none 0 0] 27))); simpa only [World.size_alloc] using h5
  have bxr : BK w0 (w.heap.size + 1) 27 #[.bool false, .slice none 0 0, .slice none 0 0] := by rw [hw0]; have h5 := (BK.new (w.alloc (.cells #[.bool s1, .slice A1 L1 c1, .slice B1 M1 d1] 27)) #[.bool false, .slice none 0 0, .slice none 0 0] 27); simpa only [World.size_alloc] using h5
  have hszw0 : w0.heap.size = w.heap.size + 1 + 1 := by rw [hw0]; simp only [World.size_alloc]
  have xw0 : Ext w w0 := by rw [hw0]; exact ((Ext.alloc _ _).trans (Ext.alloc _ _))
  clear hw0
  refine (rnormal_r (h1.ext (by repeat' (first | with_reducible exact Ext.refl _ | with_reducible assumption | with_reducible apply Ext.alloc_r | with_reducible apply Ext.drew_r | with_reducible apply Ext.drewN_r | with_reducible refine Ext.trans ?_ ‹Ext _ _›))) (by omega)).mono ?_
  rintro e w1 ⟨sn, An, cn, Ln, Bn, dn, Mn, rfl, n, x1⟩
  have szw1 : w0.heap.size ≤ w1.heap.size := x1.size
  replace bxa := bxa.ext x1
  replace bxr := bxr.ext x1
  have HN := Lib.hid n
  clear n h1
  have ka_0 := bxa.c 0 (.bool s1) rfl
  have fa_0 := bxa.f 0
  have ka_1 := bxa.c 1 (.slice A1 L1 c1) rfl
  have fa_1 := bxa.f 1
  have ka_2 := bxa.c 2 (.slice B1 M1 d1) rfl
  have fa_2 := bxa.f 2
  have kr_0 := bxr.c 0 (.bool false) rfl
  have kr_1 := bxr.c 1 (.slice none 0 0) rfl
  have kr_2 := bxr.c 2 (.slice none 0 0) rfl
  go_wp2_with fail
  clear ka_0 fa_0 ka_1 fa_1 ka_2 fa_2 kr_0 kr_1 kr_2
  have n := HN.out
  clear HN
  obtain ⟨w2, hw⟩ : ∃ z : World, z = (((w1.setCell ⟨w.heap.size, 0, none⟩ (.bool sn)).setCell ⟨w.heap.size, 1, none⟩ (.slice An Ln cn)).setCell ⟨w.heap.size, 2, none⟩ (.slice Bn Mn dn)) := ⟨_, rfl⟩
  rw [← hw]
  have kw2 : Kept w1 w2 := by rw [hw]; exact (Kept.set_ (Kept.set_ (Kept.set_ (Kept.refl _) bxa.isBox plain_rat) (IsBox.set_ bxa.isBox) plain_rat) (IsBox.set_ (IsBox.set_ bxa.isBox)) plain_rat)
  have nba : BK w2 (w.heap.size) 27 #[.bool sn, .slice An Ln cn, .slice Bn Mn dn] := by rw [hw]; exact (BK.set (i := 2) (u := .slice Bn Mn dn) (vs' := #[.bool sn, .slice An Ln cn, .slice Bn Mn dn]) (BK.set (i := 1) (u := .slice An Ln cn) (vs' := #[.bool sn, .slice An Ln cn, .slice B1 M1 d1]) (BK.set (i := 0) (u := .bool sn) (vs' := #[.bool sn, .slice A1 L1 c1, .slice B1 M1 d1]) bxa rfl) rfl) rfl)
  have nbr : BK w2 (w.heap.size + 1) 27 #[.bool false, .slice none 0 0, .slice none 0 0] := by rw [hw]; exact (BK.far (BK.far (BK.far bxr (show w.heap.size + 1 ≠ w.heap.size by omega) 0 _) (show w.heap.size + 1 ≠ w.heap.size by omega) 1 _) (show w.heap.size + 1 ≠ w.heap.size by omega) 2 _)
  have x2 : Ext w w2 := by rw [hw]; have hxp : Ext w w1 := (by repeat' (first | with_reducible exact Ext.refl _ | with_reducible assumption | with_reducible apply Ext.alloc_r | with_reducible apply Ext.drew_r | with_reducible apply Ext.drewN_r | with_reducible refine Ext.trans ?_ ‹Ext _ _›)); exact (Ext.set_ (Ext.set_ (Ext.set_ hxp (show _ ≤ w.heap.size by omega)) (show _ ≤ w.heap.size by omega)) (show _ ≤ w.heap.size by omega))
  clear bxa
  clear bxr
  have bxa := nba
  clear nba
  have bxr := nbr
  clear nbr
  have szw2 : w2.heap.size = w1.heap.size := by rw [hw]; simp
  replace n := (n.ext (by repeat' (first | with_reducible exact Ext.refl _ | with_reducible assumption | with_reducible apply Ext.alloc_r | with_reducible apply Ext.drew_r | with_reducible apply Ext.drewN_r | with_reducible refine Ext.trans ?_ ‹Ext _ _›))).kept kw2
  clear hw kw2
  have hdn := n.dn
  have hdd := n.dd
  have HA : Hid (ZV w2 sn An cn Ln q1.num) := n.num.zv
  have HD : Hid (NV w2 Bn dn Mn q1.den) := by rw [n.len]; exact n.den.nv
  clear n
  obtain ⟨P1, hP1⟩ : ∃ P : Nat, P = bl q1.num.natAbs := ⟨_, rfl⟩
  obtain ⟨P2, hP2⟩ : ∃ P : Nat, P = bl q1.den := ⟨_, rfl⟩
  have hq1 : P1 ≤ 32 * N1 := by rw [hP1]; exact Nat.le_trans bl_dl (by omega)
  have hq2 : P2 ≤ 32 * N1 := by rw [hP2]; exact Nat.le_trans bl_dl (by omega)
  rw [← hP1, ← hP2] at hlim
  have HP1 := Lib.hid hP1
  have HP2 := Lib.hid hP2
  clear hP1 hP2
  have HL1 : Hid (∀ w', Ext w2 w' → Calls Try.prog 85 #[.agg #[.bool sn, .slice An Ln cn]] w' fun e w'' => e = .returned (.int .i64 P1) ∧ Ext w' w'') := fun w' hx => by
    have h5 := zbitLen_z (HA.out.ext hx) (by omega)
    rw [← HP1.out] at h5
    exact h5
  have HL2 : Hid (∀ w', Ext w2 w' → Calls Try.prog 86 #[.slice Bn Mn dn] w' fun e w'' => e = .returned (.int .i64 P2) ∧ Ext w' w'') := fun w' hx => by
    have h5 := bitLen_v (HD.out.ext hx) (by omega)
    rw [← HP2.out] at h5
    refine h5.mono ?_
    rintro e w'' ⟨rfl, rfl⟩
    exact ⟨rfl, Ext.refl _⟩
  have ka_0 := bxa.c 0 (.bool sn) rfl
  have ka_1 := bxa.c 1 (.slice An Ln cn) rfl
  have ka_2 := bxa.c 2 (.slice Bn Mn dn) rfl
  have kr_0 := bxr.c 0 (.bool false) rfl
  have kr_1 := bxr.c 1 (.slice none 0 0) rfl
  have kr_2 := bxr.c 2 (.slice none 0 0) rfl
  go_wp2_with fail
  have HK : Hid (∀ w', Ext w2 w' → (w'.cell? ⟨w.heap.size, 0, none⟩ = some (.bool sn) ∧ w'.cell? ⟨w.heap.size, 1, none⟩ = some (.slice An Ln cn) ∧ w'.cell? ⟨w.heap.size, 2, none⟩ = some (.slice Bn Mn dn))) := fun w' hk => ⟨hk.cell ka_0, hk.cell ka_1, hk.cell ka_2⟩
  go_region_held3 (fun w' => w'.cell? ⟨w.heap.size, 0, none⟩ = some (.bool sn) ∧ w'.cell? ⟨w.heap.size, 1, none⟩ = some (.slice An Ln cn) ∧ w'.cell? ⟨w.heap.size, 2, none⟩ = some (.slice Bn Mn dn))
    ((with_reducible refine HK.out _ ?_; (repeat' (first | with_reducible exact Ext.refl _ | with_reducible assumption | with_reducible apply Ext.alloc_r | with_reducible apply Ext.drew_r | with_reducible apply Ext.drewN_r | with_reducible refine Ext.trans ?_ ‹Ext _ _›))))
    (first
      | (go_at_call 86; refine (HL2.out _ (by repeat' (first | with_reducible exact Ext.refl _ | with_reducible assumption | with_reducible apply Ext.alloc_r | with_reducible apply Ext.drew_r | with_reducible apply Ext.drewN_r | with_reducible refine Ext.trans ?_ ‹Ext _ _›))).mono ?_; rintro e w4 ⟨rfl, x4⟩)
      | (go_at_call 85; refine (HL1.out _ (by repeat' (first | with_reducible exact Ext.refl _ | with_reducible assumption | with_reducible apply Ext.alloc_r | with_reducible apply Ext.drew_r | with_reducible apply Ext.drewN_r | with_reducible refine Ext.trans ?_ ‹Ext _ _›))).mono ?_; rintro e w3 ⟨rfl, x3⟩))
  clear ka_0 ka_1 ka_2 kr_0 kr_1 kr_2
  clear HK
  have szw3 : w2.heap.size ≤ w3.heap.size := (show Ext w2 w3 from (by repeat' (first | with_reducible exact Ext.refl _ | with_reducible assumption | with_reducible apply Ext.alloc_r | with_reducible apply Ext.drew_r | with_reducible apply Ext.drewN_r | with_reducible refine Ext.trans ?_ ‹Ext _ _›))).size
  have xhw4 : Ext w2 w4 := (by repeat' (first | with_reducible exact Ext.refl _ | with_reducible assumption | with_reducible apply Ext.alloc_r | with_reducible apply Ext.drew_r | with_reducible apply Ext.drewN_r | with_reducible refine Ext.trans ?_ ‹Ext _ _›))
  have szw4 : w2.heap.size ≤ w4.heap.size := xhw4.size
  replace bxa := bxa.ext xhw4
  replace bxr := bxr.ext xhw4
  have hmx : max (P1 : Int) (P2 : Int) = ((max P1 P2 : Nat) : Int) := by omega
  have hLX : max P1 P2 ≤ 1280 := by omega
  rw [hmx]
  clear hmx HL1 HL2
  generalize max P1 P2 = LX at *
  have hPk : LX * k ≤ 1280 * 16777216 := Nat.mul_le_mul hLX hk
  have HMU : Hid (∀ w', Calls Try.prog 87 #[.int .u64 LX, .int .u64 k] w' fun e w'' => e = .returned (.tuple #[.int .u64 0, .int .u64 (LX * k : Nat)]) ∧ w'' = w') := fun w' => by
    have h5 := Try.bits_Mul64 LX k (by omega) (by omega) w'
    rw [Nat.div_eq_of_lt (by omega), Nat.mod_eq_of_lt (by omega)] at h5
    exact h5
  generalize LX * k = PP at *
  have x0w : Ext w w4 := (by repeat' (first | with_reducible exact Ext.refl _ | with_reducible assumption | with_reducible apply Ext.alloc_r | with_reducible apply Ext.drew_r | with_reducible apply Ext.drewN_r | with_reducible refine Ext.trans ?_ ‹Ext _ _›))
  have ka_0 := bxa.c 0 (.bool sn) rfl
  have ka_1 := bxa.c 1 (.slice An Ln cn) rfl
  have ka_2 := bxa.c 2 (.slice Bn Mn dn) rfl
  have kr_0 := bxr.c 0 (.bool false) rfl
  have kr_1 := bxr.c 1 (.slice none 0 0) rfl
  have kr_2 := bxr.c 2 (.slice none 0 0) rfl
  go_wp2_with fail
  clear ka_0 ka_1 ka_2 kr_0 kr_1 kr_2
  refine (HMU.out _).mono ?_
  rintro e w4 ⟨rfl, rfl⟩
  clear HMU HA HD
  have ka_0 := bxa.c 0 (.bool sn) rfl
  have ka_1 := bxa.c 1 (.slice An Ln cn) rfl
  have ka_2 := bxa.c 2 (.slice Bn Mn dn) rfl
  have kr_0 := bxr.c 0 (.bool false) rfl
  have fr_0 := bxr.f 0
  have kr_1 := bxr.c 1 (.slice none 0 0) rfl
  have fr_1 := bxr.f 1
  have kr_2 := bxr.c 2 (.slice none 0 0) rfl
  have fr_2 := bxr.f 2
  go_wp2_with fail
  clear ka_0 ka_1 ka_2 kr_0 fr_0 kr_1 fr_1 kr_2 fr_2
  obtain ⟨w5, hw⟩ : ∃ z : World, z = (((w4.setCell ⟨w.heap.size + 1, 0, none⟩ (.bool false)).setCell ⟨w.heap.size + 1, 1, none⟩ (.slice none 0 0)).setCell ⟨w.heap.size + 1, 2, none⟩ (.slice none 0 0)) := ⟨_, rfl⟩
  rw [← hw]
  have kw5 : Kept w4 w5 := by rw [hw]; exact (Kept.set_ (Kept.set_ (Kept.set_ (Kept.refl _) bxr.isBox plain_rat) (IsBox.set_ bxr.isBox) plain_rat) (IsBox.set_ (IsBox.set_ bxr.isBox)) plain_rat)
  have nba : BK w5 (w.heap.size) 27 #[.bool sn, .slice An Ln cn, .slice Bn Mn dn] := by rw [hw]; exact (BK.far (BK.far (BK.far bxa (show w.heap.size ≠ w.heap.size + 1 by omega) 0 _) (show w.heap.size ≠ w.heap.size + 1 by omega) 1 _) (show w.heap.size ≠ w.heap.size + 1 by omega) 2 _)
  have nbr : BK w5 (w.heap.size + 1) 27 #[.bool false, .slice none 0 0, .slice none 0 0] := by rw [hw]; exact (BK.set (i := 2) (u := .slice none 0 0) (vs' := #[.bool false, .slice none 0 0, .slice none 0 0]) (BK.set (i := 1) (u := .slice none 0 0) (vs' := #[.bool false, .slice none 0 0, .slice none 0 0]) (BK.set (i := 0) (u := .bool false) (vs' := #[.bool false, .slice none 0 0, .slice none 0 0]) bxr rfl) rfl) rfl)
  have x5 : Ext w w5 := by rw [hw]; have hxp : Ext w w4 := (by repeat' (first | with_reducible exact Ext.refl _ | with_reducible assumption | with_reducible apply Ext.alloc_r | with_reducible apply Ext.drew_r | with_reducible apply Ext.drewN_r | with_reducible refine Ext.trans ?_ ‹Ext _ _›)); exact (Ext.set_ (Ext.set_ (Ext.set_ hxp (show _ ≤ w.heap.size + 1 by omega)) (show _ ≤ w.heap.size + 1 by omega)) (show _ ≤ w.heap.size + 1 by omega))
  clear bxa
  clear bxr
  have bxa := nba
  clear nba
  have bxr := nbr
  clear nbr
  have szw5 : w5.heap.size = w4.heap.size := by rw [hw]; simp
  clear hw kw5
  have kr_0 := bxr.c 0 (.bool false) rfl
  have kr_1 := bxr.c 1 (.slice none 0 0) rfl
  have kr_2 := bxr.c 2 (.slice none 0 0) rfl
  refine bodyPost_ret (v := .tuple #[.agg #[.bool false, .slice none 0 0, .slice none 0 0], .int .i64 8]) (by simp [results, Try.results49, go_sem, kr_0, kr_1, kr_2]) rfl ?_
  exact ⟨rfl, x5⟩
theorem rv_zero0 (w : World) : RV w false none 0 0 none 0 0 1 0 :=
  ⟨⟨0, 0, zv_zero w, (zv_zero w).nv, (Rat.zero_mkRat 0).symm, Nat.zero_le _, Nat.zero_le _⟩, Nat.le_refl _⟩
theorem far3 : 16777216 < max (bl ((3 : Int) : Rat).num.natAbs) (bl ((3 : Int) : Rat).den) * 16777216 := by
  have h : 2 ≤ bl 3 := by
    rcases Nat.lt_or_ge (bl 3) 2 with h | h
    · have h5 := lt_pow_len (B := 2) (by omega) 3
      have h6 : 2 ^ (digs 2 3).length ≤ 2 ^ 1 := Nat.pow_le_pow_right (by omega) (by unfold bl at h; omega)
      omega
    · exact h
  have h2 : bl 3 ≤ max (bl ((3 : Int) : Rat).num.natAbs) (bl ((3 : Int) : Rat).den) := Nat.le_max_left _ _
  omega
theorem qr_one {w : World} {g h : Int} {A B : Option Addr} {c d L M : Nat} (h1 : RZ w g A c L 1) (h2 : RZ w h B d M 1) : QR w g A c L h B d M 1 1 :=
  ⟨1, 1, h1, h2, by omega, (Rat.mkRat_self 1).symm, bl_of_lt (by omega), bl_of_lt (by omega)⟩
set_option maxHeartbeats 40000000 in
set_option maxRecDepth 100000 in
theorem rationalPowers_a {w : World} {s1 : Bool} {A1 B1 : Option Addr} {c1 L1 d1 M1 : Nat} {x1 : Int} {y1 : Nat} {z : Int} (h1 : RW w s1 A1 c1 L1 B1 d1 M1 x1 y1) (hl : L1 ≤ 2) (hm : M1 ≤ 2) {K : Int} (hK0 : wrap64 (z.tmod 13) = K) (hKn : K < 0) (hKb : -12 ≤ K) (hq : mkRat x1 y1 = 0) :
    Calls Try.prog 8 #[Value.agg #[Value.bool s1, Value.slice A1 L1 c1, Value.slice B1 M1 d1], .int .i8 z] w fun e w' => e = .returned (.bool true) ∧ Ext w w' := by
  have pa1 := h1.num.nv.cap
  have pb1 := h1.den.cap
  have qa1 := h1.num.nv.le
  have qb1 := h1.den.le
  have e1 := h1.rv (N := 2) (by omega) (by omega) (by omega)
  have HF : Hid (((decide (L1 ≤ 2) && (decide (M1 ≤ 2) && decide (L1 ≤ 2))) && (decide (M1 ≤ 2) && (decide (L1 ≤ 2) && decide (M1 ≤ 2)))) = true) := by show _ = _; simp only [decide_eq_true_eq, Bool.and_eq_true]; omega
  have HO1 : Hid (∀ w', Ext w w' → Calls Try.prog 16 #[Value.agg #[Value.bool s1, Value.slice A1 L1 c1, Value.slice B1 M1 d1]] w' (RetQ w' 64 (mkRat x1 y1))) := fun w' hx => lof5 (h1.ext hx) (by omega) (by omega) (by omega) (by omega)
  generalize mkRat x1 y1 = q1 at *
  clear hl hm h1
  go_enter Try.func8, Try.ntmps8
  go_wp2_with fail
  obtain ⟨w0, hw0⟩ : ∃ z : World, z = (w.alloc (.cells #[.bool s1, .slice A1 L1 c1, .slice B1 M1 d1] 27)) := ⟨_, rfl⟩
  rw [← hw0]
  have b0 := box_at w #[.bool s1, .slice A1 L1 c1, .slice B1 M1 d1] 27
  have hsz : w0.heap.size = w.heap.size + 1 := by rw [hw0]; simp
  rw [← hw0] at b0
  have y0 : Ext w w0 := by rw [hw0]; exact Ext.alloc _ _
  have x0 : Ext w w0 := y0
  have e0_0 := b0.1 0 (.bool s1) rfl
  have e0_1 := b0.1 1 (.slice A1 L1 c1) rfl
  have e0_2 := b0.1 2 (.slice B1 M1 d1) rfl
  clear hw0 b0 y0
  go_wp2_with fail
  refine (awake5 _).mono ?_
  rintro e w1 ⟨rfl, x1⟩
  replace e0_0 := x1.cell e0_0
  replace e0_1 := x1.cell e0_1
  replace e0_2 := x1.cell e0_2
  go_wp2_with fail
  refine (few5 (n := 2) (by omega) (by omega) (by omega) (by omega) (by omega) (by omega)).mono ?_
  rintro e w2 ⟨rfl, x2⟩
  replace e0_0 := x2.cell e0_0
  replace e0_1 := x2.cell e0_1
  replace e0_2 := x2.cell e0_2
  rw [HF.out]
  clear hsz
  go_wp2_with fail
  refine (rpow_neg0 (e1.ext (by repeat' (first | with_reducible exact Ext.refl _ | with_reducible assumption | with_reducible apply Ext.alloc_r | with_reducible apply Ext.drew_r | with_reducible apply Ext.drewN_r | with_reducible refine Ext.trans ?_ ‹Ext _ _›))) hq (by omega) (by omega)).mono ?_
  rintro e w3 ⟨rfl, x3⟩
  replace e0_0 := x3.cell e0_0
  replace e0_1 := x3.cell e0_1
  replace e0_2 := x3.cell e0_2
  have te0_0 := fun o => (Ext.alloc w3 o).cell e0_0
  have te0_1 := fun o => (Ext.alloc w3 o).cell e0_1
  have te0_2 := fun o => (Ext.alloc w3 o).cell e0_2
  go_wp2_with fail
  clear te0_0 te0_1 te0_2
  obtain ⟨w4, hw⟩ : ∃ z : World, z = (w3.alloc (.cells #[.bool false, .slice none 0 0, .slice none 0 0] 27)) := ⟨_, rfl⟩
  rw [← hw]
  have x4 : Ext w3 w4 := by rw [hw]; exact Ext.alloc _ _
  have bb := box_at w3 #[.bool false, .slice none 0 0, .slice none 0 0] 27
  rw [← hw] at bb
  replace e0_0 := x4.cell e0_0
  replace e0_1 := x4.cell e0_1
  replace e0_2 := x4.cell e0_2
  have p_0 := bb.1 0 (.bool false) rfl
  have p_1 := bb.1 1 (.slice none 0 0) rfl
  have p_2 := bb.1 2 (.slice none 0 0) rfl
  clear hw bb
  go_wp2_with fail
  refine (HO1.out _ (by repeat' (first | with_reducible exact Ext.refl _ | with_reducible assumption | with_reducible apply Ext.alloc_r | with_reducible apply Ext.drew_r | with_reducible apply Ext.drewN_r | with_reducible refine Ext.trans ?_ ‹Ext _ _›))).mono ?_
  rintro e w5 ⟨gx, Ax, cx, Lx, hx, Bx, dx, Mx, rfl, x, x5⟩
  replace e0_0 := x5.cell e0_0
  replace e0_1 := x5.cell e0_1
  replace e0_2 := x5.cell e0_2
  replace p_0 := x5.cell p_0
  replace p_1 := x5.cell p_1
  replace p_2 := x5.cell p_2
  have hgx : (gx == 0) = true := by rw [x.sign, hq]; rfl
  clear hq
  have te0_0 := fun o => (Ext.alloc w5 o).cell e0_0
  have te0_1 := fun o => (Ext.alloc w5 o).cell e0_1
  have te0_2 := fun o => (Ext.alloc w5 o).cell e0_2
  have tp_0 := fun o => (Ext.alloc w5 o).cell p_0
  have tp_1 := fun o => (Ext.alloc w5 o).cell p_1
  have tp_2 := fun o => (Ext.alloc w5 o).cell p_2
  go_wp2_with fail
  clear te0_0 te0_1 te0_2 tp_0 tp_1 tp_2
  obtain ⟨w6, hw⟩ : ∃ z : World, z = (w5.alloc (.cells #[.int .i64 gx, .slice Ax Lx cx, .int .i64 hx, .slice Bx Mx dx] 38)) := ⟨_, rfl⟩
  rw [← hw]
  have x6 : Ext w5 w6 := by rw [hw]; exact Ext.alloc _ _
  have bb := box_at w5 #[.int .i64 gx, .slice Ax Lx cx, .int .i64 hx, .slice Bx Mx dx] 38
  rw [← hw] at bb
  replace e0_0 := x6.cell e0_0
  replace e0_1 := x6.cell e0_1
  replace e0_2 := x6.cell e0_2
  replace p_0 := x6.cell p_0
  replace p_1 := x6.cell p_1
  replace p_2 := x6.cell p_2
  have x_0 := bb.1 0 (.int .i64 gx) rfl
  have x_1 := bb.1 1 (.slice Ax Lx cx) rfl
  have x_2 := bb.1 2 (.int .i64 hx) rfl
  have x_3 := bb.1 3 (.slice Bx Mx dx) rfl
  clear hw bb
  go_wp2_with fail
  refine (rsign_is (k := 0) (rv_zero0 _) rfl).mono ?_
  rintro e w7 ⟨rfl, x7⟩
  replace e0_0 := x7.cell e0_0
  replace e0_1 := x7.cell e0_1
  replace e0_2 := x7.cell e0_2
  replace p_0 := x7.cell p_0
  replace p_1 := x7.cell p_1
  replace p_2 := x7.cell p_2
  replace x_0 := x7.cell x_0
  replace x_1 := x7.cell x_1
  replace x_2 := x7.cell x_2
  replace x_3 := x7.cell x_3
  go_wp2_with fail
  go_ret
  exact ⟨rfl, (by repeat' (first | with_reducible exact Ext.refl _ | with_reducible assumption | with_reducible apply Ext.alloc_r | with_reducible apply Ext.drew_r | with_reducible apply Ext.drewN_r | with_reducible refine Ext.trans ?_ ‹Ext _ _›))⟩
set_option maxHeartbeats 40000000 in
set_option maxRecDepth 100000 in
theorem rationalPowers_b {w : World} {s1 : Bool} {A1 B1 : Option Addr} {c1 L1 d1 M1 : Nat} {x1 : Int} {y1 : Nat} {z : Int} (h1 : RW w s1 A1 c1 L1 B1 d1 M1 x1 y1) (hl : L1 ≤ 2) (hm : M1 ≤ 2) {kN : Nat} (hK0 : wrap64 (z.tmod 13) = (kN : Int)) (hKb : kN ≤ 12) (hq : (mkRat x1 y1).num.sign = 0) :
    Calls Try.prog 8 #[Value.agg #[Value.bool s1, Value.slice A1 L1 c1, Value.slice B1 M1 d1], .int .i8 z] w fun e w' => e = .returned (.bool true) ∧ Ext w w' := by
  have pa1 := h1.num.nv.cap
  have pb1 := h1.den.cap
  have qa1 := h1.num.nv.le
  have qb1 := h1.den.le
  have e1 := h1.rv (N := 2) (by omega) (by omega) (by omega)
  have HF : Hid (((decide (L1 ≤ 2) && (decide (M1 ≤ 2) && decide (L1 ≤ 2))) && (decide (M1 ≤ 2) && (decide (L1 ≤ 2) && decide (M1 ≤ 2)))) = true) := by show _ = _; simp only [decide_eq_true_eq, Bool.and_eq_true]; omega
  have HO1 : Hid (∀ w', Ext w w' → Calls Try.prog 16 #[Value.agg #[Value.bool s1, Value.slice A1 L1 c1, Value.slice B1 M1 d1]] w' (RetQ w' 64 (mkRat x1 y1))) := fun w' hx => lof5 (h1.ext hx) (by omega) (by omega) (by omega) (by omega)
  generalize mkRat x1 y1 = q1 at *
  clear hl hm h1
  go_enter Try.func8, Try.ntmps8
  go_wp2_with fail
  obtain ⟨w0, hw0⟩ : ∃ z : World, z = (w.alloc (.cells #[.bool s1, .slice A1 L1 c1, .slice B1 M1 d1] 27)) := ⟨_, rfl⟩
  rw [← hw0]
  have b0 := box_at w #[.bool s1, .slice A1 L1 c1, .slice B1 M1 d1] 27
  have hsz : w0.heap.size = w.heap.size + 1 := by rw [hw0]; simp
  rw [← hw0] at b0
  have y0 : Ext w w0 := by rw [hw0]; exact Ext.alloc _ _
  have x0 : Ext w w0 := y0
  have e0_0 := b0.1 0 (.bool s1) rfl
  have e0_1 := b0.1 1 (.slice A1 L1 c1) rfl
  have e0_2 := b0.1 2 (.slice B1 M1 d1) rfl
  clear hw0 b0 y0
  go_wp2_with fail
  refine (awake5 _).mono ?_
  rintro e w1 ⟨rfl, x1⟩
  replace e0_0 := x1.cell e0_0
  replace e0_1 := x1.cell e0_1
  replace e0_2 := x1.cell e0_2
  go_wp2_with fail
  refine (few5 (n := 2) (by omega) (by omega) (by omega) (by omega) (by omega) (by omega)).mono ?_
  rintro e w2 ⟨rfl, x2⟩
  replace e0_0 := x2.cell e0_0
  replace e0_1 := x2.cell e0_1
  replace e0_2 := x2.cell e0_2
  rw [HF.out]
  clear hsz
  have hKd : decide ((kN : Int) < 0) = false := decide_eq_false (by omega)
  go_wp2_with fail
  refine (rpow_r (k := kN) (e1.ext (by repeat' (first | with_reducible exact Ext.refl _ | with_reducible assumption | with_reducible apply Ext.alloc_r | with_reducible apply Ext.drew_r | with_reducible apply Ext.drewN_r | with_reducible refine Ext.trans ?_ ‹Ext _ _›))) (by omega) (by omega) (by omega)).mono ?_
  rintro e w3 ⟨sz, Az, cz, Lz, Bz, dz, Mz, rfl, z, x3⟩
  replace e0_0 := x3.cell e0_0
  replace e0_1 := x3.cell e0_1
  replace e0_2 := x3.cell e0_2
  have te0_0 := fun o => (Ext.alloc w3 o).cell e0_0
  have te0_1 := fun o => (Ext.alloc w3 o).cell e0_1
  have te0_2 := fun o => (Ext.alloc w3 o).cell e0_2
  go_wp2_with fail
  clear te0_0 te0_1 te0_2
  obtain ⟨w4, hw⟩ : ∃ z : World, z = (w3.alloc (.cells #[.bool sz, .slice Az Lz cz, .slice Bz Mz dz] 27)) := ⟨_, rfl⟩
  rw [← hw]
  have x4 : Ext w3 w4 := by rw [hw]; exact Ext.alloc _ _
  have bb := box_at w3 #[.bool sz, .slice Az Lz cz, .slice Bz Mz dz] 27
  rw [← hw] at bb
  replace e0_0 := x4.cell e0_0
  replace e0_1 := x4.cell e0_1
  replace e0_2 := x4.cell e0_2
  have z_0 := bb.1 0 (.bool sz) rfl
  have z_1 := bb.1 1 (.slice Az Lz cz) rfl
  have z_2 := bb.1 2 (.slice Bz Mz dz) rfl
  clear hw bb
  go_wp2_with fail
  refine (HO1.out _ (by repeat' (first | with_reducible exact Ext.refl _ | with_reducible assumption | with_reducible apply Ext.alloc_r | with_reducible apply Ext.drew_r | with_reducible apply Ext.drewN_r | with_reducible refine Ext.trans ?_ ‹Ext _ _›))).mono ?_
  rintro e w5 ⟨gx, Ax, cx, Lx, hx, Bx, dx, Mx, rfl, x, x5⟩
  replace e0_0 := x5.cell e0_0
  replace e0_1 := x5.cell e0_1
  replace e0_2 := x5.cell e0_2
  replace z_0 := x5.cell z_0
  replace z_1 := x5.cell z_1
  replace z_2 := x5.cell z_2
  have hgx : (gx == 0) = true := by rw [x.sign]; rw [hq]; rfl
  clear hq
  have te0_0 := fun o => (Ext.alloc w5 o).cell e0_0
  have te0_1 := fun o => (Ext.alloc w5 o).cell e0_1
  have te0_2 := fun o => (Ext.alloc w5 o).cell e0_2
  have tz_0 := fun o => (Ext.alloc w5 o).cell z_0
  have tz_1 := fun o => (Ext.alloc w5 o).cell z_1
  have tz_2 := fun o => (Ext.alloc w5 o).cell z_2
  go_wp2_with fail
  clear te0_0 te0_1 te0_2 tz_0 tz_1 tz_2
  obtain ⟨w6, hw⟩ : ∃ z : World, z = (w5.alloc (.cells #[.int .i64 gx, .slice Ax Lx cx, .int .i64 hx, .slice Bx Mx dx] 38)) := ⟨_, rfl⟩
  rw [← hw]
  have x6 : Ext w5 w6 := by rw [hw]; exact Ext.alloc _ _
  have bb := box_at w5 #[.int .i64 gx, .slice Ax Lx cx, .int .i64 hx, .slice Bx Mx dx] 38
  rw [← hw] at bb
  replace e0_0 := x6.cell e0_0
  replace e0_1 := x6.cell e0_1
  replace e0_2 := x6.cell e0_2
  replace z_0 := x6.cell z_0
  replace z_1 := x6.cell z_1
  replace z_2 := x6.cell z_2
  have x_0 := bb.1 0 (.int .i64 gx) rfl
  have x_1 := bb.1 1 (.slice Ax Lx cx) rfl
  have x_2 := bb.1 2 (.int .i64 hx) rfl
  have x_3 := bb.1 3 (.slice Bx Mx dx) rfl
  clear hw bb
  go_wp2_with fail
  refine (small_rz (n := 1) (by omega)).mono ?_
  rintro e w7 ⟨gone, Aone, cone, Lone, rfl, one, x7⟩
  replace e0_0 := x7.cell e0_0
  replace e0_1 := x7.cell e0_1
  replace e0_2 := x7.cell e0_2
  replace z_0 := x7.cell z_0
  replace z_1 := x7.cell z_1
  replace z_2 := x7.cell z_2
  replace x_0 := x7.cell x_0
  replace x_1 := x7.cell x_1
  replace x_2 := x7.cell x_2
  replace x_3 := x7.cell x_3
  go_wp2_with fail
  refine (small_rz (n := 1) (by omega)).mono ?_
  rintro e w8 ⟨gtwo, Atwo, ctwo, Ltwo, rfl, two, x8⟩
  replace e0_0 := x8.cell e0_0
  replace e0_1 := x8.cell e0_1
  replace e0_2 := x8.cell e0_2
  replace z_0 := x8.cell z_0
  replace z_1 := x8.cell z_1
  replace z_2 := x8.cell z_2
  replace x_0 := x8.cell x_0
  replace x_1 := x8.cell x_1
  replace x_2 := x8.cell x_2
  replace x_3 := x8.cell x_3
  have sv_e0_0 := e0_0
  have sv_e0_1 := e0_1
  have sv_e0_2 := e0_2
  have sv_z_0 := z_0
  have sv_z_1 := z_1
  have sv_z_2 := z_2
  have sv_x_0 := x_0
  have sv_x_1 := x_1
  have sv_x_2 := x_2
  have sv_x_3 := x_3
  have te0_0 := fun o => (Ext.alloc w8 o).cell e0_0
  have te0_1 := fun o => (Ext.alloc w8 o).cell e0_1
  have te0_2 := fun o => (Ext.alloc w8 o).cell e0_2
  have tz_0 := fun o => (Ext.alloc w8 o).cell z_0
  have tz_1 := fun o => (Ext.alloc w8 o).cell z_1
  have tz_2 := fun o => (Ext.alloc w8 o).cell z_2
  have tx_0 := fun o => (Ext.alloc w8 o).cell x_0
  have tx_1 := fun o => (Ext.alloc w8 o).cell x_1
  have tx_2 := fun o => (Ext.alloc w8 o).cell x_2
  have tx_3 := fun o => (Ext.alloc w8 o).cell x_3
  go_wp2_with fail
  clear te0_0 te0_1 te0_2 tz_0 tz_1 tz_2 tx_0 tx_1 tx_2 tx_3
  obtain ⟨w9, hw⟩ : ∃ z : World, z = w8.alloc (.cells #[.int .i64 gone, .slice Aone Lone cone, .int .i64 gtwo, .slice Atwo Ltwo ctwo] 38) := ⟨_, rfl⟩
  rw [← hw]
  have x9 : Ext w8 w9 := by rw [hw]; exact Ext.alloc _ _
  have bkwant : BK w9 w8.heap.size 38 #[.int .i64 gone, .slice Aone Lone cone, .int .i64 gtwo, .slice Atwo Ltwo ctwo] := by rw [hw]; exact BK.new _ _ _
  clear hw
  replace e0_0 := x9.cell e0_0
  replace e0_1 := x9.cell e0_1
  replace e0_2 := x9.cell e0_2
  replace z_0 := x9.cell z_0
  replace z_1 := x9.cell z_1
  replace z_2 := x9.cell z_2
  replace x_0 := x9.cell x_0
  replace x_1 := x9.cell x_1
  replace x_2 := x9.cell x_2
  replace x_3 := x9.cell x_3
  have HW1 : Hid (QR w9 gone Aone cone Lone gtwo Atwo ctwo Ltwo 1 1) := qr_one (one.ext (by repeat' (first | with_reducible exact Ext.refl _ | with_reducible assumption | with_reducible apply Ext.alloc_r | with_reducible apply Ext.drew_r | with_reducible apply Ext.drewN_r | with_reducible refine Ext.trans ?_ ‹Ext _ _›))) (two.ext (by repeat' (first | with_reducible exact Ext.refl _ | with_reducible assumption | with_reducible apply Ext.alloc_r | with_reducible apply Ext.drew_r | with_reducible apply Ext.drewN_r | with_reducible refine Ext.trans ?_ ‹Ext _ _›)))
  clear one two
  have HX := Lib.hid (x.ext (show Ext _ w8 from (by repeat' (first | with_reducible exact Ext.refl _ | with_reducible assumption | with_reducible apply Ext.alloc_r | with_reducible apply Ext.drew_r | with_reducible apply Ext.drewN_r | with_reducible refine Ext.trans ?_ ‹Ext _ _›))) : QR w8 _ _ _ _ _ _ _ _ _ _)
  clear x
  have hbw : w8.heap.size ≤ w8.heap.size := Nat.le_refl _
  have HZ := Lib.hid z
  clear z
  go_wp2_with fail
  go_loopw [10] (fun iv wr => ∃ (i : Nat) (g h : Int) (A B : Option Addr) (c L d M : Nat), iv = .int .i64 i ∧ i ≤ kN ∧ BK wr w8.heap.size 38 #[.int .i64 g, .slice A L c, .int .i64 h, .slice B M d] ∧ Hid (QR wr g A c L h B d M (64 * i + 1) (q1 ^ i)) ∧ Ext w8 wr) (fun iv _ => kN - (intOf iv).toNat)
  case atStart => exact ⟨0, gone, gtwo, Aone, Atwo, cone, Lone, ctwo, Ltwo, by go_num, Nat.zero_le _, bkwant, (by show QR _ _ _ _ _ _ _ _ _ _ _; rw [Rat.pow_zero]; exact HW1.out.wide (by omega)), (by repeat' (first | with_reducible exact Ext.refl _ | with_reducible assumption | with_reducible apply Ext.alloc_r | with_reducible apply Ext.drew_r | with_reducible apply Ext.drewN_r | with_reducible refine Ext.trans ?_ ‹Ext _ _›))⟩
  case round =>
    clear HW1 bkwant
    obtain ⟨i, g, h, A, B, c, L, d, M, rfl, hik, hbk, HQ, hx⟩ := hrel
    have c0 := hbk.c 0 (.int .i64 g) rfl
    have c1 := hbk.c 1 (.slice A L c) rfl
    have c2 := hbk.c 2 (.int .i64 h) rfl
    have c3 := hbk.c 3 (.slice B M d) rfl
    replace e0_0 := hx.cell sv_e0_0
    replace e0_1 := hx.cell sv_e0_1
    replace e0_2 := hx.cell sv_e0_2
    replace z_0 := hx.cell sv_z_0
    replace z_1 := hx.cell sv_z_1
    replace z_2 := hx.cell sv_z_2
    replace x_0 := hx.cell sv_x_0
    replace x_1 := hx.cell sv_x_1
    replace x_2 := hx.cell sv_x_2
    replace x_3 := hx.cell sv_x_3
    by_cases hik2 : i < kN
    · go_wp2_with fail
      refine (qmul_r HQ.out (HX.out.ext hx) (by omega) (by omega)).mono ?_
      rintro e w9 ⟨g9, A9, c9, L9, h9, B9, d9, M9, rfl, z9, x9⟩
      have HZ9 := Lib.hid z9
      have hb9 := hbk.ext x9
      clear z9 HQ c0 c1 c2 c3 hbk
      have c0 := hb9.c 0 (.int .i64 g) rfl
      have c1 := hb9.c 1 (.slice A L c) rfl
      have c2 := hb9.c 2 (.int .i64 h) rfl
      have c3 := hb9.c 3 (.slice B M d) rfl
      have f0 := hb9.f 0
      have f1 := hb9.f 1
      have f2 := hb9.f 2
      have f3 := hb9.f 3
      go_wp2_with fail
      clear c0 c1 c2 c3 f0 f1 f2 f3
      obtain ⟨ww, hww⟩ : ∃ z : World, z = (((w9.setCell ⟨w8.heap.size, 0, none⟩ (.int .i64 g9)).setCell ⟨w8.heap.size, 1, none⟩ (.slice A9 L9 c9)).setCell ⟨w8.heap.size, 2, none⟩ (.int .i64 h9)).setCell ⟨w8.heap.size, 3, none⟩ (.slice B9 M9 d9) := ⟨_, rfl⟩
      rw [← hww]
      have hk : Kept w9 ww := by
        rw [hww]
        exact Kept.set_ (Kept.set_ (Kept.set_ (Kept.set_ (Kept.refl _) hb9.isBox plain_Q) hb9.isBox.set_ plain_Q) hb9.isBox.set_.set_ plain_Q) hb9.isBox.set_.set_.set_ plain_Q
      have nb : BK ww w8.heap.size 38 #[.int .i64 g9, .slice A9 L9 c9, .int .i64 h9, .slice B9 M9 d9] := by
        rw [hww]
        exact BK.set (BK.set (BK.set (BK.set (vs' := #[.int .i64 g9, .slice A L c, .int .i64 h, .slice B M d]) hb9 rfl) (vs' := #[.int .i64 g9, .slice A9 L9 c9, .int .i64 h, .slice B M d]) rfl) (vs' := #[.int .i64 g9, .slice A9 L9 c9, .int .i64 h9, .slice B M d]) rfl) rfl
      have hxx : Ext w8 ww := by
        rw [hww]
        exact ((((hx.trans x9).set_ hbw).set_ hbw).set_ hbw).set_ hbw
      have HZ8 := Lib.hid ((HZ9.out.kept hk).wide (show 64 * i + 1 + 64 ≤ 64 * (i + 1) + 1 by omega))
      clear hww hk hb9 HZ9
      go_roundw
      case rel =>
        refine ⟨i + 1, g9, h9, A9, B9, c9, L9, d9, M9, by go_num, by omega, nb, ?_, hxx⟩
        show QR _ _ _ _ _ _ _ _ _ _ _
        rw [Rat.pow_succ]
        exact HZ8.out
      case measure => simp [intOf]; omega
    · obtain rfl : i = kN := by omega
      have hnone := True.intro
      clear hnone
      go_wp2_with fail
      refine (rof_r (n := 3) (by omega)).mono ?_
      rintro e w10 ⟨so3, Ao3, co3, Lo3, Bo3, do3, Mo3, rfl, o3, x10⟩
      replace e0_0 := x10.cell e0_0
      replace e0_1 := x10.cell e0_1
      replace e0_2 := x10.cell e0_2
      replace z_0 := x10.cell z_0
      replace z_1 := x10.cell z_1
      replace z_2 := x10.cell z_2
      replace x_0 := x10.cell x_0
      replace x_1 := x10.cell x_1
      replace x_2 := x10.cell x_2
      replace x_3 := x10.cell x_3
      replace c0 := x10.cell c0
      replace c1 := x10.cell c1
      replace c2 := x10.cell c2
      replace c3 := x10.cell c3
      go_wp2_with fail
      refine (rpow_far (k := 16777216) (o3.rv.ext (by repeat' (first | with_reducible exact Ext.refl _ | with_reducible assumption | with_reducible apply Ext.alloc_r | with_reducible apply Ext.drew_r | with_reducible apply Ext.drewN_r | with_reducible refine Ext.trans ?_ ‹Ext _ _›))) (by omega) (by omega) far3).mono ?_
      rintro e w11 ⟨rfl, x11⟩
      replace e0_0 := x11.cell e0_0
      replace e0_1 := x11.cell e0_1
      replace e0_2 := x11.cell e0_2
      replace z_0 := x11.cell z_0
      replace z_1 := x11.cell z_1
      replace z_2 := x11.cell z_2
      replace x_0 := x11.cell x_0
      replace x_1 := x11.cell x_1
      replace x_2 := x11.cell x_2
      replace x_3 := x11.cell x_3
      replace c0 := x11.cell c0
      replace c1 := x11.cell c1
      replace c2 := x11.cell c2
      replace c3 := x11.cell c3
      have te0_0 := fun o => (Ext.alloc w11 o).cell e0_0
      have te0_1 := fun o => (Ext.alloc w11 o).cell e0_1
      have te0_2 := fun o => (Ext.alloc w11 o).cell e0_2
      have tz_0 := fun o => (Ext.alloc w11 o).cell z_0
      have tz_1 := fun o => (Ext.alloc w11 o).cell z_1
      have tz_2 := fun o => (Ext.alloc w11 o).cell z_2
      have tx_0 := fun o => (Ext.alloc w11 o).cell x_0
      have tx_1 := fun o => (Ext.alloc w11 o).cell x_1
      have tx_2 := fun o => (Ext.alloc w11 o).cell x_2
      have tx_3 := fun o => (Ext.alloc w11 o).cell x_3
      have tc0 := fun o => (Ext.alloc w11 o).cell c0
      have tc1 := fun o => (Ext.alloc w11 o).cell c1
      have tc2 := fun o => (Ext.alloc w11 o).cell c2
      have tc3 := fun o => (Ext.alloc w11 o).cell c3
      go_wp2_with fail
      clear te0_0 te0_1 te0_2 tz_0 tz_1 tz_2 tx_0 tx_1 tx_2 tx_3 tc0 tc1 tc2 tc3
      obtain ⟨w12, hw⟩ : ∃ z : World, z = (w11.alloc (.cells #[.bool false, .slice none 0 0, .slice none 0 0] 27)) := ⟨_, rfl⟩
      rw [← hw]
      have x12 : Ext w11 w12 := by rw [hw]; exact Ext.alloc _ _
      have bb := box_at w11 #[.bool false, .slice none 0 0, .slice none 0 0] 27
      rw [← hw] at bb
      replace e0_0 := x12.cell e0_0
      replace e0_1 := x12.cell e0_1
      replace e0_2 := x12.cell e0_2
      replace z_0 := x12.cell z_0
      replace z_1 := x12.cell z_1
      replace z_2 := x12.cell z_2
      replace x_0 := x12.cell x_0
      replace x_1 := x12.cell x_1
      replace x_2 := x12.cell x_2
      replace x_3 := x12.cell x_3
      replace c0 := x12.cell c0
      replace c1 := x12.cell c1
      replace c2 := x12.cell c2
      replace c3 := x12.cell c3
      have o_0 := bb.1 0 (.bool false) rfl
      have o_1 := bb.1 1 (.slice none 0 0) rfl
      have o_2 := bb.1 2 (.slice none 0 0) rfl
      clear hw bb
      go_wp2_with fail
      refine (lis5 (HZ.out.ext (by repeat' (first | with_reducible exact Ext.refl _ | with_reducible assumption | with_reducible apply Ext.alloc_r | with_reducible apply Ext.drew_r | with_reducible apply Ext.drewN_r | with_reducible refine Ext.trans ?_ ‹Ext _ _›))) (HQ.out.ext (by repeat' (first | with_reducible exact Ext.refl _ | with_reducible assumption | with_reducible apply Ext.alloc_r | with_reducible apply Ext.drew_r | with_reducible apply Ext.drewN_r | with_reducible refine Ext.trans ?_ ‹Ext _ _›))) rfl (by omega)).mono ?_
      rintro e w13 ⟨rfl, x13⟩
      replace e0_0 := x13.cell e0_0
      replace e0_1 := x13.cell e0_1
      replace e0_2 := x13.cell e0_2
      replace z_0 := x13.cell z_0
      replace z_1 := x13.cell z_1
      replace z_2 := x13.cell z_2
      replace x_0 := x13.cell x_0
      replace x_1 := x13.cell x_1
      replace x_2 := x13.cell x_2
      replace x_3 := x13.cell x_3
      replace c0 := x13.cell c0
      replace c1 := x13.cell c1
      replace c2 := x13.cell c2
      replace c3 := x13.cell c3
      replace o_0 := x13.cell o_0
      replace o_1 := x13.cell o_1
      replace o_2 := x13.cell o_2
      go_wp2_with fail
      go_ret
      exact ⟨rfl, (by repeat' (first | with_reducible exact Ext.refl _ | with_reducible assumption | with_reducible apply Ext.alloc_r | with_reducible apply Ext.drew_r | with_reducible apply Ext.drewN_r | with_reducible refine Ext.trans ?_ ‹Ext _ _›))⟩
set_option maxHeartbeats 40000000 in
set_option maxRecDepth 100000 in
theorem rationalPowers_c {w : World} {s1 : Bool} {A1 B1 : Option Addr} {c1 L1 d1 M1 : Nat} {x1 : Int} {y1 : Nat} {z : Int} (h1 : RW w s1 A1 c1 L1 B1 d1 M1 x1 y1) (hl : L1 ≤ 2) (hm : M1 ≤ 2) {kN : Nat} (hK0 : wrap64 (z.tmod 13) = (kN : Int)) (hKb : kN ≤ 12) (hq : (mkRat x1 y1).num.sign ≠ 0) :
    Calls Try.prog 8 #[Value.agg #[Value.bool s1, Value.slice A1 L1 c1, Value.slice B1 M1 d1], .int .i8 z] w fun e w' => e = .returned (.bool true) ∧ Ext w w' := by
  have pa1 := h1.num.nv.cap
  have pb1 := h1.den.cap
  have qa1 := h1.num.nv.le
  have qb1 := h1.den.le
  have e1 := h1.rv (N := 2) (by omega) (by omega) (by omega)
  have HF : Hid (((decide (L1 ≤ 2) && (decide (M1 ≤ 2) && decide (L1 ≤ 2))) && (decide (M1 ≤ 2) && (decide (L1 ≤ 2) && decide (M1 ≤ 2)))) = true) := by show _ = _; simp only [decide_eq_true_eq, Bool.and_eq_true]; omega
  have HO1 : Hid (∀ w', Ext w w' → Calls Try.prog 16 #[Value.agg #[Value.bool s1, Value.slice A1 L1 c1, Value.slice B1 M1 d1]] w' (RetQ w' 64 (mkRat x1 y1))) := fun w' hx => lof5 (h1.ext hx) (by omega) (by omega) (by omega) (by omega)
  generalize mkRat x1 y1 = q1 at *
  clear hl hm h1
  go_enter Try.func8, Try.ntmps8
  go_wp2_with fail
  obtain ⟨w0, hw0⟩ : ∃ z : World, z = (w.alloc (.cells #[.bool s1, .slice A1 L1 c1, .slice B1 M1 d1] 27)) := ⟨_, rfl⟩
  rw [← hw0]
  have b0 := box_at w #[.bool s1, .slice A1 L1 c1, .slice B1 M1 d1] 27
  have hsz : w0.heap.size = w.heap.size + 1 := by rw [hw0]; simp
  rw [← hw0] at b0
  have y0 : Ext w w0 := by rw [hw0]; exact Ext.alloc _ _
  have x0 : Ext w w0 := y0
  have e0_0 := b0.1 0 (.bool s1) rfl
  have e0_1 := b0.1 1 (.slice A1 L1 c1) rfl
  have e0_2 := b0.1 2 (.slice B1 M1 d1) rfl
  clear hw0 b0 y0
  go_wp2_with fail
  refine (awake5 _).mono ?_
  rintro e w1 ⟨rfl, x1⟩
  replace e0_0 := x1.cell e0_0
  replace e0_1 := x1.cell e0_1
  replace e0_2 := x1.cell e0_2
  go_wp2_with fail
  refine (few5 (n := 2) (by omega) (by omega) (by omega) (by omega) (by omega) (by omega)).mono ?_
  rintro e w2 ⟨rfl, x2⟩
  replace e0_0 := x2.cell e0_0
  replace e0_1 := x2.cell e0_1
  replace e0_2 := x2.cell e0_2
  rw [HF.out]
  clear hsz
  have hKd : decide ((kN : Int) < 0) = false := decide_eq_false (by omega)
  go_wp2_with fail
  refine (rpow_r (k := kN) (e1.ext (by repeat' (first | with_reducible exact Ext.refl _ | with_reducible assumption | with_reducible apply Ext.alloc_r | with_reducible apply Ext.drew_r | with_reducible apply Ext.drewN_r | with_reducible refine Ext.trans ?_ ‹Ext _ _›))) (by omega) (by omega) (by omega)).mono ?_
  rintro e w3 ⟨sz, Az, cz, Lz, Bz, dz, Mz, rfl, z, x3⟩
  replace e0_0 := x3.cell e0_0
  replace e0_1 := x3.cell e0_1
  replace e0_2 := x3.cell e0_2
  have te0_0 := fun o => (Ext.alloc w3 o).cell e0_0
  have te0_1 := fun o => (Ext.alloc w3 o).cell e0_1
  have te0_2 := fun o => (Ext.alloc w3 o).cell e0_2
  go_wp2_with fail
  clear te0_0 te0_1 te0_2
  obtain ⟨w4, hw⟩ : ∃ z : World, z = (w3.alloc (.cells #[.bool sz, .slice Az Lz cz, .slice Bz Mz dz] 27)) := ⟨_, rfl⟩
  rw [← hw]
  have x4 : Ext w3 w4 := by rw [hw]; exact Ext.alloc _ _
  have bb := box_at w3 #[.bool sz, .slice Az Lz cz, .slice Bz Mz dz] 27
  rw [← hw] at bb
  replace e0_0 := x4.cell e0_0
  replace e0_1 := x4.cell e0_1
  replace e0_2 := x4.cell e0_2
  have z_0 := bb.1 0 (.bool sz) rfl
  have z_1 := bb.1 1 (.slice Az Lz cz) rfl
  have z_2 := bb.1 2 (.slice Bz Mz dz) rfl
  clear hw bb
  go_wp2_with fail
  refine (HO1.out _ (by repeat' (first | with_reducible exact Ext.refl _ | with_reducible assumption | with_reducible apply Ext.alloc_r | with_reducible apply Ext.drew_r | with_reducible apply Ext.drewN_r | with_reducible refine Ext.trans ?_ ‹Ext _ _›))).mono ?_
  rintro e w5 ⟨gx, Ax, cx, Lx, hx, Bx, dx, Mx, rfl, x, x5⟩
  replace e0_0 := x5.cell e0_0
  replace e0_1 := x5.cell e0_1
  replace e0_2 := x5.cell e0_2
  replace z_0 := x5.cell z_0
  replace z_1 := x5.cell z_1
  replace z_2 := x5.cell z_2
  have hgx : (gx == 0) = false := by rw [x.sign]; exact beq_eq_false_iff_ne.2 hq
  clear hq
  have te0_0 := fun o => (Ext.alloc w5 o).cell e0_0
  have te0_1 := fun o => (Ext.alloc w5 o).cell e0_1
  have te0_2 := fun o => (Ext.alloc w5 o).cell e0_2
  have tz_0 := fun o => (Ext.alloc w5 o).cell z_0
  have tz_1 := fun o => (Ext.alloc w5 o).cell z_1
  have tz_2 := fun o => (Ext.alloc w5 o).cell z_2
  go_wp2_with fail
  clear te0_0 te0_1 te0_2 tz_0 tz_1 tz_2
  obtain ⟨w6, hw⟩ : ∃ z : World, z = (w5.alloc (.cells #[.int .i64 gx, .slice Ax Lx cx, .int .i64 hx, .slice Bx Mx dx] 38)) := ⟨_, rfl⟩
  rw [← hw]
  have x6 : Ext w5 w6 := by rw [hw]; exact Ext.alloc _ _
  have bb := box_at w5 #[.int .i64 gx, .slice Ax Lx cx, .int .i64 hx, .slice Bx Mx dx] 38
  rw [← hw] at bb
  replace e0_0 := x6.cell e0_0
  replace e0_1 := x6.cell e0_1
  replace e0_2 := x6.cell e0_2
  replace z_0 := x6.cell z_0
  replace z_1 := x6.cell z_1
  replace z_2 := x6.cell z_2
  have x_0 := bb.1 0 (.int .i64 gx) rfl
  have x_1 := bb.1 1 (.slice Ax Lx cx) rfl
  have x_2 := bb.1 2 (.int .i64 hx) rfl
  have x_3 := bb.1 3 (.slice Bx Mx dx) rfl
  clear hw bb
  go_wp2_with fail
  refine (small_rz (n := 1) (by omega)).mono ?_
  rintro e w7 ⟨gone, Aone, cone, Lone, rfl, one, x7⟩
  replace e0_0 := x7.cell e0_0
  replace e0_1 := x7.cell e0_1
  replace e0_2 := x7.cell e0_2
  replace z_0 := x7.cell z_0
  replace z_1 := x7.cell z_1
  replace z_2 := x7.cell z_2
  replace x_0 := x7.cell x_0
  replace x_1 := x7.cell x_1
  replace x_2 := x7.cell x_2
  replace x_3 := x7.cell x_3
  go_wp2_with fail
  refine (small_rz (n := 1) (by omega)).mono ?_
  rintro e w8 ⟨gtwo, Atwo, ctwo, Ltwo, rfl, two, x8⟩
  replace e0_0 := x8.cell e0_0
  replace e0_1 := x8.cell e0_1
  replace e0_2 := x8.cell e0_2
  replace z_0 := x8.cell z_0
  replace z_1 := x8.cell z_1
  replace z_2 := x8.cell z_2
  replace x_0 := x8.cell x_0
  replace x_1 := x8.cell x_1
  replace x_2 := x8.cell x_2
  replace x_3 := x8.cell x_3
  have sv_e0_0 := e0_0
  have sv_e0_1 := e0_1
  have sv_e0_2 := e0_2
  have sv_z_0 := z_0
  have sv_z_1 := z_1
  have sv_z_2 := z_2
  have sv_x_0 := x_0
  have sv_x_1 := x_1
  have sv_x_2 := x_2
  have sv_x_3 := x_3
  have te0_0 := fun o => (Ext.alloc w8 o).cell e0_0
  have te0_1 := fun o => (Ext.alloc w8 o).cell e0_1
  have te0_2 := fun o => (Ext.alloc w8 o).cell e0_2
  have tz_0 := fun o => (Ext.alloc w8 o).cell z_0
  have tz_1 := fun o => (Ext.alloc w8 o).cell z_1
  have tz_2 := fun o => (Ext.alloc w8 o).cell z_2
  have tx_0 := fun o => (Ext.alloc w8 o).cell x_0
  have tx_1 := fun o => (Ext.alloc w8 o).cell x_1
  have tx_2 := fun o => (Ext.alloc w8 o).cell x_2
  have tx_3 := fun o => (Ext.alloc w8 o).cell x_3
  go_wp2_with fail
  clear te0_0 te0_1 te0_2 tz_0 tz_1 tz_2 tx_0 tx_1 tx_2 tx_3
  obtain ⟨w9, hw⟩ : ∃ z : World, z = w8.alloc (.cells #[.int .i64 gone, .slice Aone Lone cone, .int .i64 gtwo, .slice Atwo Ltwo ctwo] 38) := ⟨_, rfl⟩
  rw [← hw]
  have x9 : Ext w8 w9 := by rw [hw]; exact Ext.alloc _ _
  have bkwant : BK w9 w8.heap.size 38 #[.int .i64 gone, .slice Aone Lone cone, .int .i64 gtwo, .slice Atwo Ltwo ctwo] := by rw [hw]; exact BK.new _ _ _
  clear hw
  replace e0_0 := x9.cell e0_0
  replace e0_1 := x9.cell e0_1
  replace e0_2 := x9.cell e0_2
  replace z_0 := x9.cell z_0
  replace z_1 := x9.cell z_1
  replace z_2 := x9.cell z_2
  replace x_0 := x9.cell x_0
  replace x_1 := x9.cell x_1
  replace x_2 := x9.cell x_2
  replace x_3 := x9.cell x_3
  have HW1 : Hid (QR w9 gone Aone cone Lone gtwo Atwo ctwo Ltwo 1 1) := qr_one (one.ext (by repeat' (first | with_reducible exact Ext.refl _ | with_reducible assumption | with_reducible apply Ext.alloc_r | with_reducible apply Ext.drew_r | with_reducible apply Ext.drewN_r | with_reducible refine Ext.trans ?_ ‹Ext _ _›))) (two.ext (by repeat' (first | with_reducible exact Ext.refl _ | with_reducible assumption | with_reducible apply Ext.alloc_r | with_reducible apply Ext.drew_r | with_reducible apply Ext.drewN_r | with_reducible refine Ext.trans ?_ ‹Ext _ _›)))
  clear one two
  have HX := Lib.hid (x.ext (show Ext _ w8 from (by repeat' (first | with_reducible exact Ext.refl _ | with_reducible assumption | with_reducible apply Ext.alloc_r | with_reducible apply Ext.drew_r | with_reducible apply Ext.drewN_r | with_reducible refine Ext.trans ?_ ‹Ext _ _›))) : QR w8 _ _ _ _ _ _ _ _ _ _)
  clear x
  have hbw : w8.heap.size ≤ w8.heap.size := Nat.le_refl _
  have HZ := Lib.hid z
  clear z
  go_wp2_with fail
  go_loopw [10] (fun iv wr => ∃ (i : Nat) (g h : Int) (A B : Option Addr) (c L d M : Nat), iv = .int .i64 i ∧ i ≤ kN ∧ BK wr w8.heap.size 38 #[.int .i64 g, .slice A L c, .int .i64 h, .slice B M d] ∧ Hid (QR wr g A c L h B d M (64 * i + 1) (q1 ^ i)) ∧ Ext w8 wr) (fun iv _ => kN - (intOf iv).toNat)
  case atStart => exact ⟨0, gone, gtwo, Aone, Atwo, cone, Lone, ctwo, Ltwo, by go_num, Nat.zero_le _, bkwant, (by show QR _ _ _ _ _ _ _ _ _ _ _; rw [Rat.pow_zero]; exact HW1.out.wide (by omega)), (by repeat' (first | with_reducible exact Ext.refl _ | with_reducible assumption | with_reducible apply Ext.alloc_r | with_reducible apply Ext.drew_r | with_reducible apply Ext.drewN_r | with_reducible refine Ext.trans ?_ ‹Ext _ _›))⟩
  case round =>
    clear HW1 bkwant
    obtain ⟨i, g, h, A, B, c, L, d, M, rfl, hik, hbk, HQ, hx⟩ := hrel
    have c0 := hbk.c 0 (.int .i64 g) rfl
    have c1 := hbk.c 1 (.slice A L c) rfl
    have c2 := hbk.c 2 (.int .i64 h) rfl
    have c3 := hbk.c 3 (.slice B M d) rfl
    replace e0_0 := hx.cell sv_e0_0
    replace e0_1 := hx.cell sv_e0_1
    replace e0_2 := hx.cell sv_e0_2
    replace z_0 := hx.cell sv_z_0
    replace z_1 := hx.cell sv_z_1
    replace z_2 := hx.cell sv_z_2
    replace x_0 := hx.cell sv_x_0
    replace x_1 := hx.cell sv_x_1
    replace x_2 := hx.cell sv_x_2
    replace x_3 := hx.cell sv_x_3
    by_cases hik2 : i < kN
    · go_wp2_with fail
      refine (qmul_r HQ.out (HX.out.ext hx) (by omega) (by omega)).mono ?_
      rintro e w9 ⟨g9, A9, c9, L9, h9, B9, d9, M9, rfl, z9, x9⟩
      have HZ9 := Lib.hid z9
      have hb9 := hbk.ext x9
      clear z9 HQ c0 c1 c2 c3 hbk
      have c0 := hb9.c 0 (.int .i64 g) rfl
      have c1 := hb9.c 1 (.slice A L c) rfl
      have c2 := hb9.c 2 (.int .i64 h) rfl
      have c3 := hb9.c 3 (.slice B M d) rfl
      have f0 := hb9.f 0
      have f1 := hb9.f 1
      have f2 := hb9.f 2
      have f3 := hb9.f 3
      go_wp2_with fail
      clear c0 c1 c2 c3 f0 f1 f2 f3
      obtain ⟨ww, hww⟩ : ∃ z : World, z = (((w9.setCell ⟨w8.heap.size, 0, none⟩ (.int .i64 g9)).setCell ⟨w8.heap.size, 1, none⟩ (.slice A9 L9 c9)).setCell ⟨w8.heap.size, 2, none⟩ (.int .i64 h9)).setCell ⟨w8.heap.size, 3, none⟩ (.slice B9 M9 d9) := ⟨_, rfl⟩
      rw [← hww]
      have hk : Kept w9 ww := by
        rw [hww]
        exact Kept.set_ (Kept.set_ (Kept.set_ (Kept.set_ (Kept.refl _) hb9.isBox plain_Q) hb9.isBox.set_ plain_Q) hb9.isBox.set_.set_ plain_Q) hb9.isBox.set_.set_.set_ plain_Q
      have nb : BK ww w8.heap.size 38 #[.int .i64 g9, .slice A9 L9 c9, .int .i64 h9, .slice B9 M9 d9] := by
        rw [hww]
        exact BK.set (BK.set (BK.set (BK.set (vs' := #[.int .i64 g9, .slice A L c, .int .i64 h, .slice B M d]) hb9 rfl) (vs' := #[.int .i64 g9, .slice A9 L9 c9, .int .i64 h, .slice B M d]) rfl) (vs' := #[.int .i64 g9, .slice A9 L9 c9, .int .i64 h9, .slice B M d]) rfl) rfl
      have hxx : Ext w8 ww := by
        rw [hww]
        exact ((((hx.trans x9).set_ hbw).set_ hbw).set_ hbw).set_ hbw
      have HZ8 := Lib.hid ((HZ9.out.kept hk).wide (show 64 * i + 1 + 64 ≤ 64 * (i + 1) + 1 by omega))
      clear hww hk hb9 HZ9
      go_roundw
      case rel =>
        refine ⟨i + 1, g9, h9, A9, B9, c9, L9, d9, M9, by go_num, by omega, nb, ?_, hxx⟩
        show QR _ _ _ _ _ _ _ _ _ _ _
        rw [Rat.pow_succ]
        exact HZ8.out
      case measure => simp [intOf]; omega
    · obtain rfl : i = kN := by omega
      have hnone := True.intro
      clear hnone
      go_wp2_with fail
      refine (rof_r (n := 3) (by omega)).mono ?_
      rintro e w10 ⟨so3, Ao3, co3, Lo3, Bo3, do3, Mo3, rfl, o3, x10⟩
      replace e0_0 := x10.cell e0_0
      replace e0_1 := x10.cell e0_1
      replace e0_2 := x10.cell e0_2
      replace z_0 := x10.cell z_0
      replace z_1 := x10.cell z_1
      replace z_2 := x10.cell z_2
      replace x_0 := x10.cell x_0
      replace x_1 := x10.cell x_1
      replace x_2 := x10.cell x_2
      replace x_3 := x10.cell x_3
      replace c0 := x10.cell c0
      replace c1 := x10.cell c1
      replace c2 := x10.cell c2
      replace c3 := x10.cell c3
      go_wp2_with fail
      refine (rpow_far (k := 16777216) (o3.rv.ext (by repeat' (first | with_reducible exact Ext.refl _ | with_reducible assumption | with_reducible apply Ext.alloc_r | with_reducible apply Ext.drew_r | with_reducible apply Ext.drewN_r | with_reducible refine Ext.trans ?_ ‹Ext _ _›))) (by omega) (by omega) far3).mono ?_
      rintro e w11 ⟨rfl, x11⟩
      replace e0_0 := x11.cell e0_0
      replace e0_1 := x11.cell e0_1
      replace e0_2 := x11.cell e0_2
      replace z_0 := x11.cell z_0
      replace z_1 := x11.cell z_1
      replace z_2 := x11.cell z_2
      replace x_0 := x11.cell x_0
      replace x_1 := x11.cell x_1
      replace x_2 := x11.cell x_2
      replace x_3 := x11.cell x_3
      replace c0 := x11.cell c0
      replace c1 := x11.cell c1
      replace c2 := x11.cell c2
      replace c3 := x11.cell c3
      have te0_0 := fun o => (Ext.alloc w11 o).cell e0_0
      have te0_1 := fun o => (Ext.alloc w11 o).cell e0_1
      have te0_2 := fun o => (Ext.alloc w11 o).cell e0_2
      have tz_0 := fun o => (Ext.alloc w11 o).cell z_0
      have tz_1 := fun o => (Ext.alloc w11 o).cell z_1
      have tz_2 := fun o => (Ext.alloc w11 o).cell z_2
      have tx_0 := fun o => (Ext.alloc w11 o).cell x_0
      have tx_1 := fun o => (Ext.alloc w11 o).cell x_1
      have tx_2 := fun o => (Ext.alloc w11 o).cell x_2
      have tx_3 := fun o => (Ext.alloc w11 o).cell x_3
      have tc0 := fun o => (Ext.alloc w11 o).cell c0
      have tc1 := fun o => (Ext.alloc w11 o).cell c1
      have tc2 := fun o => (Ext.alloc w11 o).cell c2
      have tc3 := fun o => (Ext.alloc w11 o).cell c3
      go_wp2_with fail
      clear te0_0 te0_1 te0_2 tz_0 tz_1 tz_2 tx_0 tx_1 tx_2 tx_3 tc0 tc1 tc2 tc3
      obtain ⟨w12, hw⟩ : ∃ z : World, z = (w11.alloc (.cells #[.bool false, .slice none 0 0, .slice none 0 0] 27)) := ⟨_, rfl⟩
      rw [← hw]
      have x12 : Ext w11 w12 := by rw [hw]; exact Ext.alloc _ _
      have bb := box_at w11 #[.bool false, .slice none 0 0, .slice none 0 0] 27
      rw [← hw] at bb
      replace e0_0 := x12.cell e0_0
      replace e0_1 := x12.cell e0_1
      replace e0_2 := x12.cell e0_2
      replace z_0 := x12.cell z_0
      replace z_1 := x12.cell z_1
      replace z_2 := x12.cell z_2
      replace x_0 := x12.cell x_0
      replace x_1 := x12.cell x_1
      replace x_2 := x12.cell x_2
      replace x_3 := x12.cell x_3
      replace c0 := x12.cell c0
      replace c1 := x12.cell c1
      replace c2 := x12.cell c2
      replace c3 := x12.cell c3
      have o_0 := bb.1 0 (.bool false) rfl
      have o_1 := bb.1 1 (.slice none 0 0) rfl
      have o_2 := bb.1 2 (.slice none 0 0) rfl
      clear hw bb
      go_wp2_with fail
      refine (lis5 (HZ.out.ext (by repeat' (first | with_reducible exact Ext.refl _ | with_reducible assumption | with_reducible apply Ext.alloc_r | with_reducible apply Ext.drew_r | with_reducible apply Ext.drewN_r | with_reducible refine Ext.trans ?_ ‹Ext _ _›))) (HQ.out.ext (by repeat' (first | with_reducible exact Ext.refl _ | with_reducible assumption | with_reducible apply Ext.alloc_r | with_reducible apply Ext.drew_r | with_reducible apply Ext.drewN_r | with_reducible refine Ext.trans ?_ ‹Ext _ _›))) rfl (by omega)).mono ?_
      rintro e w13 ⟨rfl, x13⟩
      replace e0_0 := x13.cell e0_0
      replace e0_1 := x13.cell e0_1
      replace e0_2 := x13.cell e0_2
      replace z_0 := x13.cell z_0
      replace z_1 := x13.cell z_1
      replace z_2 := x13.cell z_2
      replace x_0 := x13.cell x_0
      replace x_1 := x13.cell x_1
      replace x_2 := x13.cell x_2
      replace x_3 := x13.cell x_3
      replace c0 := x13.cell c0
      replace c1 := x13.cell c1
      replace c2 := x13.cell c2
      replace c3 := x13.cell c3
      replace o_0 := x13.cell o_0
      replace o_1 := x13.cell o_1
      replace o_2 := x13.cell o_2
      go_wp2_with fail
      go_ret
      exact ⟨rfl, (by repeat' (first | with_reducible exact Ext.refl _ | with_reducible assumption | with_reducible apply Ext.alloc_r | with_reducible apply Ext.drew_r | with_reducible apply Ext.drewN_r | with_reducible refine Ext.trans ?_ ‹Ext _ _›))⟩
set_option maxHeartbeats 40000000 in
set_option maxRecDepth 100000 in
theorem rationalPowers_d {w : World} {s1 : Bool} {A1 B1 : Option Addr} {c1 L1 d1 M1 : Nat} {x1 : Int} {y1 : Nat} {z : Int} (h1 : RW w s1 A1 c1 L1 B1 d1 M1 x1 y1) (hl : L1 ≤ 2) (hm : M1 ≤ 2) {kN : Nat} (hK0 : wrap64 (z.tmod 13) = -(kN : Int)) (hKb : kN ≤ 12) (hK1 : 1 ≤ kN) (hq : mkRat x1 y1 ≠ 0) :
    Calls Try.prog 8 #[Value.agg #[Value.bool s1, Value.slice A1 L1 c1, Value.slice B1 M1 d1], .int .i8 z] w fun e w' => e = .returned (.bool true) ∧ Ext w w' := by
  have pa1 := h1.num.nv.cap
  have pb1 := h1.den.cap
  have qa1 := h1.num.nv.le
  have qb1 := h1.den.le
  have e1 := h1.rv (N := 2) (by omega) (by omega) (by omega)
  have HF : Hid (((decide (L1 ≤ 2) && (decide (M1 ≤ 2) && decide (L1 ≤ 2))) && (decide (M1 ≤ 2) && (decide (L1 ≤ 2) && decide (M1 ≤ 2)))) = true) := by show _ = _; simp only [decide_eq_true_eq, Bool.and_eq_true]; omega
  have HO1 : Hid (∀ w', Ext w w' → Calls Try.prog 16 #[Value.agg #[Value.bool s1, Value.slice A1 L1 c1, Value.slice B1 M1 d1]] w' (RetQ w' 64 (mkRat x1 y1))) := fun w' hx => lof5 (h1.ext hx) (by omega) (by omega) (by omega) (by omega)
  generalize mkRat x1 y1 = q1 at *
  clear hl hm h1
  go_enter Try.func8, Try.ntmps8
  go_wp2_with fail
  obtain ⟨w0, hw0⟩ : ∃ z : World, z = (w.alloc (.cells #[.bool s1, .slice A1 L1 c1, .slice B1 M1 d1] 27)) := ⟨_, rfl⟩
  rw [← hw0]
  have b0 := box_at w #[.bool s1, .slice A1 L1 c1, .slice B1 M1 d1] 27
  have hsz : w0.heap.size = w.heap.size + 1 := by rw [hw0]; simp
  rw [← hw0] at b0
  have y0 : Ext w w0 := by rw [hw0]; exact Ext.alloc _ _
  have x0 : Ext w w0 := y0
  have e0_0 := b0.1 0 (.bool s1) rfl
  have e0_1 := b0.1 1 (.slice A1 L1 c1) rfl
  have e0_2 := b0.1 2 (.slice B1 M1 d1) rfl
  clear hw0 b0 y0
  go_wp2_with fail
  refine (awake5 _).mono ?_
  rintro e w1 ⟨rfl, x1⟩
  replace e0_0 := x1.cell e0_0
  replace e0_1 := x1.cell e0_1
  replace e0_2 := x1.cell e0_2
  go_wp2_with fail
  refine (few5 (n := 2) (by omega) (by omega) (by omega) (by omega) (by omega) (by omega)).mono ?_
  rintro e w2 ⟨rfl, x2⟩
  replace e0_0 := x2.cell e0_0
  replace e0_1 := x2.cell e0_1
  replace e0_2 := x2.cell e0_2
  rw [HF.out]
  clear hsz
  have hKd : decide (-(kN : Int) < 0) = true := decide_eq_true (by omega)
  have hKn : -(kN : Int) < 0 := by omega
  have hK2 : wrap64 (- -(kN : Int)) = (kN : Int) := by rw [Int.neg_neg]; exact IntWalk.wrap64_in _ (by omega)
  have hK3 : wrap64 (kN : Int) = (kN : Int) := IntWalk.wrap64_in _ (by omega)
  obtain ⟨T, hT⟩ : ∃ T : Rat, T = q1⁻¹ := ⟨_, rfl⟩
  have HPW : Hid (∀ w', Ext w w' → Calls Try.prog 49 #[Value.agg #[Value.bool s1, Value.slice A1 L1 c1, Value.slice B1 M1 d1], .int .i64 (-(kN : Int))] w' (RetRE w' 41 (T ^ kN))) := fun w' hx => by rw [hT]; exact rpow_neg (k := kN) (e1.ext hx) hq rfl hK1 (by omega) (by omega) (by omega)
  have HTT : Hid ((1 : Rat) / q1 = T) := by show _ = _; rw [hT, Rat.div_def, Rat.one_mul]
  clear hT
  go_wp2_with fail
  refine (HPW.out _ (by repeat' (first | with_reducible exact Ext.refl _ | with_reducible assumption | with_reducible apply Ext.alloc_r | with_reducible apply Ext.drew_r | with_reducible apply Ext.drewN_r | with_reducible refine Ext.trans ?_ ‹Ext _ _›))).mono ?_
  rintro e w3 ⟨sz, Az, cz, Lz, Bz, dz, Mz, rfl, z, x3⟩
  replace e0_0 := x3.cell e0_0
  replace e0_1 := x3.cell e0_1
  replace e0_2 := x3.cell e0_2
  have te0_0 := fun o => (Ext.alloc w3 o).cell e0_0
  have te0_1 := fun o => (Ext.alloc w3 o).cell e0_1
  have te0_2 := fun o => (Ext.alloc w3 o).cell e0_2
  go_wp2_with fail
  clear te0_0 te0_1 te0_2
  obtain ⟨w4, hw⟩ : ∃ z : World, z = (w3.alloc (.cells #[.bool sz, .slice Az Lz cz, .slice Bz Mz dz] 27)) := ⟨_, rfl⟩
  rw [← hw]
  have x4 : Ext w3 w4 := by rw [hw]; exact Ext.alloc _ _
  have bb := box_at w3 #[.bool sz, .slice Az Lz cz, .slice Bz Mz dz] 27
  rw [← hw] at bb
  replace e0_0 := x4.cell e0_0
  replace e0_1 := x4.cell e0_1
  replace e0_2 := x4.cell e0_2
  have z_0 := bb.1 0 (.bool sz) rfl
  have z_1 := bb.1 1 (.slice Az Lz cz) rfl
  have z_2 := bb.1 2 (.slice Bz Mz dz) rfl
  clear hw bb
  go_wp2_with fail
  refine (HO1.out _ (by repeat' (first | with_reducible exact Ext.refl _ | with_reducible assumption | with_reducible apply Ext.alloc_r | with_reducible apply Ext.drew_r | with_reducible apply Ext.drewN_r | with_reducible refine Ext.trans ?_ ‹Ext _ _›))).mono ?_
  rintro e w5 ⟨gx, Ax, cx, Lx, hx, Bx, dx, Mx, rfl, x, x5⟩
  replace e0_0 := x5.cell e0_0
  replace e0_1 := x5.cell e0_1
  replace e0_2 := x5.cell e0_2
  replace z_0 := x5.cell z_0
  replace z_1 := x5.cell z_1
  replace z_2 := x5.cell z_2
  have hgx : (gx == 0) = false := by rw [x.sign]; exact beq_eq_false_iff_ne.2 (fun h5 => hq ((num_sign0 q1).2 h5))
  have HQN := Lib.hid hq
  clear hq
  have sx_e0_0 := e0_0
  have sx_e0_1 := e0_1
  have sx_e0_2 := e0_2
  have sx_z_0 := z_0
  have sx_z_1 := z_1
  have sx_z_2 := z_2
  have te0_0 := fun o => (Ext.alloc w5 o).cell e0_0
  have te0_1 := fun o => (Ext.alloc w5 o).cell e0_1
  have te0_2 := fun o => (Ext.alloc w5 o).cell e0_2
  have tz_0 := fun o => (Ext.alloc w5 o).cell z_0
  have tz_1 := fun o => (Ext.alloc w5 o).cell z_1
  have tz_2 := fun o => (Ext.alloc w5 o).cell z_2
  go_wp2_with fail
  clear te0_0 te0_1 te0_2 tz_0 tz_1 tz_2
  obtain ⟨w6, hw⟩ : ∃ z : World, z = w5.alloc (.cells #[.int .i64 gx, .slice Ax Lx cx, .int .i64 hx, .slice Bx Mx dx] 38) := ⟨_, rfl⟩
  rw [← hw]
  have x6 : Ext w5 w6 := by rw [hw]; exact Ext.alloc _ _
  have bkx : BK w6 w5.heap.size 38 #[.int .i64 gx, .slice Ax Lx cx, .int .i64 hx, .slice Bx Mx dx] := by rw [hw]; exact BK.new _ _ _
  clear hw
  replace e0_0 := x6.cell e0_0
  replace e0_1 := x6.cell e0_1
  replace e0_2 := x6.cell e0_2
  replace z_0 := x6.cell z_0
  replace z_1 := x6.cell z_1
  replace z_2 := x6.cell z_2
  have xc0 := bkx.c 0 (.int .i64 gx) rfl
  have xf0 := bkx.f 0
  have xc1 := bkx.c 1 (.slice Ax Lx cx) rfl
  have xf1 := bkx.f 1
  have xc2 := bkx.c 2 (.int .i64 hx) rfl
  have xf2 := bkx.f 2
  have xc3 := bkx.c 3 (.slice Bx Mx dx) rfl
  have xf3 := bkx.f 3
  go_wp2_with fail
  go_cut [] (fun wx => ∃ (wa : World) (g h : Int) (A B : Option Addr) (c L d M : Nat), Ext w6 wa ∧ QR wa g A c L h B d M 65 T ∧ wx = (((wa.setCell ⟨w5.heap.size, 0, none⟩ (.int .i64 g)).setCell ⟨w5.heap.size, 1, none⟩ (.slice A L c)).setCell ⟨w5.heap.size, 2, none⟩ (.int .i64 h)).setCell ⟨w5.heap.size, 3, none⟩ (.slice B M d))
  case first =>
    go_region_with (first
      | (go_at_call 39; refine (qquo_r (qr_one (oa.ext (by repeat' (first | with_reducible exact Ext.refl _ | with_reducible assumption | with_reducible apply Ext.alloc_r | with_reducible apply Ext.drew_r | with_reducible apply Ext.drewN_r | with_reducible refine Ext.trans ?_ ‹Ext _ _›))) (ob.ext (by repeat' (first | with_reducible exact Ext.refl _ | with_reducible assumption | with_reducible apply Ext.alloc_r | with_reducible apply Ext.drew_r | with_reducible apply Ext.drewN_r | with_reducible refine Ext.trans ?_ ‹Ext _ _›)))) (x.ext (by repeat' (first | with_reducible exact Ext.refl _ | with_reducible assumption | with_reducible apply Ext.alloc_r | with_reducible apply Ext.drew_r | with_reducible apply Ext.drewN_r | with_reducible refine Ext.trans ?_ ‹Ext _ _›))) HQN.out (by omega) (by omega)).mono ?_; rintro e w9 ⟨gn, An, cn, Ln, hn, Bn, dn, Mn, rfl, qn, x9⟩; have yl2 : Ext w6 w9 := (by repeat' (first | with_reducible exact Ext.refl _ | with_reducible assumption | with_reducible apply Ext.alloc_r | with_reducible apply Ext.drew_r | with_reducible apply Ext.drewN_r | with_reducible refine Ext.trans ?_ ‹Ext _ _›)); have hc2_0 := (bkx.ext yl2).c 0 (.int .i64 gx) rfl; have hf2_0 := (bkx.ext yl2).f 0; have hc2_1 := (bkx.ext yl2).c 1 (.slice Ax Lx cx) rfl; have hf2_1 := (bkx.ext yl2).f 1; have hc2_2 := (bkx.ext yl2).c 2 (.int .i64 hx) rfl; have hf2_2 := (bkx.ext yl2).f 2; have hc2_3 := (bkx.ext yl2).c 3 (.slice Bx Mx dx) rfl; have hf2_3 := (bkx.ext yl2).f 3)
      | (go_at_call 20; have hgd := oa; clear hgd; refine (small_rz (n := 1) (by omega)).mono ?_; rintro e w8 ⟨gob, Aob, cob, Lob, rfl, ob, x8⟩; have yl1 : Ext w6 w8 := (by repeat' (first | with_reducible exact Ext.refl _ | with_reducible assumption | with_reducible apply Ext.alloc_r | with_reducible apply Ext.drew_r | with_reducible apply Ext.drewN_r | with_reducible refine Ext.trans ?_ ‹Ext _ _›)); have hc1_0 := (bkx.ext yl1).c 0 (.int .i64 gx) rfl; have hc1_1 := (bkx.ext yl1).c 1 (.slice Ax Lx cx) rfl; have hc1_2 := (bkx.ext yl1).c 2 (.int .i64 hx) rfl; have hc1_3 := (bkx.ext yl1).c 3 (.slice Bx Mx dx) rfl)
      | (go_at_call 20; refine (small_rz (n := 1) (by omega)).mono ?_; rintro e w7 ⟨goa, Aoa, coa, Loa, rfl, oa, x7⟩; have yl0 : Ext w6 w7 := (by repeat' (first | with_reducible exact Ext.refl _ | with_reducible assumption | with_reducible apply Ext.alloc_r | with_reducible apply Ext.drew_r | with_reducible apply Ext.drewN_r | with_reducible refine Ext.trans ?_ ‹Ext _ _›)); have hc0_0 := (bkx.ext yl0).c 0 (.int .i64 gx) rfl; have hc0_1 := (bkx.ext yl0).c 1 (.slice Ax Lx cx) rfl; have hc0_2 := (bkx.ext yl0).c 2 (.int .i64 hx) rfl; have hc0_3 := (bkx.ext yl0).c 3 (.slice Bx Mx dx) rfl))
    all_goals (go_wp2_with fail; go_meet)
    all_goals (refine ⟨w9, gn, hn, An, Bn, cn, Ln, dn, Mn, yl2, ?_, rfl⟩)
    all_goals (rw [← HTT.out]; exact qn)
  case rest =>
    obtain ⟨w10, gn, hn, An, Bn, cn, Ln, dn, Mn, x10, qn, hwx⟩ := hcut
    clear xc0 xf0 xc1 xf1 xc2 xf2 xc3 xf3
    have hb9 := bkx.ext x10
    have hk : Kept w10 wc := by
      rw [hwx]
      exact Kept.set_ (Kept.set_ (Kept.set_ (Kept.set_ (Kept.refl _) hb9.isBox plain_Q) hb9.isBox.set_ plain_Q) hb9.isBox.set_.set_ plain_Q) hb9.isBox.set_.set_.set_ plain_Q
    have nb : BK wc w5.heap.size 38 #[.int .i64 gn, .slice An Ln cn, .int .i64 hn, .slice Bn Mn dn] := by
      rw [hwx]
      exact BK.set (BK.set (BK.set (BK.set (vs' := #[.int .i64 gn, .slice Ax Lx cx, .int .i64 hx, .slice Bx Mx dx]) hb9 rfl) (vs' := #[.int .i64 gn, .slice An Ln cn, .int .i64 hx, .slice Bx Mx dx]) rfl) (vs' := #[.int .i64 gn, .slice An Ln cn, .int .i64 hn, .slice Bx Mx dx]) rfl) rfl
    have hb5 : w5.heap.size ≤ w5.heap.size := Nat.le_refl _
    have hbx : Ext w5 w10 := (by repeat' (first | with_reducible exact Ext.refl _ | with_reducible assumption | with_reducible apply Ext.alloc_r | with_reducible apply Ext.drew_r | with_reducible apply Ext.drewN_r | with_reducible refine Ext.trans ?_ ‹Ext _ _›))
    have xs5 : Ext w5 wc := by
      rw [hwx]
      exact (((hbx.set_ hb5).set_ hb5).set_ hb5).set_ hb5
    have xn := qn.kept hk
    clear qn hwx hk hb9 bkx hbx x
    obtain ⟨wd, rfl⟩ : ∃ z : World, z = wc := ⟨_, rfl⟩
    replace e0_0 := xs5.cell sx_e0_0
    replace e0_1 := xs5.cell sx_e0_1
    replace e0_2 := xs5.cell sx_e0_2
    replace z_0 := xs5.cell sx_z_0
    replace z_1 := xs5.cell sx_z_1
    replace z_2 := xs5.cell sx_z_2
    have xq_0 := nb.c 0 (.int .i64 gn) rfl
    have xq_1 := nb.c 1 (.slice An Ln cn) rfl
    have xq_2 := nb.c 2 (.int .i64 hn) rfl
    have xq_3 := nb.c 3 (.slice Bn Mn dn) rfl
    clear nb
    go_wp2_with fail
    refine (small_rz (n := 1) (by omega)).mono ?_
    rintro e w11 ⟨gone, Aone, cone, Lone, rfl, one, x11⟩
    replace e0_0 := x11.cell e0_0
    replace e0_1 := x11.cell e0_1
    replace e0_2 := x11.cell e0_2
    replace z_0 := x11.cell z_0
    replace z_1 := x11.cell z_1
    replace z_2 := x11.cell z_2
    replace xq_0 := x11.cell xq_0
    replace xq_1 := x11.cell xq_1
    replace xq_2 := x11.cell xq_2
    replace xq_3 := x11.cell xq_3
    go_wp2_with fail
    refine (small_rz (n := 1) (by omega)).mono ?_
    rintro e w12 ⟨gtwo, Atwo, ctwo, Ltwo, rfl, two, x12⟩
    replace e0_0 := x12.cell e0_0
    replace e0_1 := x12.cell e0_1
    replace e0_2 := x12.cell e0_2
    replace z_0 := x12.cell z_0
    replace z_1 := x12.cell z_1
    replace z_2 := x12.cell z_2
    replace xq_0 := x12.cell xq_0
    replace xq_1 := x12.cell xq_1
    replace xq_2 := x12.cell xq_2
    replace xq_3 := x12.cell xq_3
    have sv_e0_0 := e0_0
    have sv_e0_1 := e0_1
    have sv_e0_2 := e0_2
    have sv_z_0 := z_0
    have sv_z_1 := z_1
    have sv_z_2 := z_2
    have sv_xq_0 := xq_0
    have sv_xq_1 := xq_1
    have sv_xq_2 := xq_2
    have sv_xq_3 := xq_3
    have te0_0 := fun o => (Ext.alloc w12 o).cell e0_0
    have te0_1 := fun o => (Ext.alloc w12 o).cell e0_1
    have te0_2 := fun o => (Ext.alloc w12 o).cell e0_2
    have tz_0 := fun o => (Ext.alloc w12 o).cell z_0
    have tz_1 := fun o => (Ext.alloc w12 o).cell z_1
    have tz_2 := fun o => (Ext.alloc w12 o).cell z_2
    have txq_0 := fun o => (Ext.alloc w12 o).cell xq_0
    have txq_1 := fun o => (Ext.alloc w12 o).cell xq_1
    have txq_2 := fun o => (Ext.alloc w12 o).cell xq_2
    have txq_3 := fun o => (Ext.alloc w12 o).cell xq_3
    go_wp2_with fail
    clear te0_0 te0_1 te0_2 tz_0 tz_1 tz_2 txq_0 txq_1 txq_2 txq_3
    obtain ⟨w13, hw⟩ : ∃ z : World, z = w12.alloc (.cells #[.int .i64 gone, .slice Aone Lone cone, .int .i64 gtwo, .slice Atwo Ltwo ctwo] 38) := ⟨_, rfl⟩
    rw [← hw]
    have x13 : Ext w12 w13 := by rw [hw]; exact Ext.alloc _ _
    have bkwant : BK w13 w12.heap.size 38 #[.int .i64 gone, .slice Aone Lone cone, .int .i64 gtwo, .slice Atwo Ltwo ctwo] := by rw [hw]; exact BK.new _ _ _
    clear hw
    replace e0_0 := x13.cell e0_0
    replace e0_1 := x13.cell e0_1
    replace e0_2 := x13.cell e0_2
    replace z_0 := x13.cell z_0
    replace z_1 := x13.cell z_1
    replace z_2 := x13.cell z_2
    replace xq_0 := x13.cell xq_0
    replace xq_1 := x13.cell xq_1
    replace xq_2 := x13.cell xq_2
    replace xq_3 := x13.cell xq_3
    have HW1 : Hid (QR w13 gone Aone cone Lone gtwo Atwo ctwo Ltwo 1 1) := qr_one (one.ext (by repeat' (first | with_reducible exact Ext.refl _ | with_reducible assumption | with_reducible apply Ext.alloc_r | with_reducible apply Ext.drew_r | with_reducible apply Ext.drewN_r | with_reducible refine Ext.trans ?_ ‹Ext _ _›))) (two.ext (by repeat' (first | with_reducible exact Ext.refl _ | with_reducible assumption | with_reducible apply Ext.alloc_r | with_reducible apply Ext.drew_r | with_reducible apply Ext.drewN_r | with_reducible refine Ext.trans ?_ ‹Ext _ _›)))
    clear one two
    have HX := Lib.hid (xn.ext (show Ext _ w12 from (by repeat' (first | with_reducible exact Ext.refl _ | with_reducible assumption | with_reducible apply Ext.alloc_r | with_reducible apply Ext.drew_r | with_reducible apply Ext.drewN_r | with_reducible refine Ext.trans ?_ ‹Ext _ _›))) : QR w12 _ _ _ _ _ _ _ _ _ _)
    clear xn
    have hbw : w12.heap.size ≤ w12.heap.size := Nat.le_refl _
    have HZ := Lib.hid z
    clear z
    go_wp2_with fail
    go_loopw [10] (fun iv wr => ∃ (i : Nat) (g h : Int) (A B : Option Addr) (c L d M : Nat), iv = .int .i64 i ∧ i ≤ kN ∧ BK wr w12.heap.size 38 #[.int .i64 g, .slice A L c, .int .i64 h, .slice B M d] ∧ Hid (QR wr g A c L h B d M (65 * i + 1) (T ^ i)) ∧ Ext w12 wr) (fun iv _ => kN - (intOf iv).toNat)
    case atStart => exact ⟨0, gone, gtwo, Aone, Atwo, cone, Lone, ctwo, Ltwo, by go_num, Nat.zero_le _, bkwant, (by show QR _ _ _ _ _ _ _ _ _ _ _; rw [Rat.pow_zero]; exact HW1.out.wide (by omega)), (by repeat' (first | with_reducible exact Ext.refl _ | with_reducible assumption | with_reducible apply Ext.alloc_r | with_reducible apply Ext.drew_r | with_reducible apply Ext.drewN_r | with_reducible refine Ext.trans ?_ ‹Ext _ _›))⟩
    case round =>
      clear HW1 bkwant
      obtain ⟨i, g, h, A, B, c, L, d, M, rfl, hik, hbk, HQ, hx⟩ := hrel
      have c0 := hbk.c 0 (.int .i64 g) rfl
      have c1 := hbk.c 1 (.slice A L c) rfl
      have c2 := hbk.c 2 (.int .i64 h) rfl
      have c3 := hbk.c 3 (.slice B M d) rfl
      replace e0_0 := hx.cell sv_e0_0
      replace e0_1 := hx.cell sv_e0_1
      replace e0_2 := hx.cell sv_e0_2
      replace z_0 := hx.cell sv_z_0
      replace z_1 := hx.cell sv_z_1
      replace z_2 := hx.cell sv_z_2
      replace xq_0 := hx.cell sv_xq_0
      replace xq_1 := hx.cell sv_xq_1
      replace xq_2 := hx.cell sv_xq_2
      replace xq_3 := hx.cell sv_xq_3
      by_cases hik2 : i < kN
      · go_wp2_with fail
        refine (qmul_r HQ.out (HX.out.ext hx) (by omega) (by omega)).mono ?_
        rintro e w9 ⟨g9, A9, c9, L9, h9, B9, d9, M9, rfl, z9, x9⟩
        have HZ9 := Lib.hid z9
        have hb9 := hbk.ext x9
        clear z9 HQ c0 c1 c2 c3 hbk
        have c0 := hb9.c 0 (.int .i64 g) rfl
        have c1 := hb9.c 1 (.slice A L c) rfl
        have c2 := hb9.c 2 (.int .i64 h) rfl
        have c3 := hb9.c 3 (.slice B M d) rfl
        have f0 := hb9.f 0
        have f1 := hb9.f 1
        have f2 := hb9.f 2
        have f3 := hb9.f 3
        go_wp2_with fail
        clear c0 c1 c2 c3 f0 f1 f2 f3
        obtain ⟨ww, hww⟩ : ∃ z : World, z = (((w9.setCell ⟨w12.heap.size, 0, none⟩ (.int .i64 g9)).setCell ⟨w12.heap.size, 1, none⟩ (.slice A9 L9 c9)).setCell ⟨w12.heap.size, 2, none⟩ (.int .i64 h9)).setCell ⟨w12.heap.size, 3, none⟩ (.slice B9 M9 d9) := ⟨_, rfl⟩
        rw [← hww]
        have hk : Kept w9 ww := by
          rw [hww]
          exact Kept.set_ (Kept.set_ (Kept.set_ (Kept.set_ (Kept.refl _) hb9.isBox plain_Q) hb9.isBox.set_ plain_Q) hb9.isBox.set_.set_ plain_Q) hb9.isBox.set_.set_.set_ plain_Q
        have nb : BK ww w12.heap.size 38 #[.int .i64 g9, .slice A9 L9 c9, .int .i64 h9, .slice B9 M9 d9] := by
          rw [hww]
          exact BK.set (BK.set (BK.set (BK.set (vs' := #[.int .i64 g9, .slice A L c, .int .i64 h, .slice B M d]) hb9 rfl) (vs' := #[.int .i64 g9, .slice A9 L9 c9, .int .i64 h, .slice B M d]) rfl) (vs' := #[.int .i64 g9, .slice A9 L9 c9, .int .i64 h9, .slice B M d]) rfl) rfl
        have hxx : Ext w12 ww := by
          rw [hww]
          exact ((((hx.trans x9).set_ hbw).set_ hbw).set_ hbw).set_ hbw
        have HZ8 := Lib.hid ((HZ9.out.kept hk).wide (show 65 * i + 1 + 65 ≤ 65 * (i + 1) + 1 by omega))
        clear hww hk hb9 HZ9
        go_roundw
        case rel =>
          refine ⟨i + 1, g9, h9, A9, B9, c9, L9, d9, M9, by go_num, by omega, nb, ?_, hxx⟩
          show QR _ _ _ _ _ _ _ _ _ _ _
          rw [Rat.pow_succ]
          exact HZ8.out
        case measure => simp [intOf]; omega
      · obtain rfl : i = kN := by omega
        have hnone := True.intro
        clear hnone
        go_wp2_with fail
        refine (rof_r (n := 3) (by omega)).mono ?_
        rintro e w14 ⟨so3, Ao3, co3, Lo3, Bo3, do3, Mo3, rfl, o3, x14⟩
        replace e0_0 := x14.cell e0_0
        replace e0_1 := x14.cell e0_1
        replace e0_2 := x14.cell e0_2
        replace z_0 := x14.cell z_0
        replace z_1 := x14.cell z_1
        replace z_2 := x14.cell z_2
        replace xq_0 := x14.cell xq_0
        replace xq_1 := x14.cell xq_1
        replace xq_2 := x14.cell xq_2
        replace xq_3 := x14.cell xq_3
        replace c0 := x14.cell c0
        replace c1 := x14.cell c1
        replace c2 := x14.cell c2
        replace c3 := x14.cell c3
        go_wp2_with fail
        refine (rpow_far (k := 16777216) (o3.rv.ext (by repeat' (first | with_reducible exact Ext.refl _ | with_reducible assumption | with_reducible apply Ext.alloc_r | with_reducible apply Ext.drew_r | with_reducible apply Ext.drewN_r | with_reducible refine Ext.trans ?_ ‹Ext _ _›))) (by omega) (by omega) far3).mono ?_
        rintro e w15 ⟨rfl, x15⟩
        replace e0_0 := x15.cell e0_0
        replace e0_1 := x15.cell e0_1
        replace e0_2 := x15.cell e0_2
        replace z_0 := x15.cell z_0
        replace z_1 := x15.cell z_1
        replace z_2 := x15.cell z_2
        replace xq_0 := x15.cell xq_0
        replace xq_1 := x15.cell xq_1
        replace xq_2 := x15.cell xq_2
        replace xq_3 := x15.cell xq_3
        replace c0 := x15.cell c0
        replace c1 := x15.cell c1
        replace c2 := x15.cell c2
        replace c3 := x15.cell c3
        have te0_0 := fun o => (Ext.alloc w15 o).cell e0_0
        have te0_1 := fun o => (Ext.alloc w15 o).cell e0_1
        have te0_2 := fun o => (Ext.alloc w15 o).cell e0_2
        have tz_0 := fun o => (Ext.alloc w15 o).cell z_0
        have tz_1 := fun o => (Ext.alloc w15 o).cell z_1
        have tz_2 := fun o => (Ext.alloc w15 o).cell z_2
        have txq_0 := fun o => (Ext.alloc w15 o).cell xq_0
        have txq_1 := fun o => (Ext.alloc w15 o).cell xq_1
        have txq_2 := fun o => (Ext.alloc w15 o).cell xq_2
        have txq_3 := fun o => (Ext.alloc w15 o).cell xq_3
        have tc0 := fun o => (Ext.alloc w15 o).cell c0
        have tc1 := fun o => (Ext.alloc w15 o).cell c1
        have tc2 := fun o => (Ext.alloc w15 o).cell c2
        have tc3 := fun o => (Ext.alloc w15 o).cell c3
        go_wp2_with fail
        clear te0_0 te0_1 te0_2 tz_0 tz_1 tz_2 txq_0 txq_1 txq_2 txq_3 tc0 tc1 tc2 tc3
        obtain ⟨w16, hw⟩ : ∃ z : World, z = (w15.alloc (.cells #[.bool false, .slice none 0 0, .slice none 0 0] 27)) := ⟨_, rfl⟩
        rw [← hw]
        have x16 : Ext w15 w16 := by rw [hw]; exact Ext.alloc _ _
        have bb := box_at w15 #[.bool false, .slice none 0 0, .slice none 0 0] 27
        rw [← hw] at bb
        replace e0_0 := x16.cell e0_0
        replace e0_1 := x16.cell e0_1
        replace e0_2 := x16.cell e0_2
        replace z_0 := x16.cell z_0
        replace z_1 := x16.cell z_1
        replace z_2 := x16.cell z_2
        replace xq_0 := x16.cell xq_0
        replace xq_1 := x16.cell xq_1
        replace xq_2 := x16.cell xq_2
        replace xq_3 := x16.cell xq_3
        replace c0 := x16.cell c0
        replace c1 := x16.cell c1
        replace c2 := x16.cell c2
        replace c3 := x16.cell c3
        have o_0 := bb.1 0 (.bool false) rfl
        have o_1 := bb.1 1 (.slice none 0 0) rfl
        have o_2 := bb.1 2 (.slice none 0 0) rfl
        clear hw bb
        go_wp2_with fail
        refine (lis5 (HZ.out.ext (by repeat' (first | with_reducible exact Ext.refl _ | with_reducible assumption | with_reducible apply Ext.alloc_r | with_reducible apply Ext.drew_r | with_reducible apply Ext.drewN_r | with_reducible refine Ext.trans ?_ ‹Ext _ _›))) (HQ.out.ext (by repeat' (first | with_reducible exact Ext.refl _ | with_reducible assumption | with_reducible apply Ext.alloc_r | with_reducible apply Ext.drew_r | with_reducible apply Ext.drewN_r | with_reducible refine Ext.trans ?_ ‹Ext _ _›))) rfl (by omega)).mono ?_
        rintro e w17 ⟨rfl, x17⟩
        replace e0_0 := x17.cell e0_0
        replace e0_1 := x17.cell e0_1
        replace e0_2 := x17.cell e0_2
        replace z_0 := x17.cell z_0
        replace z_1 := x17.cell z_1
        replace z_2 := x17.cell z_2
        replace xq_0 := x17.cell xq_0
        replace xq_1 := x17.cell xq_1
        replace xq_2 := x17.cell xq_2
        replace xq_3 := x17.cell xq_3
        replace c0 := x17.cell c0
        replace c1 := x17.cell c1
        replace c2 := x17.cell c2
        replace c3 := x17.cell c3
        replace o_0 := x17.cell o_0
        replace o_1 := x17.cell o_1
        replace o_2 := x17.cell o_2
        go_wp2_with fail
        go_ret
        exact ⟨rfl, (by repeat' (first | with_reducible exact Ext.refl _ | with_reducible assumption | with_reducible apply Ext.alloc_r | with_reducible apply Ext.drew_r | with_reducible apply Ext.drewN_r | with_reducible refine Ext.trans ?_ ‹Ext _ _›))⟩
theorem tmod13 (z : Int) : -12 ≤ z.tmod 13 ∧ z.tmod 13 ≤ 12 := by
  have h : (z.tmod 13).natAbs < 13 := by rw [Int.natAbs_tmod]; exact Nat.mod_lt _ (by decide)
  omega
set_option maxHeartbeats 40000000 in
set_option maxRecDepth 100000 in
theorem rationalPowers_walk {w : World} {s1 : Bool} {A1 B1 : Option Addr} {c1 L1 d1 M1 : Nat} {x1 : Int} {y1 : Nat} {z : Int} (h1 : RW w s1 A1 c1 L1 B1 d1 M1 x1 y1) (_hz : -128 ≤ z ∧ z ≤ 127) :
    Calls Try.prog 8 #[Value.agg #[Value.bool s1, Value.slice A1 L1 c1, Value.slice B1 M1 d1], .int .i8 z] w fun e w' => e = .returned (.bool true) ∧ Ext w w' := by
  have hb := tmod13 z
  have hw : wrap64 (z.tmod 13) = z.tmod 13 := IntWalk.wrap64_in _ (by omega)
  by_cases hf : L1 ≤ 2 ∧ M1 ≤ 2
  · rcases Int.lt_or_le (z.tmod 13) 0 with hk | hk
    · by_cases hq : mkRat x1 y1 = 0
      · exact rationalPowers_a h1 hf.1 hf.2 hw hk hb.1 hq
      · exact rationalPowers_d (kN := (z.tmod 13).natAbs) h1 hf.1 hf.2 (by rw [hw]; omega) (by omega) (by omega) hq
    · by_cases hq : (mkRat x1 y1).num.sign = 0
      · exact rationalPowers_b (kN := (z.tmod 13).natAbs) h1 hf.1 hf.2 (by rw [hw]; omega) (by omega) hq
      · exact rationalPowers_c (kN := (z.tmod 13).natAbs) h1 hf.1 hf.2 (by rw [hw]; omega) (by omega) hq
  · have HF : Hid (((decide (L1 ≤ 2) && (decide (M1 ≤ 2) && decide (L1 ≤ 2))) && (decide (M1 ≤ 2) && (decide (L1 ≤ 2) && decide (M1 ≤ 2)))) = false) := by show _ = _; rw [Bool.eq_false_iff]; simp only [ne_eq, decide_eq_true_eq, Bool.and_eq_true]; omega
    have pa1 := h1.num.nv.cap
    have pb1 := h1.den.cap
    have qa1 := h1.num.nv.le
    have qb1 := h1.den.le
    clear hf hb hw _hz
    go_enter Try.func8, Try.ntmps8
    go_wp2_with fail
    obtain ⟨w0, hw0⟩ : ∃ z : World, z = (w.alloc (.cells #[.bool s1, .slice A1 L1 c1, .slice B1 M1 d1] 27)) := ⟨_, rfl⟩
    rw [← hw0]
    have b0 := box_at w #[.bool s1, .slice A1 L1 c1, .slice B1 M1 d1] 27
    have hsz : w0.heap.size = w.heap.size + 1 := by rw [hw0]; simp
    rw [← hw0] at b0
    have y0 : Ext w w0 := by rw [hw0]; exact Ext.alloc _ _
    have x0 : Ext w w0 := y0
    have e0_0 := b0.1 0 (.bool s1) rfl
    have e0_1 := b0.1 1 (.slice A1 L1 c1) rfl
    have e0_2 := b0.1 2 (.slice B1 M1 d1) rfl
    clear hw0 b0 y0
    go_wp2_with fail
    refine (awake5 _).mono ?_
    rintro e w1 ⟨rfl, x1⟩
    replace e0_0 := x1.cell e0_0
    replace e0_1 := x1.cell e0_1
    replace e0_2 := x1.cell e0_2
    go_wp2_with fail
    refine (few5 (n := 2) (by omega) (by omega) (by omega) (by omega) (by omega) (by omega)).mono ?_
    rintro e w2 ⟨rfl, x2⟩
    replace e0_0 := x2.cell e0_0
    replace e0_1 := x2.cell e0_1
    replace e0_2 := x2.cell e0_2
    rw [HF.out]
    clear hsz
    go_wp2_with fail
    refine (awake5 _).mono ?_
    rintro e w3 ⟨rfl, x3⟩
    replace e0_0 := x3.cell e0_0
    replace e0_1 := x3.cell e0_1
    replace e0_2 := x3.cell e0_2
    go_wp2_with fail
    go_ret
    exact ⟨rfl, (by repeat' (first | with_reducible exact Ext.refl _ | with_reducible assumption | with_reducible apply Ext.alloc_r | with_reducible apply Ext.drew_r | with_reducible apply Ext.drewN_r | with_reducible refine Ext.trans ?_ ‹Ext _ _›))⟩
section
open Go.ChangeShapes Go.WideShapes Go.ChangeAt
variable {H : Type} {enc : TypeId × Value → H} {W : World} {base : Nat} {v : Value} {d : DataW H} {p : List MemPlace}
set_option maxRecDepth 100000 in
theorem open_i8 (hv : Value.okWide Try.prog W .any base 68 v) (h : DataW.Trod enc Try.prog W 0 (fun _ => true) true 68 v d p) : ∃ x : Int, v = .int .i8 x ∧ -128 ≤ x ∧ x ≤ 127 := by
  obtain ⟨x, rfl, rfl, rfl, wx⟩ := open_int Try.underlying68 hv h
  have hb : -128 ≤ x ∧ x ≤ 127 := by
    simp [Lit.wf, IntKind.min, IntKind.max, IntKind.signed, IntKind.bits] at wx
    omega
  exact ⟨x, rfl, hb.1, hb.2⟩
end
end Go.Proofs.Ytfnmbhjifdfibaa
