import Derived.Test.YtehhkeenjlpikaaGreatArIvC
import Derived.Deep.RegionHeldLaw
import Derived.Deep.LoopGhost
import Derived.Deep.QuietTactic
import Derived.BigQuiet
namespace Go.Proofs.YtehhkeenjlpikaaGreat
open Go.RowKit
set_option maxHeartbeats 4000000 in
set_option maxRecDepth 100000 in
theorem iscale_r {w : World} {N : Nat} {s1 s2 s3 : Bool} {A1 B1 A2 B2 A3 B3 : Option Addr} {c1 d1 L1 M1 c2 d2 L2 M2 c3 d3 L3 M3 : Nat} {q1 q2 q3 : Rat} (h1 : RV w s1 A1 c1 L1 B1 d1 M1 N q1) (h2 : RV w s2 A2 c2 L2 B2 d2 M2 N q2) (h3 : RV w s3 A3 c3 L3 B3 d3 M3 N q3) (hN : N + N < 48) :
    Calls Tryz.prog 29 #[Value.agg #[Value.bool s1, Value.slice A1 L1 c1, Value.slice B1 M1 d1, Value.bool s2, Value.slice A2 L2 c2, Value.slice B2 M2 d2], Value.agg #[Value.bool s3, Value.slice A3 L3 c3, Value.slice B3 M3 d3]] w (RetI w (N + N) (minQ (q3 * q1) (q3 * q2)) (maxQ (q3 * q1) (q3 * q2))) := by
  go_enter Tryz.func29, Tryz.ntmps29
  go_wp2_with fail
  obtain ⟨w0, hw0⟩ : ∃ z : World, z = (((w.alloc (.cells #[.bool s1, .slice A1 L1 c1, .slice B1 M1 d1, .bool s2, .slice A2 L2 c2, .slice B2 M2 d2] 29)).alloc (.cells #[.bool s3, .slice A3 L3 c3, .slice B3 M3 d3] 27)).alloc (.cells #[.bool false, .slice none 0 0, .slice none 0 0, .bool false, .slice none 0 0, .slice none 0 0] 29)) := ⟨_, rfl⟩
  rw [← hw0]
  have bxi : BK w0 (w.heap.size) 29 #[.bool s1, .slice A1 L1 c1, .slice B1 M1 d1, .bool s2, .slice A2 L2 c2, .slice B2 M2 d2] := by rw [hw0]; have h5 := (BK.ext (BK.ext (BK.new w #[.bool s1, .slice A1 L1 c1, .slice B1 M1 d1, .bool s2, .slice A2 L2 c2, .slice B2 M2 d2] 29) (Ext.alloc _ (.cells #[.bool s3, .slice A3 L3 c3, .slice B3 M3 d3] 27))) (Ext.alloc _ (.cells #[.bool false, .slice none 0 0, .slice none 0 0, .bool false, .slice none 0 0, .slice none 0 0] 29))); simpa only [World.size_alloc] using h5
  have bxa : BK w0 (w.heap.size + 1) 27 #[.bool s3, .slice A3 L3 c3, .slice B3 M3 d3] := by rw [hw0]; have h5 := (BK.ext (BK.new (w.alloc (.cells #[.bool s1, .slice A1 L1 c1, .slice B1 M1 d1, .bool s2, .slice A2 L2 c2, .slice B2 M2 d2] 29)) #[.bool s3, .slice A3 L3 c3, .slice B3 M3 d3] 27) (Ext.alloc _ (.cells #[.bool false, .slice none 0 0, .slice none 0 0, .bool false, .slice none 0 0, .slice none 0 0] 29))); simpa only [World.size_alloc] using h5
  have bxr : BK w0 (w.heap.size + 1 + 1) 29 #[.bool false, .slice none 0 0, .slice none 0 0, .bool false, .slice none 0 0, .slice none 0 0] := by rw [hw0]; have h5 := (BK.new ((w.alloc (.cells #[.bool s1, .slice A1 L1 c1, .slice B1 M1 d1, .bool s2, .slice A2 L2 c2, .slice B2 M2 d2] 29)).alloc (.cells #[.bool s3, .slice A3 L3 c3, .slice B3 M3 d3] 27)) #[.bool false, .slice none 0 0, .slice none 0 0, .bool false, .slice none 0 0, .slice none 0 0] 29); simpa only [World.size_alloc] using h5
  have hszw0 : w0.heap.size = w.heap.size + 1 + 1 + 1 := by rw [hw0]; simp only [World.size_alloc]
  have xw0 : Ext w w0 := by rw [hw0]; exact (((Ext.alloc _ _).trans (Ext.alloc _ _)).trans (Ext.alloc _ _))
  clear hw0
  have ki_0 := bxi.c 0 (.bool s1) rfl
  have ki_1 := bxi.c 1 (.slice A1 L1 c1) rfl
  have ki_2 := bxi.c 2 (.slice B1 M1 d1) rfl
  have ki_3 := bxi.c 3 (.bool s2) rfl
  have ki_4 := bxi.c 4 (.slice A2 L2 c2) rfl
  have ki_5 := bxi.c 5 (.slice B2 M2 d2) rfl
  have ka_0 := bxa.c 0 (.bool s3) rfl
  have ka_1 := bxa.c 1 (.slice A3 L3 c3) rfl
  have ka_2 := bxa.c 2 (.slice B3 M3 d3) rfl
  have kr_0 := bxr.c 0 (.bool false) rfl
  have fr_0 := bxr.f 0
  have kr_1 := bxr.c 1 (.slice none 0 0) rfl
  have fr_1 := bxr.f 1
  have kr_2 := bxr.c 2 (.slice none 0 0) rfl
  have fr_2 := bxr.f 2
  have kr_3 := bxr.c 3 (.bool false) rfl
  have fr_3 := bxr.f 3
  have kr_4 := bxr.c 4 (.slice none 0 0) rfl
  have fr_4 := bxr.f 4
  have kr_5 := bxr.c 5 (.slice none 0 0) rfl
  have fr_5 := bxr.f 5
  go_wp2_with fail
  have HK : Hid (∀ w', Ext w0 w' → (w'.cell? ⟨w.heap.size, 0, none⟩ = some (.bool s1) ∧ w'.cell? ⟨w.heap.size, 1, none⟩ = some (.slice A1 L1 c1) ∧ w'.cell? ⟨w.heap.size, 2, none⟩ = some (.slice B1 M1 d1) ∧ w'.cell? ⟨w.heap.size, 3, none⟩ = some (.bool s2) ∧ w'.cell? ⟨w.heap.size, 4, none⟩ = some (.slice A2 L2 c2) ∧ w'.cell? ⟨w.heap.size, 5, none⟩ = some (.slice B2 M2 d2) ∧ w'.cell? ⟨w.heap.size + 1, 0, none⟩ = some (.bool s3) ∧ w'.cell? ⟨w.heap.size + 1, 1, none⟩ = some (.slice A3 L3 c3) ∧ w'.cell? ⟨w.heap.size + 1, 2, none⟩ = some (.slice B3 M3 d3))) := fun w' hk => ⟨hk.cell ki_0, hk.cell ki_1, hk.cell ki_2, hk.cell ki_3, hk.cell ki_4, hk.cell ki_5, hk.cell ka_0, hk.cell ka_1, hk.cell ka_2⟩
  have neri : w.heap.size + 1 + 1 ≠ w.heap.size := by omega
  have nera : w.heap.size + 1 + 1 ≠ w.heap.size + 1 := by omega
  have HSr : Hid (∀ (w' : World) (i : Nat) (u : Value), (w'.cell? ⟨w.heap.size, 0, none⟩ = some (.bool s1) ∧ w'.cell? ⟨w.heap.size, 1, none⟩ = some (.slice A1 L1 c1) ∧ w'.cell? ⟨w.heap.size, 2, none⟩ = some (.slice B1 M1 d1) ∧ w'.cell? ⟨w.heap.size, 3, none⟩ = some (.bool s2) ∧ w'.cell? ⟨w.heap.size, 4, none⟩ = some (.slice A2 L2 c2) ∧ w'.cell? ⟨w.heap.size, 5, none⟩ = some (.slice B2 M2 d2) ∧ w'.cell? ⟨w.heap.size + 1, 0, none⟩ = some (.bool s3) ∧ w'.cell? ⟨w.heap.size + 1, 1, none⟩ = some (.slice A3 L3 c3) ∧ w'.cell? ⟨w.heap.size + 1, 2, none⟩ = some (.slice B3 M3 d3)) → ((fun (w' : World) => (w'.cell? ⟨w.heap.size, 0, none⟩ = some (.bool s1) ∧ w'.cell? ⟨w.heap.size, 1, none⟩ = some (.slice A1 L1 c1) ∧ w'.cell? ⟨w.heap.size, 2, none⟩ = some (.slice B1 M1 d1) ∧ w'.cell? ⟨w.heap.size, 3, none⟩ = some (.bool s2) ∧ w'.cell? ⟨w.heap.size, 4, none⟩ = some (.slice A2 L2 c2) ∧ w'.cell? ⟨w.heap.size, 5, none⟩ = some (.slice B2 M2 d2) ∧ w'.cell? ⟨w.heap.size + 1, 0, none⟩ = some (.bool s3) ∧ w'.cell? ⟨w.heap.size + 1, 1, none⟩ = some (.slice A3 L3 c3) ∧ w'.cell? ⟨w.heap.size + 1, 2, none⟩ = some (.slice B3 M3 d3))) (w'.setCell ⟨w.heap.size + 1 + 1, i, none⟩ u))) := fun w' i u hs => ⟨cell_far neri hs.1, cell_far neri hs.2.1, cell_far neri hs.2.2.1, cell_far neri hs.2.2.2.1, cell_far neri hs.2.2.2.2.1, cell_far neri hs.2.2.2.2.2.1, cell_far nera hs.2.2.2.2.2.2.1, cell_far nera hs.2.2.2.2.2.2.2.1, cell_far nera hs.2.2.2.2.2.2.2.2⟩
  go_region_held3 (fun w' => w'.cell? ⟨w.heap.size, 0, none⟩ = some (.bool s1) ∧ w'.cell? ⟨w.heap.size, 1, none⟩ = some (.slice A1 L1 c1) ∧ w'.cell? ⟨w.heap.size, 2, none⟩ = some (.slice B1 M1 d1) ∧ w'.cell? ⟨w.heap.size, 3, none⟩ = some (.bool s2) ∧ w'.cell? ⟨w.heap.size, 4, none⟩ = some (.slice A2 L2 c2) ∧ w'.cell? ⟨w.heap.size, 5, none⟩ = some (.slice B2 M2 d2) ∧ w'.cell? ⟨w.heap.size + 1, 0, none⟩ = some (.bool s3) ∧ w'.cell? ⟨w.heap.size + 1, 1, none⟩ = some (.slice A3 L3 c3) ∧ w'.cell? ⟨w.heap.size + 1, 2, none⟩ = some (.slice B3 M3 d3))
    (((repeat (first | (with_reducible refine HSr.out _ _ _ ?_))); (with_reducible refine HK.out _ ?_; (with_reducible repeat' first | exact Ext.refl _ | assumption | apply Ext.alloc_r | apply Ext.drew_r | apply Ext.drewN_r | refine Ext.trans ?_ ‹Ext _ _›))))
    (first
      | (go_at_call 34; have hgd := v; clear hgd; refine (inormal_r (u.rv.ext (by with_reducible repeat' first | exact Ext.refl _ | assumption | apply Ext.alloc_r | apply Ext.drew_r | apply Ext.drewN_r | refine Ext.trans ?_ ‹Ext _ _›)) v.rv hN).mono ?_; rintro e w3 ⟨sza, Aza, cza, Lza, Bza, dza, Mza, szb, Azb, czb, Lzb, Bzb, dzb, Mzb, rfl, za, zb, x3⟩; have yl : Ext w0 w3 := (by with_reducible repeat' first | exact Ext.refl _ | assumption | apply Ext.alloc_r | apply Ext.drew_r | apply Ext.drewN_r | refine Ext.trans ?_ ‹Ext _ _›); have cr_0 := (bxr.ext yl).c 0 (.bool false) rfl; have gr_0 := (bxr.ext yl).f 0; have cr_1 := (bxr.ext yl).c 1 (.slice none 0 0) rfl; have gr_1 := (bxr.ext yl).f 1; have cr_2 := (bxr.ext yl).c 2 (.slice none 0 0) rfl; have gr_2 := (bxr.ext yl).f 2; have cr_3 := (bxr.ext yl).c 3 (.bool false) rfl; have gr_3 := (bxr.ext yl).f 3; have cr_4 := (bxr.ext yl).c 4 (.slice none 0 0) rfl; have gr_4 := (bxr.ext yl).f 4; have cr_5 := (bxr.ext yl).c 5 (.slice none 0 0) rfl; have gr_5 := (bxr.ext yl).f 5)
      | (go_at_call_of 59 (#[Value.agg #[Value.bool s3, Value.slice A3 L3 c3, Value.slice B3 M3 d3], Value.agg #[Value.bool s2, Value.slice A2 L2 c2, Value.slice B2 M2 d2]]); have hgd := u; clear hgd; refine (rmul_r (h3.ext (by with_reducible repeat' first | exact Ext.refl _ | assumption | apply Ext.alloc_r | apply Ext.drew_r | apply Ext.drewN_r | refine Ext.trans ?_ ‹Ext _ _›)) (h2.ext (by with_reducible repeat' first | exact Ext.refl _ | assumption | apply Ext.alloc_r | apply Ext.drew_r | apply Ext.drewN_r | refine Ext.trans ?_ ‹Ext _ _›)) (by omega) (by omega)).mono ?_; rintro e w2 ⟨sv, Av, cv, Lv, Bv, dv, Mv, rfl, v, x2⟩)
      | (go_at_call_of 59 (#[Value.agg #[Value.bool s3, Value.slice A3 L3 c3, Value.slice B3 M3 d3], Value.agg #[Value.bool s1, Value.slice A1 L1 c1, Value.slice B1 M1 d1]]); refine (rmul_r (h3.ext (by with_reducible repeat' first | exact Ext.refl _ | assumption | apply Ext.alloc_r | apply Ext.drew_r | apply Ext.drewN_r | refine Ext.trans ?_ ‹Ext _ _›)) (h1.ext (by with_reducible repeat' first | exact Ext.refl _ | assumption | apply Ext.alloc_r | apply Ext.drew_r | apply Ext.drewN_r | refine Ext.trans ?_ ‹Ext _ _›)) (by omega) (by omega)).mono ?_; rintro e w1 ⟨su, Au, cu, Lu, Bu, du, Mu, rfl, u, x1⟩))
  clear ki_0 ki_1 ki_2 ki_3 ki_4 ki_5 ka_0 ka_1 ka_2 kr_0 fr_0 kr_1 fr_1 kr_2 fr_2 kr_3 fr_3 kr_4 fr_4 kr_5 fr_5
  clear HK HSr neri nera
  clear cr_0 gr_0
  clear cr_1 gr_1
  clear cr_2 gr_2
  clear cr_3 gr_3
  clear cr_4 gr_4
  clear cr_5 gr_5
  clear yl
  have szw1 : w0.heap.size ≤ w1.heap.size := (show Ext w0 w1 from (by with_reducible repeat' first | exact Ext.refl _ | assumption | apply Ext.alloc_r | apply Ext.drew_r | apply Ext.drewN_r | refine Ext.trans ?_ ‹Ext _ _›)).size
  have szw2 : w0.heap.size ≤ w2.heap.size := (show Ext w0 w2 from (by with_reducible repeat' first | exact Ext.refl _ | assumption | apply Ext.alloc_r | apply Ext.drew_r | apply Ext.drewN_r | refine Ext.trans ?_ ‹Ext _ _›)).size
  have xhw3 : Ext w0 w3 := (by with_reducible repeat' first | exact Ext.refl _ | assumption | apply Ext.alloc_r | apply Ext.drew_r | apply Ext.drewN_r | refine Ext.trans ?_ ‹Ext _ _›)
  have szw3 : w0.heap.size ≤ w3.heap.size := xhw3.size
  replace bxi := bxi.ext xhw3
  replace bxa := bxa.ext xhw3
  replace bxr := bxr.ext xhw3
  clear u v
  have za2 := (za.ext (show Ext _ w3 from (by with_reducible repeat' first | exact Ext.refl _ | assumption | apply Ext.alloc_r | apply Ext.drew_r | apply Ext.drewN_r | refine Ext.trans ?_ ‹Ext _ _›))).mono (show w.heap.size ≤ _ by first | omega | (simp only [World.size_drew]; omega))
  have zb2 := zb.mono (show w.heap.size ≤ _ by first | omega | (simp only [World.size_drew]; omega))
  clear za zb
  obtain ⟨w4, hw⟩ : ∃ z : World, z = ((((((w3.setCell ⟨w.heap.size + 1 + 1, 0, none⟩ (.bool sza)).setCell ⟨w.heap.size + 1 + 1, 1, none⟩ (.slice Aza Lza cza)).setCell ⟨w.heap.size + 1 + 1, 2, none⟩ (.slice Bza Mza dza)).setCell ⟨w.heap.size + 1 + 1, 3, none⟩ (.bool szb)).setCell ⟨w.heap.size + 1 + 1, 4, none⟩ (.slice Azb Lzb czb)).setCell ⟨w.heap.size + 1 + 1, 5, none⟩ (.slice Bzb Mzb dzb)) := ⟨_, rfl⟩
  rw [← hw]
  have kw4 : Kept w3 w4 := by rw [hw]; exact (Kept.set_ (Kept.set_ (Kept.set_ (Kept.set_ (Kept.set_ (Kept.set_ (Kept.refl _) bxr.isBox plain_iv) (IsBox.set_ bxr.isBox) plain_iv) (IsBox.set_ (IsBox.set_ bxr.isBox)) plain_iv) (IsBox.set_ (IsBox.set_ (IsBox.set_ bxr.isBox))) plain_iv) (IsBox.set_ (IsBox.set_ (IsBox.set_ (IsBox.set_ bxr.isBox)))) plain_iv) (IsBox.set_ (IsBox.set_ (IsBox.set_ (IsBox.set_ (IsBox.set_ bxr.isBox))))) plain_iv)
  have nbi : BK w4 (w.heap.size) 29 #[.bool s1, .slice A1 L1 c1, .slice B1 M1 d1, .bool s2, .slice A2 L2 c2, .slice B2 M2 d2] := by rw [hw]; exact (BK.far (BK.far (BK.far (BK.far (BK.far (BK.far bxi (show w.heap.size ≠ w.heap.size + 1 + 1 by omega) 0 _) (show w.heap.size ≠ w.heap.size + 1 + 1 by omega) 1 _) (show w.heap.size ≠ w.heap.size + 1 + 1 by omega) 2 _) (show w.heap.size ≠ w.heap.size + 1 + 1 by omega) 3 _) (show w.heap.size ≠ w.heap.size + 1 + 1 by omega) 4 _) (show w.heap.size ≠ w.heap.size + 1 + 1 by omega) 5 _)
  have nba : BK w4 (w.heap.size + 1) 27 #[.bool s3, .slice A3 L3 c3, .slice B3 M3 d3] := by rw [hw]; exact (BK.far (BK.far (BK.far (BK.far (BK.far (BK.far bxa (show w.heap.size + 1 ≠ w.heap.size + 1 + 1 by omega) 0 _) (show w.heap.size + 1 ≠ w.heap.size + 1 + 1 by omega) 1 _) (show w.heap.size + 1 ≠ w.heap.size + 1 + 1 by omega) 2 _) (show w.heap.size + 1 ≠ w.heap.size + 1 + 1 by omega) 3 _) (show w.heap.size + 1 ≠ w.heap.size + 1 + 1 by omega) 4 _) (show w.heap.size + 1 ≠ w.heap.size + 1 + 1 by omega) 5 _)
  have nbr : BK w4 (w.heap.size + 1 + 1) 29 #[.bool sza, .slice Aza Lza cza, .slice Bza Mza dza, .bool szb, .slice Azb Lzb czb, .slice Bzb Mzb dzb] := by rw [hw]; exact (BK.set (i := 5) (u := .slice Bzb Mzb dzb) (vs' := #[.bool sza, .slice Aza Lza cza, .slice Bza Mza dza, .bool szb, .slice Azb Lzb czb, .slice Bzb Mzb dzb]) (BK.set (i := 4) (u := .slice Azb Lzb czb) (vs' := #[.bool sza, .slice Aza Lza cza, .slice Bza Mza dza, .bool szb, .slice Azb Lzb czb, .slice none 0 0]) (BK.set (i := 3) (u := .bool szb) (vs' := #[.bool sza, .slice Aza Lza cza, .slice Bza Mza dza, .bool szb, .slice none 0 0, .slice none 0 0]) (BK.set (i := 2) (u := .slice Bza Mza dza) (vs' := #[.bool sza, .slice Aza Lza cza, .slice Bza Mza dza, .bool false, .slice none 0 0, .slice none 0 0]) (BK.set (i := 1) (u := .slice Aza Lza cza) (vs' := #[.bool sza, .slice Aza Lza cza, .slice none 0 0, .bool false, .slice none 0 0, .slice none 0 0]) (BK.set (i := 0) (u := .bool sza) (vs' := #[.bool sza, .slice none 0 0, .slice none 0 0, .bool false, .slice none 0 0, .slice none 0 0]) bxr rfl) rfl) rfl) rfl) rfl) rfl)
  have x4 : Ext w w4 := by rw [hw]; have hxp : Ext w w3 := (by with_reducible repeat' first | exact Ext.refl _ | assumption | apply Ext.alloc_r | apply Ext.drew_r | apply Ext.drewN_r | refine Ext.trans ?_ ‹Ext _ _›); exact (Ext.set_ (Ext.set_ (Ext.set_ (Ext.set_ (Ext.set_ (Ext.set_ hxp (show _ ≤ w.heap.size + 1 + 1 by omega)) (show _ ≤ w.heap.size + 1 + 1 by omega)) (show _ ≤ w.heap.size + 1 + 1 by omega)) (show _ ≤ w.heap.size + 1 + 1 by omega)) (show _ ≤ w.heap.size + 1 + 1 by omega)) (show _ ≤ w.heap.size + 1 + 1 by omega))
  clear bxi
  clear bxa
  clear bxr
  have bxi := nbi
  clear nbi
  have bxa := nba
  clear nba
  have bxr := nbr
  clear nbr
  have szw4 : w4.heap.size = w3.heap.size := by rw [hw]; simp
  replace za2 := (za2.ext (by with_reducible repeat' first | exact Ext.refl _ | assumption | apply Ext.alloc_r | apply Ext.drew_r | apply Ext.drewN_r | refine Ext.trans ?_ ‹Ext _ _›)).kept kw4
  replace zb2 := (zb2.ext (by with_reducible repeat' first | exact Ext.refl _ | assumption | apply Ext.alloc_r | apply Ext.drew_r | apply Ext.drewN_r | refine Ext.trans ?_ ‹Ext _ _›)).kept kw4
  clear hw kw4
  have HU := Lib.hid za2
  have HV := Lib.hid zb2
  clear za2 zb2
  have ki_0 := bxi.c 0 (.bool s1) rfl
  have ki_1 := bxi.c 1 (.slice A1 L1 c1) rfl
  have ki_2 := bxi.c 2 (.slice B1 M1 d1) rfl
  have ki_3 := bxi.c 3 (.bool s2) rfl
  have ki_4 := bxi.c 4 (.slice A2 L2 c2) rfl
  have ki_5 := bxi.c 5 (.slice B2 M2 d2) rfl
  have ka_0 := bxa.c 0 (.bool s3) rfl
  have ka_1 := bxa.c 1 (.slice A3 L3 c3) rfl
  have ka_2 := bxa.c 2 (.slice B3 M3 d3) rfl
  have kr_0 := bxr.c 0 (.bool sza) rfl
  have kr_1 := bxr.c 1 (.slice Aza Lza cza) rfl
  have kr_2 := bxr.c 2 (.slice Bza Mza dza) rfl
  have kr_3 := bxr.c 3 (.bool szb) rfl
  have kr_4 := bxr.c 4 (.slice Azb Lzb czb) rfl
  have kr_5 := bxr.c 5 (.slice Bzb Mzb dzb) rfl
  go_wp2_with fail
  clear ki_0 ki_1 ki_2 ki_3 ki_4 ki_5 ka_0 ka_1 ka_2 kr_0 kr_1 kr_2 kr_3 kr_4 kr_5
  have kr_0 := bxr.c 0 (.bool sza) rfl
  have kr_1 := bxr.c 1 (.slice Aza Lza cza) rfl
  have kr_2 := bxr.c 2 (.slice Bza Mza dza) rfl
  have kr_3 := bxr.c 3 (.bool szb) rfl
  have kr_4 := bxr.c 4 (.slice Azb Lzb czb) rfl
  have kr_5 := bxr.c 5 (.slice Bzb Mzb dzb) rfl
  refine bodyPost_ret (v := Value.agg #[Value.bool sza, Value.slice Aza Lza cza, Value.slice Bza Mza dza, Value.bool szb, Value.slice Azb Lzb czb, Value.slice Bzb Mzb dzb]) (by simp [results, Tryz.results29, go_sem, kr_0, kr_1, kr_2, kr_3, kr_4, kr_5]) rfl ?_
  exact ⟨_, _, _, _, _, _, _, _, _, _, _, _, _, _, rfl, HU.out, HV.out, x4⟩
/-- Two fractions in boxes laid behind w. -/
def PutM (w w' : World) (g N : Nat) (p q : Rat) (x y : Value) : Prop := ∃ b b' s A c L B d M s' A' c' L' B' d' M', x = .pointer (some ⟨b, 0, none⟩) ∧ y = .pointer (some ⟨b', 0, none⟩) ∧ w.heap.size ≤ b ∧ w.heap.size ≤ b' ∧ BK w' b 27 #[.bool s, .slice A L c, .slice B M d] ∧ BK w' b' 27 #[.bool s', .slice A' L' c', .slice B' M' d'] ∧ RO w' g s A c L B d M N p ∧ RO w' g s' A' c' L' B' d' M' N q ∧ Ext w w'
theorem PutM.mk {w w' : World} {g N b b' : Nat} {p q : Rat} {s s' : Bool} {A B A' B' : Option Addr} {c L d M c' L' d' M' : Nat} (h1 : w.heap.size ≤ b) (h2 : w.heap.size ≤ b') (k1 : BK w' b 27 #[.bool s, .slice A L c, .slice B M d]) (k2 : BK w' b' 27 #[.bool s', .slice A' L' c', .slice B' M' d']) (r1 : RO w' g s A c L B d M N p) (r2 : RO w' g s' A' c' L' B' d' M' N q) (hx : Ext w w') : PutM w w' g N p q (.pointer (some ⟨b, 0, none⟩)) (.pointer (some ⟨b', 0, none⟩)) :=
  ⟨b, b', s, A, c, L, B, d, M, s', A', c', L', B', d', M', rfl, rfl, h1, h2, k1, k2, r1, r2, hx⟩
end Go.Proofs.YtehhkeenjlpikaaGreat
