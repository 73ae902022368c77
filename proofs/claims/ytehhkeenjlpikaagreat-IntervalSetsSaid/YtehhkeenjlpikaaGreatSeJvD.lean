/- The turning to the reference of chapter 06, and its intervals in boxes. -/
import Derived.Test.YtehhkeenjlpikaaGreatSeJvC
import Derived.Test.YtehhkeenjlpikaaGreatSeIvD
import Derived.Test.YtehhkeenjlpikaaGreatSeOpenR
import Derived.Deep.RegionHeldLaw
import Derived.Deep.LoopGhost
import Derived.Deep.QuietTactic
import Derived.BigQuiet
namespace Go.Proofs.YtehhkeenjlpikaaGreat
open Go.RowKit
set_option maxHeartbeats 4000000 in
set_option maxRecDepth 100000 in
theorem lof6 {w : World} {K : Nat} {s1 s2 : Bool} {A1 B1 A2 B2 : Option Addr} {c1 d1 L1 M1 c2 d2 L2 M2 : Nat} {x1 x2 : Int} {y1 y2 : Nat} (h1 : RW w s1 A1 c1 L1 B1 d1 M1 x1 y1) (h2 : RW w s2 A2 c2 L2 B2 d2 M2 x2 y2) (b1 : 32 * L1 ≤ K) (b2 : 32 * M1 ≤ K) (b3 : 32 * L2 ≤ K) (b4 : 32 * M2 ≤ K) (hK : K ≤ 100000000) (hK1 : 1 ≤ K) :
    Calls Tryz.prog 10 #[Value.agg #[Value.bool s1, Value.slice A1 L1 c1, Value.slice B1 M1 d1, Value.bool s2, Value.slice A2 L2 c2, Value.slice B2 M2 d2]] w (RetJ w K (minQ (mkRat x1 y1) (mkRat x2 y2)) (maxQ (mkRat x1 y1) (mkRat x2 y2))) := by
  have HQ1 : Hid (∀ w', Ext w w' → Calls Tryz.prog 18 #[Value.agg #[Value.bool s1, Value.slice A1 L1 c1, Value.slice B1 M1 d1]] w' (RetQ w' K (mkRat x1 y1))) := fun w' hx => lq6 (h1.ext hx) (by omega) (by omega) (by omega) (by omega)
  have HQ2 : Hid (∀ w', Ext w w' → Calls Tryz.prog 18 #[Value.agg #[Value.bool s2, Value.slice A2 L2 c2, Value.slice B2 M2 d2]] w' (RetQ w' K (mkRat x2 y2))) := fun w' hx => lq6 (h2.ext hx) (by omega) (by omega) (by omega) (by omega)
  generalize mkRat x1 y1 = p1 at *
  generalize mkRat x2 y2 = p2 at *
  clear h1 h2
  go_enter Tryz.func10, Tryz.ntmps10
  go_wp2_with fail
  obtain ⟨w0, hw0⟩ : ∃ z : World, z = ((w.alloc (.cells #[.bool s1, .slice A1 L1 c1, .slice B1 M1 d1, .bool s2, .slice A2 L2 c2, .slice B2 M2 d2] 29)).alloc (.cells #[.int .i64 0, .slice none 0 0, .int .i64 0, .slice none 0 0, .int .i64 0, .slice none 0 0, .int .i64 0, .slice none 0 0] 38)) := ⟨_, rfl⟩
  rw [← hw0]
  have bxi : BK w0 (w.heap.size) 29 #[.bool s1, .slice A1 L1 c1, .slice B1 M1 d1, .bool s2, .slice A2 L2 c2, .slice B2 M2 d2] := by rw [hw0]; have h5 := (BK.ext (BK.new w #[.bool s1, .slice A1 L1 c1, .slice B1 M1 d1, .bool s2, .slice A2 L2 c2, .slice B2 M2 d2] 29) (Ext.alloc _ (.cells #[.int .i64 0, .slice none 0 0, .int .i64 0, .slice none 0 0, .int .i64 0, .slice none 0 0, .int .i64 0, .slice none 0 0] 38))); simpa only [World.size_alloc] using h5
  have bxr : BK w0 (w.heap.size + 1) 38 #[.int .i64 0, .slice none 0 0, .int .i64 0, .slice none 0 0, .int .i64 0, .slice none 0 0, .int .i64 0, .slice none 0 0] := by rw [hw0]; have h5 := (BK.new (w.alloc (.cells #[.bool s1, .slice A1 L1 c1, .slice B1 M1 d1, .bool s2, .slice A2 L2 c2, .slice B2 M2 d2] 29)) #[.int .i64 0, .slice none 0 0, .int .i64 0, .slice none 0 0, .int .i64 0, .slice none 0 0, .int .i64 0, .slice none 0 0] 38); simpa only [World.size_alloc] using h5
  have hszw0 : w0.heap.size = w.heap.size + 1 + 1 := by rw [hw0]; simp only [World.size_alloc]
  have xw0 : Ext w w0 := by rw [hw0]; exact ((Ext.alloc _ _).trans (Ext.alloc _ _))
  clear hw0
  have ki_0 := bxi.c 0 (.bool s1) rfl
  have ki_1 := bxi.c 1 (.slice A1 L1 c1) rfl
  have ki_2 := bxi.c 2 (.slice B1 M1 d1) rfl
  have ki_3 := bxi.c 3 (.bool s2) rfl
  have ki_4 := bxi.c 4 (.slice A2 L2 c2) rfl
  have ki_5 := bxi.c 5 (.slice B2 M2 d2) rfl
  have kr_0 := bxr.c 0 (.int .i64 0) rfl
  have fr_0 := bxr.f 0
  have kr_1 := bxr.c 1 (.slice none 0 0) rfl
  have fr_1 := bxr.f 1
  have kr_2 := bxr.c 2 (.int .i64 0) rfl
  have fr_2 := bxr.f 2
  have kr_3 := bxr.c 3 (.slice none 0 0) rfl
  have fr_3 := bxr.f 3
  have kr_4 := bxr.c 4 (.int .i64 0) rfl
  have fr_4 := bxr.f 4
  have kr_5 := bxr.c 5 (.slice none 0 0) rfl
  have fr_5 := bxr.f 5
  have kr_6 := bxr.c 6 (.int .i64 0) rfl
  have fr_6 := bxr.f 6
  have kr_7 := bxr.c 7 (.slice none 0 0) rfl
  have fr_7 := bxr.f 7
  go_wp2_with fail
  have HK : Hid (∀ w', Ext w0 w' → (w'.cell? ⟨w.heap.size, 0, none⟩ = some (.bool s1) ∧ w'.cell? ⟨w.heap.size, 1, none⟩ = some (.slice A1 L1 c1) ∧ w'.cell? ⟨w.heap.size, 2, none⟩ = some (.slice B1 M1 d1) ∧ w'.cell? ⟨w.heap.size, 3, none⟩ = some (.bool s2) ∧ w'.cell? ⟨w.heap.size, 4, none⟩ = some (.slice A2 L2 c2) ∧ w'.cell? ⟨w.heap.size, 5, none⟩ = some (.slice B2 M2 d2))) := fun w' hk => ⟨hk.cell ki_0, hk.cell ki_1, hk.cell ki_2, hk.cell ki_3, hk.cell ki_4, hk.cell ki_5⟩
  have neri : w.heap.size + 1 ≠ w.heap.size := by omega
  have HSr : Hid (∀ (w' : World) (i : Nat) (u : Value), (w'.cell? ⟨w.heap.size, 0, none⟩ = some (.bool s1) ∧ w'.cell? ⟨w.heap.size, 1, none⟩ = some (.slice A1 L1 c1) ∧ w'.cell? ⟨w.heap.size, 2, none⟩ = some (.slice B1 M1 d1) ∧ w'.cell? ⟨w.heap.size, 3, none⟩ = some (.bool s2) ∧ w'.cell? ⟨w.heap.size, 4, none⟩ = some (.slice A2 L2 c2) ∧ w'.cell? ⟨w.heap.size, 5, none⟩ = some (.slice B2 M2 d2)) → ((fun (w' : World) => (w'.cell? ⟨w.heap.size, 0, none⟩ = some (.bool s1) ∧ w'.cell? ⟨w.heap.size, 1, none⟩ = some (.slice A1 L1 c1) ∧ w'.cell? ⟨w.heap.size, 2, none⟩ = some (.slice B1 M1 d1) ∧ w'.cell? ⟨w.heap.size, 3, none⟩ = some (.bool s2) ∧ w'.cell? ⟨w.heap.size, 4, none⟩ = some (.slice A2 L2 c2) ∧ w'.cell? ⟨w.heap.size, 5, none⟩ = some (.slice B2 M2 d2))) (w'.setCell ⟨w.heap.size + 1, i, none⟩ u))) := fun w' i u hs => ⟨cell_far neri hs.1, cell_far neri hs.2.1, cell_far neri hs.2.2.1, cell_far neri hs.2.2.2.1, cell_far neri hs.2.2.2.2.1, cell_far neri hs.2.2.2.2.2⟩
  go_region_held3 (fun w' => w'.cell? ⟨w.heap.size, 0, none⟩ = some (.bool s1) ∧ w'.cell? ⟨w.heap.size, 1, none⟩ = some (.slice A1 L1 c1) ∧ w'.cell? ⟨w.heap.size, 2, none⟩ = some (.slice B1 M1 d1) ∧ w'.cell? ⟨w.heap.size, 3, none⟩ = some (.bool s2) ∧ w'.cell? ⟨w.heap.size, 4, none⟩ = some (.slice A2 L2 c2) ∧ w'.cell? ⟨w.heap.size, 5, none⟩ = some (.slice B2 M2 d2))
    (((repeat (first | (with_reducible refine HSr.out _ _ _ ?_))); (with_reducible refine HK.out _ ?_; (with_reducible repeat' first | exact Ext.refl _ | assumption | apply Ext.alloc_r | apply Ext.drew_r | apply Ext.drewN_r | refine Ext.trans ?_ ‹Ext _ _›))))
    (first
      | (go_at_call 47; have hgd := v; clear hgd; refine (jmake_r (u.ext (by with_reducible repeat' first | exact Ext.refl _ | assumption | apply Ext.alloc_r | apply Ext.drew_r | apply Ext.drewN_r | refine Ext.trans ?_ ‹Ext _ _›)) (v.ext (by with_reducible repeat' first | exact Ext.refl _ | assumption | apply Ext.alloc_r | apply Ext.drew_r | apply Ext.drewN_r | refine Ext.trans ?_ ‹Ext _ _›)) hK).mono ?_; rintro e w3 ⟨gza, Aza, cza, Lza, hza, Bza, dza, Mza, gzb, Azb, czb, Lzb, hzb, Bzb, dzb, Mzb, rfl, za, zb, x3⟩; have yl : Ext w0 w3 := (by with_reducible repeat' first | exact Ext.refl _ | assumption | apply Ext.alloc_r | apply Ext.drew_r | apply Ext.drewN_r | refine Ext.trans ?_ ‹Ext _ _›); have cr_0 := (bxr.ext yl).c 0 (.int .i64 0) rfl; have gr_0 := (bxr.ext yl).f 0; have cr_1 := (bxr.ext yl).c 1 (.slice none 0 0) rfl; have gr_1 := (bxr.ext yl).f 1; have cr_2 := (bxr.ext yl).c 2 (.int .i64 0) rfl; have gr_2 := (bxr.ext yl).f 2; have cr_3 := (bxr.ext yl).c 3 (.slice none 0 0) rfl; have gr_3 := (bxr.ext yl).f 3; have cr_4 := (bxr.ext yl).c 4 (.int .i64 0) rfl; have gr_4 := (bxr.ext yl).f 4; have cr_5 := (bxr.ext yl).c 5 (.slice none 0 0) rfl; have gr_5 := (bxr.ext yl).f 5; have cr_6 := (bxr.ext yl).c 6 (.int .i64 0) rfl; have gr_6 := (bxr.ext yl).f 6; have cr_7 := (bxr.ext yl).c 7 (.slice none 0 0) rfl; have gr_7 := (bxr.ext yl).f 7)
      | (go_at_call_of 18 (#[Value.agg #[Value.bool s2, Value.slice A2 L2 c2, Value.slice B2 M2 d2]]); have hgd := u; clear hgd; refine (HQ2.out _ (by with_reducible repeat' first | exact Ext.refl _ | assumption | apply Ext.alloc_r | apply Ext.drew_r | apply Ext.drewN_r | refine Ext.trans ?_ ‹Ext _ _›)).mono ?_; rintro e w2 ⟨gv, Av, cv, Lv, hv, Bv, dv, Mv, rfl, v, x2⟩)
      | (go_at_call_of 18 (#[Value.agg #[Value.bool s1, Value.slice A1 L1 c1, Value.slice B1 M1 d1]]); refine (HQ1.out _ (by with_reducible repeat' first | exact Ext.refl _ | assumption | apply Ext.alloc_r | apply Ext.drew_r | apply Ext.drewN_r | refine Ext.trans ?_ ‹Ext _ _›)).mono ?_; rintro e w1 ⟨gu, Au, cu, Lu, hu, Bu, du, Mu, rfl, u, x1⟩))
  clear ki_0 ki_1 ki_2 ki_3 ki_4 ki_5 kr_0 fr_0 kr_1 fr_1 kr_2 fr_2 kr_3 fr_3 kr_4 fr_4 kr_5 fr_5 kr_6 fr_6 kr_7 fr_7
  clear HK HSr neri
  clear cr_0 gr_0
  clear cr_1 gr_1
  clear cr_2 gr_2
  clear cr_3 gr_3
  clear cr_4 gr_4
  clear cr_5 gr_5
  clear cr_6 gr_6
  clear cr_7 gr_7
  clear yl
  have szw1 : w0.heap.size ≤ w1.heap.size := (show Ext w0 w1 from (by with_reducible repeat' first | exact Ext.refl _ | assumption | apply Ext.alloc_r | apply Ext.drew_r | apply Ext.drewN_r | refine Ext.trans ?_ ‹Ext _ _›)).size
  have szw2 : w0.heap.size ≤ w2.heap.size := (show Ext w0 w2 from (by with_reducible repeat' first | exact Ext.refl _ | assumption | apply Ext.alloc_r | apply Ext.drew_r | apply Ext.drewN_r | refine Ext.trans ?_ ‹Ext _ _›)).size
  have xhw3 : Ext w0 w3 := (by with_reducible repeat' first | exact Ext.refl _ | assumption | apply Ext.alloc_r | apply Ext.drew_r | apply Ext.drewN_r | refine Ext.trans ?_ ‹Ext _ _›)
  have szw3 : w0.heap.size ≤ w3.heap.size := xhw3.size
  replace bxi := bxi.ext xhw3
  replace bxr := bxr.ext xhw3
  clear u v HQ1 HQ2
  obtain ⟨w4, hw⟩ : ∃ z : World, z = ((((((((w3.setCell ⟨w.heap.size + 1, 0, none⟩ (.int .i64 gza)).setCell ⟨w.heap.size + 1, 1, none⟩ (.slice Aza Lza cza)).setCell ⟨w.heap.size + 1, 2, none⟩ (.int .i64 hza)).setCell ⟨w.heap.size + 1, 3, none⟩ (.slice Bza Mza dza)).setCell ⟨w.heap.size + 1, 4, none⟩ (.int .i64 gzb)).setCell ⟨w.heap.size + 1, 5, none⟩ (.slice Azb Lzb czb)).setCell ⟨w.heap.size + 1, 6, none⟩ (.int .i64 hzb)).setCell ⟨w.heap.size + 1, 7, none⟩ (.slice Bzb Mzb dzb)) := ⟨_, rfl⟩
  rw [← hw]
  have kw4 : Kept w3 w4 := by rw [hw]; exact (Kept.set_ (Kept.set_ (Kept.set_ (Kept.set_ (Kept.set_ (Kept.set_ (Kept.set_ (Kept.set_ (Kept.refl _) bxr.isBox plain_J) (IsBox.set_ bxr.isBox) plain_J) (IsBox.set_ (IsBox.set_ bxr.isBox)) plain_J) (IsBox.set_ (IsBox.set_ (IsBox.set_ bxr.isBox))) plain_J) (IsBox.set_ (IsBox.set_ (IsBox.set_ (IsBox.set_ bxr.isBox)))) plain_J) (IsBox.set_ (IsBox.set_ (IsBox.set_ (IsBox.set_ (IsBox.set_ bxr.isBox))))) plain_J) (IsBox.set_ (IsBox.set_ (IsBox.set_ (IsBox.set_ (IsBox.set_ (IsBox.set_ bxr.isBox)))))) plain_J) (IsBox.set_ (IsBox.set_ (IsBox.set_ (IsBox.set_ (IsBox.set_ (IsBox.set_ (IsBox.set_ bxr.isBox))))))) plain_J)
  have nbi : BK w4 (w.heap.size) 29 #[.bool s1, .slice A1 L1 c1, .slice B1 M1 d1, .bool s2, .slice A2 L2 c2, .slice B2 M2 d2] := by rw [hw]; exact (BK.far (BK.far (BK.far (BK.far (BK.far (BK.far (BK.far (BK.far bxi (show w.heap.size ≠ w.heap.size + 1 by omega) 0 _) (show w.heap.size ≠ w.heap.size + 1 by omega) 1 _) (show w.heap.size ≠ w.heap.size + 1 by omega) 2 _) (show w.heap.size ≠ w.heap.size + 1 by omega) 3 _) (show w.heap.size ≠ w.heap.size + 1 by omega) 4 _) (show w.heap.size ≠ w.heap.size + 1 by omega) 5 _) (show w.heap.size ≠ w.heap.size + 1 by omega) 6 _) (show w.heap.size ≠ w.heap.size + 1 by omega) 7 _)
  have nbr : BK w4 (w.heap.size + 1) 38 #[.int .i64 gza, .slice Aza Lza cza, .int .i64 hza, .slice Bza Mza dza, .int .i64 gzb, .slice Azb Lzb czb, .int .i64 hzb, .slice Bzb Mzb dzb] := by rw [hw]; exact (BK.set (i := 7) (u := .slice Bzb Mzb dzb) (vs' := #[.int .i64 gza, .slice Aza Lza cza, .int .i64 hza, .slice Bza Mza dza, .int .i64 gzb, .slice Azb Lzb czb, .int .i64 hzb, .slice Bzb Mzb dzb]) (BK.set (i := 6) (u := .int .i64 hzb) (vs' := #[.int .i64 gza, .slice Aza Lza cza, .int .i64 hza, .slice Bza Mza dza, .int .i64 gzb, .slice Azb Lzb czb, .int .i64 hzb, .slice none 0 0]) (BK.set (i := 5) (u := .slice Azb Lzb czb) (vs' := #[.int .i64 gza, .slice Aza Lza cza, .int .i64 hza, .slice Bza Mza dza, .int .i64 gzb, .slice Azb Lzb czb, .int .i64 0, .slice none 0 0]) (BK.set (i := 4) (u := .int .i64 gzb) (vs' := #[.int .i64 gza, .slice Aza Lza cza, .int .i64 hza, .slice Bza Mza dza, .int .i64 gzb, .slice none 0 0, .int .i64 0, .slice none 0 0]) (BK.set (i := 3) (u := .slice Bza Mza dza) (vs' := #[.int .i64 gza, .slice Aza Lza cza, .int .i64 hza, .slice Bza Mza dza, .int .i64 0, .slice none 0 0, .int .i64 0, .slice none 0 0]) (BK.set (i := 2) (u := .int .i64 hza) (vs' := #[.int .i64 gza, .slice Aza Lza cza, .int .i64 hza, .slice none 0 0, .int .i64 0, .slice none 0 0, .int .i64 0, .slice none 0 0]) (BK.set (i := 1) (u := .slice Aza Lza cza) (vs' := #[.int .i64 gza, .slice Aza Lza cza, .int .i64 0, .slice none 0 0, .int .i64 0, .slice none 0 0, .int .i64 0, .slice none 0 0]) (BK.set (i := 0) (u := .int .i64 gza) (vs' := #[.int .i64 gza, .slice none 0 0, .int .i64 0, .slice none 0 0, .int .i64 0, .slice none 0 0, .int .i64 0, .slice none 0 0]) bxr rfl) rfl) rfl) rfl) rfl) rfl) rfl) rfl)
  have x4 : Ext w w4 := by rw [hw]; have hxp : Ext w w3 := (by with_reducible repeat' first | exact Ext.refl _ | assumption | apply Ext.alloc_r | apply Ext.drew_r | apply Ext.drewN_r | refine Ext.trans ?_ ‹Ext _ _›); exact (Ext.set_ (Ext.set_ (Ext.set_ (Ext.set_ (Ext.set_ (Ext.set_ (Ext.set_ (Ext.set_ hxp (show _ ≤ w.heap.size + 1 by omega)) (show _ ≤ w.heap.size + 1 by omega)) (show _ ≤ w.heap.size + 1 by omega)) (show _ ≤ w.heap.size + 1 by omega)) (show _ ≤ w.heap.size + 1 by omega)) (show _ ≤ w.heap.size + 1 by omega)) (show _ ≤ w.heap.size + 1 by omega)) (show _ ≤ w.heap.size + 1 by omega))
  clear bxi
  clear bxr
  have bxi := nbi
  clear nbi
  have bxr := nbr
  clear nbr
  have szw4 : w4.heap.size = w3.heap.size := by rw [hw]; simp
  replace za := (za.ext (by with_reducible repeat' first | exact Ext.refl _ | assumption | apply Ext.alloc_r | apply Ext.drew_r | apply Ext.drewN_r | refine Ext.trans ?_ ‹Ext _ _›)).kept kw4
  replace zb := (zb.ext (by with_reducible repeat' first | exact Ext.refl _ | assumption | apply Ext.alloc_r | apply Ext.drew_r | apply Ext.drewN_r | refine Ext.trans ?_ ‹Ext _ _›)).kept kw4
  clear hw kw4
  have HU := Lib.hid za
  have HV := Lib.hid zb
  clear za zb
  have ki_0 := bxi.c 0 (.bool s1) rfl
  have ki_1 := bxi.c 1 (.slice A1 L1 c1) rfl
  have ki_2 := bxi.c 2 (.slice B1 M1 d1) rfl
  have ki_3 := bxi.c 3 (.bool s2) rfl
  have ki_4 := bxi.c 4 (.slice A2 L2 c2) rfl
  have ki_5 := bxi.c 5 (.slice B2 M2 d2) rfl
  have kr_0 := bxr.c 0 (.int .i64 gza) rfl
  have kr_1 := bxr.c 1 (.slice Aza Lza cza) rfl
  have kr_2 := bxr.c 2 (.int .i64 hza) rfl
  have kr_3 := bxr.c 3 (.slice Bza Mza dza) rfl
  have kr_4 := bxr.c 4 (.int .i64 gzb) rfl
  have kr_5 := bxr.c 5 (.slice Azb Lzb czb) rfl
  have kr_6 := bxr.c 6 (.int .i64 hzb) rfl
  have kr_7 := bxr.c 7 (.slice Bzb Mzb dzb) rfl
  go_wp2_with fail
  clear ki_0 ki_1 ki_2 ki_3 ki_4 ki_5 kr_0 kr_1 kr_2 kr_3 kr_4 kr_5 kr_6 kr_7
  have kr_0 := bxr.c 0 (.int .i64 gza) rfl
  have kr_1 := bxr.c 1 (.slice Aza Lza cza) rfl
  have kr_2 := bxr.c 2 (.int .i64 hza) rfl
  have kr_3 := bxr.c 3 (.slice Bza Mza dza) rfl
  have kr_4 := bxr.c 4 (.int .i64 gzb) rfl
  have kr_5 := bxr.c 5 (.slice Azb Lzb czb) rfl
  have kr_6 := bxr.c 6 (.int .i64 hzb) rfl
  have kr_7 := bxr.c 7 (.slice Bzb Mzb dzb) rfl
  refine bodyPost_ret (v := Value.agg #[Value.int IntKind.i64 gza, Value.slice Aza Lza cza, Value.int IntKind.i64 hza, Value.slice Bza Mza dza, Value.int IntKind.i64 gzb, Value.slice Azb Lzb czb, Value.int IntKind.i64 hzb, Value.slice Bzb Mzb dzb]) (by simp [results, Tryz.results10, go_sem, kr_0, kr_1, kr_2, kr_3, kr_4, kr_5, kr_6, kr_7]) rfl ?_
  exact ⟨_, _, _, _, _, _, _, _, _, _, _, _, _, _, _, _, rfl, HU.out, HV.out, x4⟩
set_option maxHeartbeats 4000000 in
set_option maxRecDepth 100000 in
theorem lis6 {w : World} {g N K : Nat} {s1 s2 : Bool} {A1 B1 A2 B2 : Option Addr} {c1 d1 L1 M1 c2 d2 L2 M2 : Nat} {q1 q2 : Rat} {g3 h3 g4 h4 : Int} {A3 B3 A4 B4 : Option Addr} {c3 d3 L3 M3 c4 d4 L4 M4 : Nat} {q3 q4 : Rat} (h1 : RO w g s1 A1 c1 L1 B1 d1 M1 N q1) (h2 : RO w g s2 A2 c2 L2 B2 d2 M2 N q2) (h_3 : QR w g3 A3 c3 L3 h3 B3 d3 M3 K q3) (h_4 : QR w g4 A4 c4 L4 h4 B4 d4 M4 K q4) (e1 : q3 = q1) (e2 : q4 = q2) (hK : K ≤ 100000000) :
    Calls Tryz.prog 14 #[Value.agg #[Value.bool s1, Value.slice A1 L1 c1, Value.slice B1 M1 d1, Value.bool s2, Value.slice A2 L2 c2, Value.slice B2 M2 d2], Value.agg #[Value.int IntKind.i64 g3, Value.slice A3 L3 c3, Value.int IntKind.i64 h3, Value.slice B3 M3 d3, Value.int IntKind.i64 g4, Value.slice A4 L4 c4, Value.int IntKind.i64 h4, Value.slice B4 M4 d4]] w fun e w' => e = .returned (.bool true) ∧ Ext w w' := by
  have HE := Lib.hid (And.intro e1 e2)
  clear e1 e2
  go_enter Tryz.func14, Tryz.ntmps14
  go_wp2_with fail
  obtain ⟨w0, hw0⟩ : ∃ z : World, z = ((w.alloc (.cells #[.bool s1, .slice A1 L1 c1, .slice B1 M1 d1, .bool s2, .slice A2 L2 c2, .slice B2 M2 d2] 29)).alloc (.cells #[.int .i64 g3, .slice A3 L3 c3, .int .i64 h3, .slice B3 M3 d3, .int .i64 g4, .slice A4 L4 c4, .int .i64 h4, .slice B4 M4 d4] 38)) := ⟨_, rfl⟩
  rw [← hw0]
  have bxi : BK w0 (w.heap.size) 29 #[.bool s1, .slice A1 L1 c1, .slice B1 M1 d1, .bool s2, .slice A2 L2 c2, .slice B2 M2 d2] := by rw [hw0]; have h5 := (BK.ext (BK.new w #[.bool s1, .slice A1 L1 c1, .slice B1 M1 d1, .bool s2, .slice A2 L2 c2, .slice B2 M2 d2] 29) (Ext.alloc _ (.cells #[.int .i64 g3, .slice A3 L3 c3, .int .i64 h3, .slice B3 M3 d3, .int .i64 g4, .slice A4 L4 c4, .int .i64 h4, .slice B4 M4 d4] 38))); simpa only [World.size_alloc] using h5
  have bxj : BK w0 (w.heap.size + 1) 38 #[.int .i64 g3, .slice A3 L3 c3, .int .i64 h3, .slice B3 M3 d3, .int .i64 g4, .slice A4 L4 c4, .int .i64 h4, .slice B4 M4 d4] := by rw [hw0]; have h5 := (BK.new (w.alloc (.cells #[.bool s1, .slice A1 L1 c1, .slice B1 M1 d1, .bool s2, .slice A2 L2 c2, .slice B2 M2 d2] 29)) #[.int .i64 g3, .slice A3 L3 c3, .int .i64 h3, .slice B3 M3 d3, .int .i64 g4, .slice A4 L4 c4, .int .i64 h4, .slice B4 M4 d4] 38); simpa only [World.size_alloc] using h5
  have hszw0 : w0.heap.size = w.heap.size + 1 + 1 := by rw [hw0]; simp only [World.size_alloc]
  have xw0 : Ext w w0 := by rw [hw0]; exact ((Ext.alloc _ _).trans (Ext.alloc _ _))
  clear hw0
  refine (qis_r (h1.ext (by with_reducible repeat' first | exact Ext.refl _ | assumption | apply Ext.alloc_r | apply Ext.drew_r | apply Ext.drewN_r | refine Ext.trans ?_ ‹Ext _ _›)) (h_3.ext (by with_reducible repeat' first | exact Ext.refl _ | assumption | apply Ext.alloc_r | apply Ext.drew_r | apply Ext.drewN_r | refine Ext.trans ?_ ‹Ext _ _›)) HE.out.1 (by omega)).mono ?_
  rintro e w1 ⟨rfl, x1⟩
  have szw1 : w0.heap.size ≤ w1.heap.size := x1.size
  replace bxi := bxi.ext x1
  replace bxj := bxj.ext x1
  have ki_0 := bxi.c 0 (.bool s1) rfl
  have ki_1 := bxi.c 1 (.slice A1 L1 c1) rfl
  have ki_2 := bxi.c 2 (.slice B1 M1 d1) rfl
  have ki_3 := bxi.c 3 (.bool s2) rfl
  have ki_4 := bxi.c 4 (.slice A2 L2 c2) rfl
  have ki_5 := bxi.c 5 (.slice B2 M2 d2) rfl
  have kj_0 := bxj.c 0 (.int .i64 g3) rfl
  have kj_1 := bxj.c 1 (.slice A3 L3 c3) rfl
  have kj_2 := bxj.c 2 (.int .i64 h3) rfl
  have kj_3 := bxj.c 3 (.slice B3 M3 d3) rfl
  have kj_4 := bxj.c 4 (.int .i64 g4) rfl
  have kj_5 := bxj.c 5 (.slice A4 L4 c4) rfl
  have kj_6 := bxj.c 6 (.int .i64 h4) rfl
  have kj_7 := bxj.c 7 (.slice B4 M4 d4) rfl
  go_wp2_with fail
  clear ki_0 ki_1 ki_2 ki_3 ki_4 ki_5 kj_0 kj_1 kj_2 kj_3 kj_4 kj_5 kj_6 kj_7
  refine (qis_r (h2.ext (by with_reducible repeat' first | exact Ext.refl _ | assumption | apply Ext.alloc_r | apply Ext.drew_r | apply Ext.drewN_r | refine Ext.trans ?_ ‹Ext _ _›)) (h_4.ext (by with_reducible repeat' first | exact Ext.refl _ | assumption | apply Ext.alloc_r | apply Ext.drew_r | apply Ext.drewN_r | refine Ext.trans ?_ ‹Ext _ _›)) HE.out.2 (by omega)).mono ?_
  rintro e w2 ⟨rfl, x2⟩
  have szw2 : w1.heap.size ≤ w2.heap.size := x2.size
  replace bxi := bxi.ext x2
  replace bxj := bxj.ext x2
  have x0w : Ext w w2 := (by with_reducible repeat' first | exact Ext.refl _ | assumption | apply Ext.alloc_r | apply Ext.drew_r | apply Ext.drewN_r | refine Ext.trans ?_ ‹Ext _ _›)
  have ki_0 := bxi.c 0 (.bool s1) rfl
  have ki_1 := bxi.c 1 (.slice A1 L1 c1) rfl
  have ki_2 := bxi.c 2 (.slice B1 M1 d1) rfl
  have ki_3 := bxi.c 3 (.bool s2) rfl
  have ki_4 := bxi.c 4 (.slice A2 L2 c2) rfl
  have ki_5 := bxi.c 5 (.slice B2 M2 d2) rfl
  have kj_0 := bxj.c 0 (.int .i64 g3) rfl
  have kj_1 := bxj.c 1 (.slice A3 L3 c3) rfl
  have kj_2 := bxj.c 2 (.int .i64 h3) rfl
  have kj_3 := bxj.c 3 (.slice B3 M3 d3) rfl
  have kj_4 := bxj.c 4 (.int .i64 g4) rfl
  have kj_5 := bxj.c 5 (.slice A4 L4 c4) rfl
  have kj_6 := bxj.c 6 (.int .i64 h4) rfl
  have kj_7 := bxj.c 7 (.slice B4 M4 d4) rfl
  go_wp2_with fail
  clear ki_0 ki_1 ki_2 ki_3 ki_4 ki_5 kj_0 kj_1 kj_2 kj_3 kj_4 kj_5 kj_6 kj_7
  go_ret
  exact ⟨rfl, x0w⟩
theorem rv_zeroJ (w : World) : RV w false none 0 0 none 0 0 1 0 :=
  ⟨⟨0, 0, zv_zero w, (zv_zero w).nv, (Rat.zero_mkRat 0).symm, Nat.zero_le _, Nat.zero_le _⟩, Nat.le_refl _⟩
set_option maxHeartbeats 4000000 in
set_option maxRecDepth 100000 in
theorem none6 {w : World} : Calls Tryz.prog 13 #[Value.agg #[Value.bool false, Value.slice none 0 0, Value.slice none 0 0, Value.bool false, Value.slice none 0 0, Value.slice none 0 0]] w fun e w' => e = .returned (.bool true) ∧ Ext w w' := by
  go_enter Tryz.func13, Tryz.ntmps13
  go_wp2_with fail
  obtain ⟨w0, hw0⟩ : ∃ z : World, z = (w.alloc (.cells #[.bool false, .slice none 0 0, .slice none 0 0, .bool false, .slice none 0 0, .slice none 0 0] 29)) := ⟨_, rfl⟩
  rw [← hw0]
  have bxi : BK w0 (w.heap.size) 29 #[.bool false, .slice none 0 0, .slice none 0 0, .bool false, .slice none 0 0, .slice none 0 0] := by rw [hw0]; have h5 := (BK.new w #[.bool false, .slice none 0 0, .slice none 0 0, .bool false, .slice none 0 0, .slice none 0 0] 29); simpa only [World.size_alloc] using h5
  have hszw0 : w0.heap.size = w.heap.size + 1 := by rw [hw0]; simp only [World.size_alloc]
  have xw0 : Ext w w0 := by rw [hw0]; exact (Ext.alloc _ _)
  clear hw0
  refine (rsign_k (k := 0) (rv_zeroJ _) rfl).mono ?_
  rintro e w1 ⟨rfl, x1⟩
  have szw1 : w0.heap.size ≤ w1.heap.size := x1.size
  replace bxi := bxi.ext x1
  have ki_0 := bxi.c 0 (.bool false) rfl
  have ki_1 := bxi.c 1 (.slice none 0 0) rfl
  have ki_2 := bxi.c 2 (.slice none 0 0) rfl
  have ki_3 := bxi.c 3 (.bool false) rfl
  have ki_4 := bxi.c 4 (.slice none 0 0) rfl
  have ki_5 := bxi.c 5 (.slice none 0 0) rfl
  go_wp2_with fail
  clear ki_0 ki_1 ki_2 ki_3 ki_4 ki_5
  refine (rsign_k (k := 0) (rv_zeroJ _) rfl).mono ?_
  rintro e w2 ⟨rfl, x2⟩
  have szw2 : w1.heap.size ≤ w2.heap.size := x2.size
  replace bxi := bxi.ext x2
  have x0w : Ext w w2 := (by with_reducible repeat' first | exact Ext.refl _ | assumption | apply Ext.alloc_r | apply Ext.drew_r | apply Ext.drewN_r | refine Ext.trans ?_ ‹Ext _ _›)
  have ki_0 := bxi.c 0 (.bool false) rfl
  have ki_1 := bxi.c 1 (.slice none 0 0) rfl
  have ki_2 := bxi.c 2 (.slice none 0 0) rfl
  have ki_3 := bxi.c 3 (.bool false) rfl
  have ki_4 := bxi.c 4 (.slice none 0 0) rfl
  have ki_5 := bxi.c 5 (.slice none 0 0) rfl
  go_wp2_with fail
  clear ki_0 ki_1 ki_2 ki_3 ki_4 ki_5
  go_ret
  exact ⟨rfl, x0w⟩
theorem Bx.mk8 {w : World} {g : Nat} {v0 v1 v2 v3 v4 v5 v6 v7 : Value} (c0 : w.cell? ⟨g, 0, none⟩ = some v0) (c1 : w.cell? ⟨g, 1, none⟩ = some v1) (c2 : w.cell? ⟨g, 2, none⟩ = some v2) (c3 : w.cell? ⟨g, 3, none⟩ = some v3) (c4 : w.cell? ⟨g, 4, none⟩ = some v4) (c5 : w.cell? ⟨g, 5, none⟩ = some v5) (c6 : w.cell? ⟨g, 6, none⟩ = some v6) (c7 : w.cell? ⟨g, 7, none⟩ = some v7) : Bx w (.pointer (some ⟨g, 0, none⟩)) #[v0, v1, v2, v3, v4, v5, v6, v7] := by
  refine ⟨g, rfl, fun i v hv => ?_⟩
  match i with
  | 0 => simp at hv; subst hv; exact c0
  | 1 => simp at hv; subst hv; exact c1
  | 2 => simp at hv; subst hv; exact c2
  | 3 => simp at hv; subst hv; exact c3
  | 4 => simp at hv; subst hv; exact c4
  | 5 => simp at hv; subst hv; exact c5
  | 6 => simp at hv; subst hv; exact c6
  | 7 => simp at hv; subst hv; exact c7
  | n + 8 => simp at hv
/-- An interval of the reference in a box. -/
def PutJ (w w' : World) (K : Nat) (p q : Rat) (sl : Value) : Prop := ∃ g A c L h B d M g' A' c' L' h' B' d' M', Bx w' sl #[.int .i64 g, .slice A L c, .int .i64 h, .slice B M d, .int .i64 g', .slice A' L' c', .int .i64 h', .slice B' M' d'] ∧ QR w' g A c L h B d M K p ∧ QR w' g' A' c' L' h' B' d' M' K q ∧ Ext w w'
theorem PutJ.mk {w w' : World} {K : Nat} {p q : Rat} {g h g' h' : Int} {A B A' B' : Option Addr} {c L d M c' L' d' M' : Nat} {sl : Value} (hb : Bx w' sl #[.int .i64 g, .slice A L c, .int .i64 h, .slice B M d, .int .i64 g', .slice A' L' c', .int .i64 h', .slice B' M' d']) (h1 : QR w' g A c L h B d M K p) (h2 : QR w' g' A' c' L' h' B' d' M' K q) (hx : Ext w w') : PutJ w w' K p q sl := ⟨g, A, c, L, h, B, d, M, g', A', c', L', h', B', d', M', hb, h1, h2, hx⟩
theorem Kept.setJ {a w : World} {g i : Nat} {s : Option Nat} {u : Value} (hb : IsBox w g 38) (h : Kept a w) : Kept a (w.setCell ⟨g, i, s⟩ u) := h.set_ hb plain_J
end Go.Proofs.YtehhkeenjlpikaaGreat
