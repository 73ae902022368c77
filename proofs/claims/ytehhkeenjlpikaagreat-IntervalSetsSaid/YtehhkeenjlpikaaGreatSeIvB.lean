import Derived.Test.YtehhkeenjlpikaaGreatSeIvA
import Derived.Deep.RegionHeldLaw
import Derived.Deep.LoopGhost
import Derived.Deep.QuietTactic
import Derived.BigQuiet
namespace Go.Proofs.YtehhkeenjlpikaaGreat
open Go.RowKit
set_option maxHeartbeats 4000000 in
set_option maxRecDepth 100000 in
theorem point_r {w : World} {N : Nat} {s1 : Bool} {A1 B1 : Option Addr} {c1 d1 L1 M1 : Nat} {q1 : Rat} (h1 : RV w s1 A1 c1 L1 B1 d1 M1 N q1) (hN : N < 48) :
    Calls Tryz.prog 35 #[Value.agg #[Value.bool s1, Value.slice A1 L1 c1, Value.slice B1 M1 d1]] w (RetI w N q1 q1) := by
  go_enter Tryz.func35, Tryz.ntmps35
  go_wp2_with fail
  obtain ⟨w0, hw0⟩ : ∃ z : World, z = ((w.alloc (.cells #[.bool s1, .slice A1 L1 c1, .slice B1 M1 d1] 27)).alloc (.cells #[.bool false, .slice none 0 0, .slice none 0 0, .bool false, .slice none 0 0, .slice none 0 0] 29)) := ⟨_, rfl⟩
  rw [← hw0]
  have bxa : BK w0 (w.heap.size) 27 #[.bool s1, .slice A1 L1 c1, .slice B1 M1 d1] := by rw [hw0]; have h5 := (BK.ext (BK.new w #[.bool s1, .slice A1 L1 c1, .slice B1 M1 d1] 27) (Ext.alloc _ (.cells #[.bool false, .slice none 0 0, .slice none 0 0, .bool false, .slice none 0 0, .slice none 0 0] 29))); simpa only [World.size_alloc] using h5
  have bxr : BK w0 (w.heap.size + 1) 29 #[.bool false, .slice none 0 0, .slice none 0 0, .bool false, .slice none 0 0, .slice none 0 0] := by rw [hw0]; have h5 := (BK.new (w.alloc (.cells #[.bool s1, .slice A1 L1 c1, .slice B1 M1 d1] 27)) #[.bool false, .slice none 0 0, .slice none 0 0, .bool false, .slice none 0 0, .slice none 0 0] 29); simpa only [World.size_alloc] using h5
  have hszw0 : w0.heap.size = w.heap.size + 1 + 1 := by rw [hw0]; simp only [World.size_alloc]
  have xw0 : Ext w w0 := by rw [hw0]; exact ((Ext.alloc _ _).trans (Ext.alloc _ _))
  clear hw0
  have ka_0 := bxa.c 0 (.bool s1) rfl
  have ka_1 := bxa.c 1 (.slice A1 L1 c1) rfl
  have ka_2 := bxa.c 2 (.slice B1 M1 d1) rfl
  have kr_0 := bxr.c 0 (.bool false) rfl
  have fr_0 := bxr.f 0
  have kr_1 := bxr.c 1 (.slice none 0 0) rfl
  have fr_1 := bxr.f 1
  have kr_2 := bxr.c 2 (.slice none 0 0) rfl
  have fr_2 := bxr.f 2
  have kr_3 := bxr.c 3 (.bool false) rfl
  have fr_3 := bxr.f 3
  have kr_4 := bxr.c 4 (.slice none 0 0) rfl
  have fr_4 := bxr.f 4
  have kr_5 := bxr.c 5 (.slice none 0 0) rfl
  have fr_5 := bxr.f 5
  go_wp2_with fail
  have HK : Hid (∀ w', Ext w0 w' → (w'.cell? ⟨w.heap.size, 0, none⟩ = some (.bool s1) ∧ w'.cell? ⟨w.heap.size, 1, none⟩ = some (.slice A1 L1 c1) ∧ w'.cell? ⟨w.heap.size, 2, none⟩ = some (.slice B1 M1 d1))) := fun w' hk => ⟨hk.cell ka_0, hk.cell ka_1, hk.cell ka_2⟩
  have nera : w.heap.size + 1 ≠ w.heap.size := by omega
  have HSr : Hid (∀ (w' : World) (i : Nat) (u : Value), (w'.cell? ⟨w.heap.size, 0, none⟩ = some (.bool s1) ∧ w'.cell? ⟨w.heap.size, 1, none⟩ = some (.slice A1 L1 c1) ∧ w'.cell? ⟨w.heap.size, 2, none⟩ = some (.slice B1 M1 d1)) → ((fun (w' : World) => (w'.cell? ⟨w.heap.size, 0, none⟩ = some (.bool s1) ∧ w'.cell? ⟨w.heap.size, 1, none⟩ = some (.slice A1 L1 c1) ∧ w'.cell? ⟨w.heap.size, 2, none⟩ = some (.slice B1 M1 d1))) (w'.setCell ⟨w.heap.size + 1, i, none⟩ u))) := fun w' i u hs => ⟨cell_far nera hs.1, cell_far nera hs.2.1, cell_far nera hs.2.2⟩
  go_region_held3 (fun w' => w'.cell? ⟨w.heap.size, 0, none⟩ = some (.bool s1) ∧ w'.cell? ⟨w.heap.size, 1, none⟩ = some (.slice A1 L1 c1) ∧ w'.cell? ⟨w.heap.size, 2, none⟩ = some (.slice B1 M1 d1))
    (((repeat (first | (with_reducible refine HSr.out _ _ _ ?_))); (with_reducible refine HK.out _ ?_; (with_reducible repeat' first | exact Ext.refl _ | assumption | apply Ext.alloc_r | apply Ext.drew_r | apply Ext.drewN_r | refine Ext.trans ?_ ‹Ext _ _›))))
    (first
      | (go_at_call 62; have hgd := u; clear hgd; refine (rnormal_r (h1.ext (by with_reducible repeat' first | exact Ext.refl _ | assumption | apply Ext.alloc_r | apply Ext.drew_r | apply Ext.drewN_r | refine Ext.trans ?_ ‹Ext _ _›)) (by omega)).mono ?_; rintro e w2 ⟨sv, Av, cv, Lv, Bv, dv, Mv, rfl, v, x2⟩; have yl : Ext w0 w2 := (by with_reducible repeat' first | exact Ext.refl _ | assumption | apply Ext.alloc_r | apply Ext.drew_r | apply Ext.drewN_r | refine Ext.trans ?_ ‹Ext _ _›); have cr_0 := (bxr.ext yl).c 0 (.bool false) rfl; have gr_0 := (bxr.ext yl).f 0; have cr_1 := (bxr.ext yl).c 1 (.slice none 0 0) rfl; have gr_1 := (bxr.ext yl).f 1; have cr_2 := (bxr.ext yl).c 2 (.slice none 0 0) rfl; have gr_2 := (bxr.ext yl).f 2; have cr_3 := (bxr.ext yl).c 3 (.bool false) rfl; have gr_3 := (bxr.ext yl).f 3; have cr_4 := (bxr.ext yl).c 4 (.slice none 0 0) rfl; have gr_4 := (bxr.ext yl).f 4; have cr_5 := (bxr.ext yl).c 5 (.slice none 0 0) rfl; have gr_5 := (bxr.ext yl).f 5)
      | (go_at_call 62; refine (rnormal_r (h1.ext (by with_reducible repeat' first | exact Ext.refl _ | assumption | apply Ext.alloc_r | apply Ext.drew_r | apply Ext.drewN_r | refine Ext.trans ?_ ‹Ext _ _›)) (by omega)).mono ?_; rintro e w1 ⟨su, Au, cu, Lu, Bu, du, Mu, rfl, u, x1⟩))
  clear ka_0 ka_1 ka_2 kr_0 fr_0 kr_1 fr_1 kr_2 fr_2 kr_3 fr_3 kr_4 fr_4 kr_5 fr_5
  clear HK HSr nera
  clear cr_0 gr_0
  clear cr_1 gr_1
  clear cr_2 gr_2
  clear cr_3 gr_3
  clear cr_4 gr_4
  clear cr_5 gr_5
  clear yl
  have szw1 : w0.heap.size ≤ w1.heap.size := (show Ext w0 w1 from (by with_reducible repeat' first | exact Ext.refl _ | assumption | apply Ext.alloc_r | apply Ext.drew_r | apply Ext.drewN_r | refine Ext.trans ?_ ‹Ext _ _›)).size
  have xhw2 : Ext w0 w2 := (by with_reducible repeat' first | exact Ext.refl _ | assumption | apply Ext.alloc_r | apply Ext.drew_r | apply Ext.drewN_r | refine Ext.trans ?_ ‹Ext _ _›)
  have szw2 : w0.heap.size ≤ w2.heap.size := xhw2.size
  replace bxa := bxa.ext xhw2
  replace bxr := bxr.ext xhw2
  have u2 := (u.ext (show Ext _ w2 from (by with_reducible repeat' first | exact Ext.refl _ | assumption | apply Ext.alloc_r | apply Ext.drew_r | apply Ext.drewN_r | refine Ext.trans ?_ ‹Ext _ _›))).mono (show w.heap.size ≤ _ by first | omega | (simp only [World.size_drew]; omega))
  have v2 := v.mono (show w.heap.size ≤ _ by first | omega | (simp only [World.size_drew]; omega))
  clear u v
  obtain ⟨w3, hw⟩ : ∃ z : World, z = ((((((w2.setCell ⟨w.heap.size + 1, 0, none⟩ (.bool su)).setCell ⟨w.heap.size + 1, 1, none⟩ (.slice Au Lu cu)).setCell ⟨w.heap.size + 1, 2, none⟩ (.slice Bu Mu du)).setCell ⟨w.heap.size + 1, 3, none⟩ (.bool sv)).setCell ⟨w.heap.size + 1, 4, none⟩ (.slice Av Lv cv)).setCell ⟨w.heap.size + 1, 5, none⟩ (.slice Bv Mv dv)) := ⟨_, rfl⟩
  rw [← hw]
  have kw3 : Kept w2 w3 := by rw [hw]; exact (Kept.set_ (Kept.set_ (Kept.set_ (Kept.set_ (Kept.set_ (Kept.set_ (Kept.refl _) bxr.isBox plain_iv) (IsBox.set_ bxr.isBox) plain_iv) (IsBox.set_ (IsBox.set_ bxr.isBox)) plain_iv) (IsBox.set_ (IsBox.set_ (IsBox.set_ bxr.isBox))) plain_iv) (IsBox.set_ (IsBox.set_ (IsBox.set_ (IsBox.set_ bxr.isBox)))) plain_iv) (IsBox.set_ (IsBox.set_ (IsBox.set_ (IsBox.set_ (IsBox.set_ bxr.isBox))))) plain_iv)
  have nba : BK w3 (w.heap.size) 27 #[.bool s1, .slice A1 L1 c1, .slice B1 M1 d1] := by rw [hw]; exact (BK.far (BK.far (BK.far (BK.far (BK.far (BK.far bxa (show w.heap.size ≠ w.heap.size + 1 by omega) 0 _) (show w.heap.size ≠ w.heap.size + 1 by omega) 1 _) (show w.heap.size ≠ w.heap.size + 1 by omega) 2 _) (show w.heap.size ≠ w.heap.size + 1 by omega) 3 _) (show w.heap.size ≠ w.heap.size + 1 by omega) 4 _) (show w.heap.size ≠ w.heap.size + 1 by omega) 5 _)
  have nbr : BK w3 (w.heap.size + 1) 29 #[.bool su, .slice Au Lu cu, .slice Bu Mu du, .bool sv, .slice Av Lv cv, .slice Bv Mv dv] := by rw [hw]; exact (BK.set (i := 5) (u := .slice Bv Mv dv) (vs' := #[.bool su, .slice Au Lu cu, .slice Bu Mu du, .bool sv, .slice Av Lv cv, .slice Bv Mv dv]) (BK.set (i := 4) (u := .slice Av Lv cv) (vs' := #[.bool su, .slice Au Lu cu, .slice Bu Mu du, .bool sv, .slice Av Lv cv, .slice none 0 0]) (BK.set (i := 3) (u := .bool sv) (vs' := #[.bool su, .slice Au Lu cu, .slice Bu Mu du, .bool sv, .slice none 0 0, .slice none 0 0]) (BK.set (i := 2) (u := .slice Bu Mu du) (vs' := #[.bool su, .slice Au Lu cu, .slice Bu Mu du, .bool false, .slice none 0 0, .slice none 0 0]) (BK.set (i := 1) (u := .slice Au Lu cu) (vs' := #[.bool su, .slice Au Lu cu, .slice none 0 0, .bool false, .slice none 0 0, .slice none 0 0]) (BK.set (i := 0) (u := .bool su) (vs' := #[.bool su, .slice none 0 0, .slice none 0 0, .bool false, .slice none 0 0, .slice none 0 0]) bxr rfl) rfl) rfl) rfl) rfl) rfl)
  have x3 : Ext w w3 := by rw [hw]; have hxp : Ext w w2 := (by with_reducible repeat' first | exact Ext.refl _ | assumption | apply Ext.alloc_r | apply Ext.drew_r | apply Ext.drewN_r | refine Ext.trans ?_ ‹Ext _ _›); exact (Ext.set_ (Ext.set_ (Ext.set_ (Ext.set_ (Ext.set_ (Ext.set_ hxp (show _ ≤ w.heap.size + 1 by omega)) (show _ ≤ w.heap.size + 1 by omega)) (show _ ≤ w.heap.size + 1 by omega)) (show _ ≤ w.heap.size + 1 by omega)) (show _ ≤ w.heap.size + 1 by omega)) (show _ ≤ w.heap.size + 1 by omega))
  clear bxa
  clear bxr
  have bxa := nba
  clear nba
  have bxr := nbr
  clear nbr
  have szw3 : w3.heap.size = w2.heap.size := by rw [hw]; simp
  replace u2 := (u2.ext (by with_reducible repeat' first | exact Ext.refl _ | assumption | apply Ext.alloc_r | apply Ext.drew_r | apply Ext.drewN_r | refine Ext.trans ?_ ‹Ext _ _›)).kept kw3
  replace v2 := (v2.ext (by with_reducible repeat' first | exact Ext.refl _ | assumption | apply Ext.alloc_r | apply Ext.drew_r | apply Ext.drewN_r | refine Ext.trans ?_ ‹Ext _ _›)).kept kw3
  clear hw kw3
  have HU := Lib.hid u2
  have HV := Lib.hid v2
  clear u2 v2
  have ka_0 := bxa.c 0 (.bool s1) rfl
  have ka_1 := bxa.c 1 (.slice A1 L1 c1) rfl
  have ka_2 := bxa.c 2 (.slice B1 M1 d1) rfl
  have kr_0 := bxr.c 0 (.bool su) rfl
  have kr_1 := bxr.c 1 (.slice Au Lu cu) rfl
  have kr_2 := bxr.c 2 (.slice Bu Mu du) rfl
  have kr_3 := bxr.c 3 (.bool sv) rfl
  have kr_4 := bxr.c 4 (.slice Av Lv cv) rfl
  have kr_5 := bxr.c 5 (.slice Bv Mv dv) rfl
  go_wp2_with fail
  clear ka_0 ka_1 ka_2 kr_0 kr_1 kr_2 kr_3 kr_4 kr_5
  have kr_0 := bxr.c 0 (.bool su) rfl
  have kr_1 := bxr.c 1 (.slice Au Lu cu) rfl
  have kr_2 := bxr.c 2 (.slice Bu Mu du) rfl
  have kr_3 := bxr.c 3 (.bool sv) rfl
  have kr_4 := bxr.c 4 (.slice Av Lv cv) rfl
  have kr_5 := bxr.c 5 (.slice Bv Mv dv) rfl
  refine bodyPost_ret (v := Value.agg #[Value.bool su, Value.slice Au Lu cu, Value.slice Bu Mu du, Value.bool sv, Value.slice Av Lv cv, Value.slice Bv Mv dv]) (by simp [results, Tryz.results35, go_sem, kr_0, kr_1, kr_2, kr_3, kr_4, kr_5]) rfl ?_
  exact ⟨_, _, _, _, _, _, _, _, _, _, _, _, _, _, rfl, HU.out, HV.out, x3⟩
set_option maxHeartbeats 4000000 in
set_option maxRecDepth 100000 in
theorem inormal_r {w : World} {N : Nat} {s1 s2 : Bool} {A1 B1 A2 B2 : Option Addr} {c1 d1 L1 M1 c2 d2 L2 M2 : Nat} {q1 q2 : Rat} (h1 : RV w s1 A1 c1 L1 B1 d1 M1 N q1) (h2 : RV w s2 A2 c2 L2 B2 d2 M2 N q2) (hN : N < 48) :
    Calls Tryz.prog 34 #[Value.agg #[Value.bool s1, Value.slice A1 L1 c1, Value.slice B1 M1 d1, Value.bool s2, Value.slice A2 L2 c2, Value.slice B2 M2 d2]] w (RetI w N (minQ q1 q2) (maxQ q1 q2)) := by
  go_enter Tryz.func34, Tryz.ntmps34
  go_wp2_with fail
  obtain ⟨w0, hw0⟩ : ∃ z : World, z = ((w.alloc (.cells #[.bool s1, .slice A1 L1 c1, .slice B1 M1 d1, .bool s2, .slice A2 L2 c2, .slice B2 M2 d2] 29)).alloc (.cells #[.bool false, .slice none 0 0, .slice none 0 0, .bool false, .slice none 0 0, .slice none 0 0] 29)) := ⟨_, rfl⟩
  rw [← hw0]
  have bxi : BK w0 (w.heap.size) 29 #[.bool s1, .slice A1 L1 c1, .slice B1 M1 d1, .bool s2, .slice A2 L2 c2, .slice B2 M2 d2] := by rw [hw0]; have h5 := (BK.ext (BK.new w #[.bool s1, .slice A1 L1 c1, .slice B1 M1 d1, .bool s2, .slice A2 L2 c2, .slice B2 M2 d2] 29) (Ext.alloc _ (.cells #[.bool false, .slice none 0 0, .slice none 0 0, .bool false, .slice none 0 0, .slice none 0 0] 29))); simpa only [World.size_alloc] using h5
  have bxr : BK w0 (w.heap.size + 1) 29 #[.bool false, .slice none 0 0, .slice none 0 0, .bool false, .slice none 0 0, .slice none 0 0] := by rw [hw0]; have h5 := (BK.new (w.alloc (.cells #[.bool s1, .slice A1 L1 c1, .slice B1 M1 d1, .bool s2, .slice A2 L2 c2, .slice B2 M2 d2] 29)) #[.bool false, .slice none 0 0, .slice none 0 0, .bool false, .slice none 0 0, .slice none 0 0] 29); simpa only [World.size_alloc] using h5
  have hszw0 : w0.heap.size = w.heap.size + 1 + 1 := by rw [hw0]; simp only [World.size_alloc]
  have xw0 : Ext w w0 := by rw [hw0]; exact ((Ext.alloc _ _).trans (Ext.alloc _ _))
  clear hw0
  refine (bounds_r (h1.ext (by with_reducible repeat' first | exact Ext.refl _ | assumption | apply Ext.alloc_r | apply Ext.drew_r | apply Ext.drewN_r | refine Ext.trans ?_ ‹Ext _ _›)) (h2.ext (by with_reducible repeat' first | exact Ext.refl _ | assumption | apply Ext.alloc_r | apply Ext.drew_r | apply Ext.drewN_r | refine Ext.trans ?_ ‹Ext _ _›)) hN).mono ?_
  rintro e w1 ⟨spa, Apa, cpa, Lpa, Bpa, dpa, Mpa, spb, Apb, cpb, Lpb, Bpb, dpb, Mpb, rfl, pa, pb, x1⟩
  have szw1 : w0.heap.size ≤ w1.heap.size := x1.size
  replace bxi := bxi.ext x1
  replace bxr := bxr.ext x1
  have Hp := Lib.hid (And.intro pa pb)
  clear pa pb
  have ki_0 := bxi.c 0 (.bool s1) rfl
  have ki_1 := bxi.c 1 (.slice A1 L1 c1) rfl
  have ki_2 := bxi.c 2 (.slice B1 M1 d1) rfl
  have ki_3 := bxi.c 3 (.bool s2) rfl
  have ki_4 := bxi.c 4 (.slice A2 L2 c2) rfl
  have ki_5 := bxi.c 5 (.slice B2 M2 d2) rfl
  have kr_0 := bxr.c 0 (.bool false) rfl
  have fr_0 := bxr.f 0
  have kr_1 := bxr.c 1 (.slice none 0 0) rfl
  have fr_1 := bxr.f 1
  have kr_2 := bxr.c 2 (.slice none 0 0) rfl
  have fr_2 := bxr.f 2
  have kr_3 := bxr.c 3 (.bool false) rfl
  have fr_3 := bxr.f 3
  have kr_4 := bxr.c 4 (.slice none 0 0) rfl
  have fr_4 := bxr.f 4
  have kr_5 := bxr.c 5 (.slice none 0 0) rfl
  have fr_5 := bxr.f 5
  have t1i_0 := fun (o0 : Obj) => ((Ext.alloc w1 o0).cell (bxi.c 0 (.bool s1) rfl))
  have t2i_0 := fun (o0 : Obj) (o1 : Obj) => ((Ext.alloc (w1.alloc o0) o1).cell ((Ext.alloc w1 o0).cell (bxi.c 0 (.bool s1) rfl)))
  have t1i_1 := fun (o0 : Obj) => ((Ext.alloc w1 o0).cell (bxi.c 1 (.slice A1 L1 c1) rfl))
  have t2i_1 := fun (o0 : Obj) (o1 : Obj) => ((Ext.alloc (w1.alloc o0) o1).cell ((Ext.alloc w1 o0).cell (bxi.c 1 (.slice A1 L1 c1) rfl)))
  have t1i_2 := fun (o0 : Obj) => ((Ext.alloc w1 o0).cell (bxi.c 2 (.slice B1 M1 d1) rfl))
  have t2i_2 := fun (o0 : Obj) (o1 : Obj) => ((Ext.alloc (w1.alloc o0) o1).cell ((Ext.alloc w1 o0).cell (bxi.c 2 (.slice B1 M1 d1) rfl)))
  have t1i_3 := fun (o0 : Obj) => ((Ext.alloc w1 o0).cell (bxi.c 3 (.bool s2) rfl))
  have t2i_3 := fun (o0 : Obj) (o1 : Obj) => ((Ext.alloc (w1.alloc o0) o1).cell ((Ext.alloc w1 o0).cell (bxi.c 3 (.bool s2) rfl)))
  have t1i_4 := fun (o0 : Obj) => ((Ext.alloc w1 o0).cell (bxi.c 4 (.slice A2 L2 c2) rfl))
  have t2i_4 := fun (o0 : Obj) (o1 : Obj) => ((Ext.alloc (w1.alloc o0) o1).cell ((Ext.alloc w1 o0).cell (bxi.c 4 (.slice A2 L2 c2) rfl)))
  have t1i_5 := fun (o0 : Obj) => ((Ext.alloc w1 o0).cell (bxi.c 5 (.slice B2 M2 d2) rfl))
  have t2i_5 := fun (o0 : Obj) (o1 : Obj) => ((Ext.alloc (w1.alloc o0) o1).cell ((Ext.alloc w1 o0).cell (bxi.c 5 (.slice B2 M2 d2) rfl)))
  have t1r_0 := fun (o0 : Obj) => ((Ext.alloc w1 o0).cell (bxr.c 0 (.bool false) rfl))
  have z1r_0 := fun (o0 : Obj) => (Ext.frozen (Ext.alloc w1 o0) (bxr.c 0 (.bool false) rfl) (bxr.f 0))
  have t2r_0 := fun (o0 : Obj) (o1 : Obj) => ((Ext.alloc (w1.alloc o0) o1).cell ((Ext.alloc w1 o0).cell (bxr.c 0 (.bool false) rfl)))
  have z2r_0 := fun (o0 : Obj) (o1 : Obj) => (Ext.frozen (Ext.alloc (w1.alloc o0) o1) ((Ext.alloc w1 o0).cell (bxr.c 0 (.bool false) rfl)) (Ext.frozen (Ext.alloc w1 o0) (bxr.c 0 (.bool false) rfl) (bxr.f 0)))
  have t1r_1 := fun (o0 : Obj) => ((Ext.alloc w1 o0).cell (bxr.c 1 (.slice none 0 0) rfl))
  have z1r_1 := fun (o0 : Obj) => (Ext.frozen (Ext.alloc w1 o0) (bxr.c 1 (.slice none 0 0) rfl) (bxr.f 1))
  have t2r_1 := fun (o0 : Obj) (o1 : Obj) => ((Ext.alloc (w1.alloc o0) o1).cell ((Ext.alloc w1 o0).cell (bxr.c 1 (.slice none 0 0) rfl)))
  have z2r_1 := fun (o0 : Obj) (o1 : Obj) => (Ext.frozen (Ext.alloc (w1.alloc o0) o1) ((Ext.alloc w1 o0).cell (bxr.c 1 (.slice none 0 0) rfl)) (Ext.frozen (Ext.alloc w1 o0) (bxr.c 1 (.slice none 0 0) rfl) (bxr.f 1)))
  have t1r_2 := fun (o0 : Obj) => ((Ext.alloc w1 o0).cell (bxr.c 2 (.slice none 0 0) rfl))
  have z1r_2 := fun (o0 : Obj) => (Ext.frozen (Ext.alloc w1 o0) (bxr.c 2 (.slice none 0 0) rfl) (bxr.f 2))
  have t2r_2 := fun (o0 : Obj) (o1 : Obj) => ((Ext.alloc (w1.alloc o0) o1).cell ((Ext.alloc w1 o0).cell (bxr.c 2 (.slice none 0 0) rfl)))
  have z2r_2 := fun (o0 : Obj) (o1 : Obj) => (Ext.frozen (Ext.alloc (w1.alloc o0) o1) ((Ext.alloc w1 o0).cell (bxr.c 2 (.slice none 0 0) rfl)) (Ext.frozen (Ext.alloc w1 o0) (bxr.c 2 (.slice none 0 0) rfl) (bxr.f 2)))
  have t1r_3 := fun (o0 : Obj) => ((Ext.alloc w1 o0).cell (bxr.c 3 (.bool false) rfl))
  have z1r_3 := fun (o0 : Obj) => (Ext.frozen (Ext.alloc w1 o0) (bxr.c 3 (.bool false) rfl) (bxr.f 3))
  have t2r_3 := fun (o0 : Obj) (o1 : Obj) => ((Ext.alloc (w1.alloc o0) o1).cell ((Ext.alloc w1 o0).cell (bxr.c 3 (.bool false) rfl)))
  have z2r_3 := fun (o0 : Obj) (o1 : Obj) => (Ext.frozen (Ext.alloc (w1.alloc o0) o1) ((Ext.alloc w1 o0).cell (bxr.c 3 (.bool false) rfl)) (Ext.frozen (Ext.alloc w1 o0) (bxr.c 3 (.bool false) rfl) (bxr.f 3)))
  have t1r_4 := fun (o0 : Obj) => ((Ext.alloc w1 o0).cell (bxr.c 4 (.slice none 0 0) rfl))
  have z1r_4 := fun (o0 : Obj) => (Ext.frozen (Ext.alloc w1 o0) (bxr.c 4 (.slice none 0 0) rfl) (bxr.f 4))
  have t2r_4 := fun (o0 : Obj) (o1 : Obj) => ((Ext.alloc (w1.alloc o0) o1).cell ((Ext.alloc w1 o0).cell (bxr.c 4 (.slice none 0 0) rfl)))
  have z2r_4 := fun (o0 : Obj) (o1 : Obj) => (Ext.frozen (Ext.alloc (w1.alloc o0) o1) ((Ext.alloc w1 o0).cell (bxr.c 4 (.slice none 0 0) rfl)) (Ext.frozen (Ext.alloc w1 o0) (bxr.c 4 (.slice none 0 0) rfl) (bxr.f 4)))
  have t1r_5 := fun (o0 : Obj) => ((Ext.alloc w1 o0).cell (bxr.c 5 (.slice none 0 0) rfl))
  have z1r_5 := fun (o0 : Obj) => (Ext.frozen (Ext.alloc w1 o0) (bxr.c 5 (.slice none 0 0) rfl) (bxr.f 5))
  have t2r_5 := fun (o0 : Obj) (o1 : Obj) => ((Ext.alloc (w1.alloc o0) o1).cell ((Ext.alloc w1 o0).cell (bxr.c 5 (.slice none 0 0) rfl)))
  have z2r_5 := fun (o0 : Obj) (o1 : Obj) => (Ext.frozen (Ext.alloc (w1.alloc o0) o1) ((Ext.alloc w1 o0).cell (bxr.c 5 (.slice none 0 0) rfl)) (Ext.frozen (Ext.alloc w1 o0) (bxr.c 5 (.slice none 0 0) rfl) (bxr.f 5)))
  go_wp2_with fail
  clear ki_0 ki_1 ki_2 ki_3 ki_4 ki_5 kr_0 fr_0 kr_1 fr_1 kr_2 fr_2 kr_3 fr_3 kr_4 fr_4 kr_5 fr_5 t1i_0 t2i_0 t1i_1 t2i_1 t1i_2 t2i_2 t1i_3 t2i_3 t1i_4 t2i_4 t1i_5 t2i_5 t1r_0 z1r_0 t2r_0 z2r_0 t1r_1 z1r_1 t2r_1 z2r_1 t1r_2 z1r_2 t2r_2 z2r_2 t1r_3 z1r_3 t2r_3 z2r_3 t1r_4 z1r_4 t2r_4 z2r_4 t1r_5 z1r_5 t2r_5 z2r_5
  obtain ⟨w2, hw⟩ : ∃ z : World, z = ((w1.alloc (.cells #[.bool spa, .slice Apa Lpa cpa, .slice Bpa Mpa dpa] 27)).alloc (.cells #[.bool spb, .slice Apb Lpb cpb, .slice Bpb Mpb dpb] 27)) := ⟨_, rfl⟩
  rw [← hw]
  have x2 : Ext w1 w2 := by rw [hw]; exact ((Ext.alloc _ _).trans (Ext.alloc _ _))
  replace bxi := bxi.ext x2
  replace bxr := bxr.ext x2
  have bxl : BK w2 (w1.heap.size) 27 #[.bool spa, .slice Apa Lpa cpa, .slice Bpa Mpa dpa] := by rw [hw]; have h5 := (BK.ext (BK.new w1 #[.bool spa, .slice Apa Lpa cpa, .slice Bpa Mpa dpa] 27) (Ext.alloc _ (.cells #[.bool spb, .slice Apb Lpb cpb, .slice Bpb Mpb dpb] 27))); simpa only [World.size_alloc] using h5
  have bxh : BK w2 (w1.heap.size + 1) 27 #[.bool spb, .slice Apb Lpb cpb, .slice Bpb Mpb dpb] := by rw [hw]; have h5 := (BK.new (w1.alloc (.cells #[.bool spa, .slice Apa Lpa cpa, .slice Bpa Mpa dpa] 27)) #[.bool spb, .slice Apb Lpb cpb, .slice Bpb Mpb dpb] 27); simpa only [World.size_alloc] using h5
  have szw2 : w2.heap.size = w1.heap.size + 1 + 1 := by rw [hw]; simp only [World.size_alloc]
  clear hw
  have pa := Hp.out.1
  have pb := Hp.out.2
  clear Hp
  have pa2 := (pa.ext (show Ext _ w2 from (by with_reducible repeat' first | exact Ext.refl _ | assumption | apply Ext.alloc_r | apply Ext.drew_r | apply Ext.drewN_r | refine Ext.trans ?_ ‹Ext _ _›))).mono (show w.heap.size ≤ _ by first | omega | (simp only [World.size_drew]; omega))
  have pb2 := (pb.ext (show Ext _ w2 from (by with_reducible repeat' first | exact Ext.refl _ | assumption | apply Ext.alloc_r | apply Ext.drew_r | apply Ext.drewN_r | refine Ext.trans ?_ ‹Ext _ _›))).mono (show w.heap.size ≤ _ by first | omega | (simp only [World.size_drew]; omega))
  clear pa pb
  obtain ⟨w3, hw⟩ : ∃ z : World, z = ((((((w2.setCell ⟨w.heap.size + 1, 0, none⟩ (.bool spa)).setCell ⟨w.heap.size + 1, 1, none⟩ (.slice Apa Lpa cpa)).setCell ⟨w.heap.size + 1, 2, none⟩ (.slice Bpa Mpa dpa)).setCell ⟨w.heap.size + 1, 3, none⟩ (.bool spb)).setCell ⟨w.heap.size + 1, 4, none⟩ (.slice Apb Lpb cpb)).setCell ⟨w.heap.size + 1, 5, none⟩ (.slice Bpb Mpb dpb)) := ⟨_, rfl⟩
  rw [← hw]
  have kw3 : Kept w2 w3 := by rw [hw]; exact (Kept.set_ (Kept.set_ (Kept.set_ (Kept.set_ (Kept.set_ (Kept.set_ (Kept.refl _) bxr.isBox plain_iv) (IsBox.set_ bxr.isBox) plain_iv) (IsBox.set_ (IsBox.set_ bxr.isBox)) plain_iv) (IsBox.set_ (IsBox.set_ (IsBox.set_ bxr.isBox))) plain_iv) (IsBox.set_ (IsBox.set_ (IsBox.set_ (IsBox.set_ bxr.isBox)))) plain_iv) (IsBox.set_ (IsBox.set_ (IsBox.set_ (IsBox.set_ (IsBox.set_ bxr.isBox))))) plain_iv)
  have nbi : BK w3 (w.heap.size) 29 #[.bool s1, .slice A1 L1 c1, .slice B1 M1 d1, .bool s2, .slice A2 L2 c2, .slice B2 M2 d2] := by rw [hw]; exact (BK.far (BK.far (BK.far (BK.far (BK.far (BK.far bxi (show w.heap.size ≠ w.heap.size + 1 by omega) 0 _) (show w.heap.size ≠ w.heap.size + 1 by omega) 1 _) (show w.heap.size ≠ w.heap.size + 1 by omega) 2 _) (show w.heap.size ≠ w.heap.size + 1 by omega) 3 _) (show w.heap.size ≠ w.heap.size + 1 by omega) 4 _) (show w.heap.size ≠ w.heap.size + 1 by omega) 5 _)
  have nbr : BK w3 (w.heap.size + 1) 29 #[.bool spa, .slice Apa Lpa cpa, .slice Bpa Mpa dpa, .bool spb, .slice Apb Lpb cpb, .slice Bpb Mpb dpb] := by rw [hw]; exact (BK.set (i := 5) (u := .slice Bpb Mpb dpb) (vs' := #[.bool spa, .slice Apa Lpa cpa, .slice Bpa Mpa dpa, .bool spb, .slice Apb Lpb cpb, .slice Bpb Mpb dpb]) (BK.set (i := 4) (u := .slice Apb Lpb cpb) (vs' := #[.bool spa, .slice Apa Lpa cpa, .slice Bpa Mpa dpa, .bool spb, .slice Apb Lpb cpb, .slice none 0 0]) (BK.set (i := 3) (u := .bool spb) (vs' := #[.bool spa, .slice Apa Lpa cpa, .slice Bpa Mpa dpa, .bool spb, .slice none 0 0, .slice none 0 0]) (BK.set (i := 2) (u := .slice Bpa Mpa dpa) (vs' := #[.bool spa, .slice Apa Lpa cpa, .slice Bpa Mpa dpa, .bool false, .slice none 0 0, .slice none 0 0]) (BK.set (i := 1) (u := .slice Apa Lpa cpa) (vs' := #[.bool spa, .slice Apa Lpa cpa, .slice none 0 0, .bool false, .slice none 0 0, .slice none 0 0]) (BK.set (i := 0) (u := .bool spa) (vs' := #[.bool spa, .slice none 0 0, .slice none 0 0, .bool false, .slice none 0 0, .slice none 0 0]) bxr rfl) rfl) rfl) rfl) rfl) rfl)
  have nbl : BK w3 (w1.heap.size) 27 #[.bool spa, .slice Apa Lpa cpa, .slice Bpa Mpa dpa] := by rw [hw]; exact (BK.far (BK.far (BK.far (BK.far (BK.far (BK.far bxl (show w1.heap.size ≠ w.heap.size + 1 by omega) 0 _) (show w1.heap.size ≠ w.heap.size + 1 by omega) 1 _) (show w1.heap.size ≠ w.heap.size + 1 by omega) 2 _) (show w1.heap.size ≠ w.heap.size + 1 by omega) 3 _) (show w1.heap.size ≠ w.heap.size + 1 by omega) 4 _) (show w1.heap.size ≠ w.heap.size + 1 by omega) 5 _)
  have nbh : BK w3 (w1.heap.size + 1) 27 #[.bool spb, .slice Apb Lpb cpb, .slice Bpb Mpb dpb] := by rw [hw]; exact (BK.far (BK.far (BK.far (BK.far (BK.far (BK.far bxh (show w1.heap.size + 1 ≠ w.heap.size + 1 by omega) 0 _) (show w1.heap.size + 1 ≠ w.heap.size + 1 by omega) 1 _) (show w1.heap.size + 1 ≠ w.heap.size + 1 by omega) 2 _) (show w1.heap.size + 1 ≠ w.heap.size + 1 by omega) 3 _) (show w1.heap.size + 1 ≠ w.heap.size + 1 by omega) 4 _) (show w1.heap.size + 1 ≠ w.heap.size + 1 by omega) 5 _)
  have x3 : Ext w w3 := by rw [hw]; have hxp : Ext w w2 := (by with_reducible repeat' first | exact Ext.refl _ | assumption | apply Ext.alloc_r | apply Ext.drew_r | apply Ext.drewN_r | refine Ext.trans ?_ ‹Ext _ _›); exact (Ext.set_ (Ext.set_ (Ext.set_ (Ext.set_ (Ext.set_ (Ext.set_ hxp (show _ ≤ w.heap.size + 1 by omega)) (show _ ≤ w.heap.size + 1 by omega)) (show _ ≤ w.heap.size + 1 by omega)) (show _ ≤ w.heap.size + 1 by omega)) (show _ ≤ w.heap.size + 1 by omega)) (show _ ≤ w.heap.size + 1 by omega))
  clear bxi
  clear bxr
  clear bxl
  clear bxh
  have bxi := nbi
  clear nbi
  have bxr := nbr
  clear nbr
  have bxl := nbl
  clear nbl
  have bxh := nbh
  clear nbh
  have szw3 : w3.heap.size = w2.heap.size := by rw [hw]; simp
  replace pa2 := (pa2.ext (by with_reducible repeat' first | exact Ext.refl _ | assumption | apply Ext.alloc_r | apply Ext.drew_r | apply Ext.drewN_r | refine Ext.trans ?_ ‹Ext _ _›)).kept kw3
  replace pb2 := (pb2.ext (by with_reducible repeat' first | exact Ext.refl _ | assumption | apply Ext.alloc_r | apply Ext.drew_r | apply Ext.drewN_r | refine Ext.trans ?_ ‹Ext _ _›)).kept kw3
  clear hw kw3
  have HU := Lib.hid pa2
  have HV := Lib.hid pb2
  clear pa2 pb2
  have ki_0 := bxi.c 0 (.bool s1) rfl
  have ki_1 := bxi.c 1 (.slice A1 L1 c1) rfl
  have ki_2 := bxi.c 2 (.slice B1 M1 d1) rfl
  have ki_3 := bxi.c 3 (.bool s2) rfl
  have ki_4 := bxi.c 4 (.slice A2 L2 c2) rfl
  have ki_5 := bxi.c 5 (.slice B2 M2 d2) rfl
  have kr_0 := bxr.c 0 (.bool spa) rfl
  have kr_1 := bxr.c 1 (.slice Apa Lpa cpa) rfl
  have kr_2 := bxr.c 2 (.slice Bpa Mpa dpa) rfl
  have kr_3 := bxr.c 3 (.bool spb) rfl
  have kr_4 := bxr.c 4 (.slice Apb Lpb cpb) rfl
  have kr_5 := bxr.c 5 (.slice Bpb Mpb dpb) rfl
  have kl_0 := bxl.c 0 (.bool spa) rfl
  have kl_1 := bxl.c 1 (.slice Apa Lpa cpa) rfl
  have kl_2 := bxl.c 2 (.slice Bpa Mpa dpa) rfl
  have kh_0 := bxh.c 0 (.bool spb) rfl
  have kh_1 := bxh.c 1 (.slice Apb Lpb cpb) rfl
  have kh_2 := bxh.c 2 (.slice Bpb Mpb dpb) rfl
  go_wp2_with fail
  clear ki_0 ki_1 ki_2 ki_3 ki_4 ki_5 kr_0 kr_1 kr_2 kr_3 kr_4 kr_5 kl_0 kl_1 kl_2 kh_0 kh_1 kh_2
  have kr_0 := bxr.c 0 (.bool spa) rfl
  have kr_1 := bxr.c 1 (.slice Apa Lpa cpa) rfl
  have kr_2 := bxr.c 2 (.slice Bpa Mpa dpa) rfl
  have kr_3 := bxr.c 3 (.bool spb) rfl
  have kr_4 := bxr.c 4 (.slice Apb Lpb cpb) rfl
  have kr_5 := bxr.c 5 (.slice Bpb Mpb dpb) rfl
  refine bodyPost_ret (v := Value.agg #[Value.bool spa, Value.slice Apa Lpa cpa, Value.slice Bpa Mpa dpa, Value.bool spb, Value.slice Apb Lpb cpb, Value.slice Bpb Mpb dpb]) (by simp [results, Tryz.results34, go_sem, kr_0, kr_1, kr_2, kr_3, kr_4, kr_5]) rfl ?_
  exact ⟨_, _, _, _, _, _, _, _, _, _, _, _, _, _, rfl, HU.out, HV.out, x3⟩
set_option maxHeartbeats 4000000 in
set_option maxRecDepth 100000 in
theorem icontains_r {w : World} {N : Nat} {s1 s2 s3 : Bool} {A1 B1 A2 B2 A3 B3 : Option Addr} {c1 d1 L1 M1 c2 d2 L2 M2 c3 d3 L3 M3 : Nat} {q1 q2 q3 : Rat} (h1 : RV w s1 A1 c1 L1 B1 d1 M1 N q1) (h2 : RV w s2 A2 c2 L2 B2 d2 M2 N q2) (h3 : RV w s3 A3 c3 L3 B3 d3 M3 N q3) (hN : N < 48) :
    Calls Tryz.prog 36 #[Value.agg #[Value.bool s1, Value.slice A1 L1 c1, Value.slice B1 M1 d1, Value.bool s2, Value.slice A2 L2 c2, Value.slice B2 M2 d2], Value.agg #[Value.bool s3, Value.slice A3 L3 c3, Value.slice B3 M3 d3]] w fun e w' => e = .returned (.bool (decide (inI q3 q1 q2))) ∧ Ext w w' := by
  obtain ⟨K, hK⟩ : ∃ K : Int, K = cmpQ (minQ q1 q2) (q3) := ⟨_, rfl⟩
  have gK : (K ≤ 0) ↔ minQ q1 q2 ≤ q3 := by rw [hK]; exact cmpQ_le _ _
  have HK := Lib.hid hK.symm
  clear hK
  obtain ⟨J, hJ⟩ : ∃ K : Int, K = cmpQ (q3) (maxQ q1 q2) := ⟨_, rfl⟩
  have gJ : (J ≤ 0) ↔ q3 ≤ maxQ q1 q2 := by rw [hJ]; exact cmpQ_le _ _
  have HJ := Lib.hid hJ.symm
  clear hJ
  by_cases hk : K ≤ 0
  · by_cases hj : J ≤ 0
    · have HB : Hid (decide (inI q3 q1 q2) = true) := by show _ = _; exact decide_eq_true ⟨gK.1 hk, gJ.1 hj⟩
      clear gK gJ
      go_enter Tryz.func36, Tryz.ntmps36
      go_wp2_with fail
      obtain ⟨w0, hw0⟩ : ∃ z : World, z = ((w.alloc (.cells #[.bool s1, .slice A1 L1 c1, .slice B1 M1 d1, .bool s2, .slice A2 L2 c2, .slice B2 M2 d2] 29)).alloc (.cells #[.bool s3, .slice A3 L3 c3, .slice B3 M3 d3] 27)) := ⟨_, rfl⟩
      rw [← hw0]
      have bxi : BK w0 (w.heap.size) 29 #[.bool s1, .slice A1 L1 c1, .slice B1 M1 d1, .bool s2, .slice A2 L2 c2, .slice B2 M2 d2] := by rw [hw0]; have h5 := (BK.ext (BK.new w #[.bool s1, .slice A1 L1 c1, .slice B1 M1 d1, .bool s2, .slice A2 L2 c2, .slice B2 M2 d2] 29) (Ext.alloc _ (.cells #[.bool s3, .slice A3 L3 c3, .slice B3 M3 d3] 27))); simpa only [World.size_alloc] using h5
      have bxa : BK w0 (w.heap.size + 1) 27 #[.bool s3, .slice A3 L3 c3, .slice B3 M3 d3] := by rw [hw0]; have h5 := (BK.new (w.alloc (.cells #[.bool s1, .slice A1 L1 c1, .slice B1 M1 d1, .bool s2, .slice A2 L2 c2, .slice B2 M2 d2] 29)) #[.bool s3, .slice A3 L3 c3, .slice B3 M3 d3] 27); simpa only [World.size_alloc] using h5
      have hszw0 : w0.heap.size = w.heap.size + 1 + 1 := by rw [hw0]; simp only [World.size_alloc]
      have xw0 : Ext w w0 := by rw [hw0]; exact ((Ext.alloc _ _).trans (Ext.alloc _ _))
      clear hw0
      refine (bounds_r (h1.ext (by with_reducible repeat' first | exact Ext.refl _ | assumption | apply Ext.alloc_r | apply Ext.drew_r | apply Ext.drewN_r | refine Ext.trans ?_ ‹Ext _ _›)) (h2.ext (by with_reducible repeat' first | exact Ext.refl _ | assumption | apply Ext.alloc_r | apply Ext.drew_r | apply Ext.drewN_r | refine Ext.trans ?_ ‹Ext _ _›)) hN).mono ?_
      rintro e w1 ⟨spa, Apa, cpa, Lpa, Bpa, dpa, Mpa, spb, Apb, cpb, Lpb, Bpb, dpb, Mpb, rfl, pa, pb, x1⟩
      have szw1 : w0.heap.size ≤ w1.heap.size := x1.size
      replace bxi := bxi.ext x1
      replace bxa := bxa.ext x1
      have Hp := Lib.hid (And.intro pa pb)
      clear pa pb
      have ki_0 := bxi.c 0 (.bool s1) rfl
      have ki_1 := bxi.c 1 (.slice A1 L1 c1) rfl
      have ki_2 := bxi.c 2 (.slice B1 M1 d1) rfl
      have ki_3 := bxi.c 3 (.bool s2) rfl
      have ki_4 := bxi.c 4 (.slice A2 L2 c2) rfl
      have ki_5 := bxi.c 5 (.slice B2 M2 d2) rfl
      have ka_0 := bxa.c 0 (.bool s3) rfl
      have ka_1 := bxa.c 1 (.slice A3 L3 c3) rfl
      have ka_2 := bxa.c 2 (.slice B3 M3 d3) rfl
      have t1i_0 := fun (o0 : Obj) => ((Ext.alloc w1 o0).cell (bxi.c 0 (.bool s1) rfl))
      have t2i_0 := fun (o0 : Obj) (o1 : Obj) => ((Ext.alloc (w1.alloc o0) o1).cell ((Ext.alloc w1 o0).cell (bxi.c 0 (.bool s1) rfl)))
      have t1i_1 := fun (o0 : Obj) => ((Ext.alloc w1 o0).cell (bxi.c 1 (.slice A1 L1 c1) rfl))
      have t2i_1 := fun (o0 : Obj) (o1 : Obj) => ((Ext.alloc (w1.alloc o0) o1).cell ((Ext.alloc w1 o0).cell (bxi.c 1 (.slice A1 L1 c1) rfl)))
      have t1i_2 := fun (o0 : Obj) => ((Ext.alloc w1 o0).cell (bxi.c 2 (.slice B1 M1 d1) rfl))
      have t2i_2 := fun (o0 : Obj) (o1 : Obj) => ((Ext.alloc (w1.alloc o0) o1).cell ((Ext.alloc w1 o0).cell (bxi.c 2 (.slice B1 M1 d1) rfl)))
      have t1i_3 := fun (o0 : Obj) => ((Ext.alloc w1 o0).cell (bxi.c 3 (.bool s2) rfl))
      have t2i_3 := fun (o0 : Obj) (o1 : Obj) => ((Ext.alloc (w1.alloc o0) o1).cell ((Ext.alloc w1 o0).cell (bxi.c 3 (.bool s2) rfl)))
      have t1i_4 := fun (o0 : Obj) => ((Ext.alloc w1 o0).cell (bxi.c 4 (.slice A2 L2 c2) rfl))
      have t2i_4 := fun (o0 : Obj) (o1 : Obj) => ((Ext.alloc (w1.alloc o0) o1).cell ((Ext.alloc w1 o0).cell (bxi.c 4 (.slice A2 L2 c2) rfl)))
      have t1i_5 := fun (o0 : Obj) => ((Ext.alloc w1 o0).cell (bxi.c 5 (.slice B2 M2 d2) rfl))
      have t2i_5 := fun (o0 : Obj) (o1 : Obj) => ((Ext.alloc (w1.alloc o0) o1).cell ((Ext.alloc w1 o0).cell (bxi.c 5 (.slice B2 M2 d2) rfl)))
      have t1a_0 := fun (o0 : Obj) => ((Ext.alloc w1 o0).cell (bxa.c 0 (.bool s3) rfl))
      have t2a_0 := fun (o0 : Obj) (o1 : Obj) => ((Ext.alloc (w1.alloc o0) o1).cell ((Ext.alloc w1 o0).cell (bxa.c 0 (.bool s3) rfl)))
      have t1a_1 := fun (o0 : Obj) => ((Ext.alloc w1 o0).cell (bxa.c 1 (.slice A3 L3 c3) rfl))
      have t2a_1 := fun (o0 : Obj) (o1 : Obj) => ((Ext.alloc (w1.alloc o0) o1).cell ((Ext.alloc w1 o0).cell (bxa.c 1 (.slice A3 L3 c3) rfl)))
      have t1a_2 := fun (o0 : Obj) => ((Ext.alloc w1 o0).cell (bxa.c 2 (.slice B3 M3 d3) rfl))
      have t2a_2 := fun (o0 : Obj) (o1 : Obj) => ((Ext.alloc (w1.alloc o0) o1).cell ((Ext.alloc w1 o0).cell (bxa.c 2 (.slice B3 M3 d3) rfl)))
      go_wp2_with fail
      clear ki_0 ki_1 ki_2 ki_3 ki_4 ki_5 ka_0 ka_1 ka_2 t1i_0 t2i_0 t1i_1 t2i_1 t1i_2 t2i_2 t1i_3 t2i_3 t1i_4 t2i_4 t1i_5 t2i_5 t1a_0 t2a_0 t1a_1 t2a_1 t1a_2 t2a_2
      obtain ⟨w2, hw⟩ : ∃ z : World, z = ((w1.alloc (.cells #[.bool spa, .slice Apa Lpa cpa, .slice Bpa Mpa dpa] 27)).alloc (.cells #[.bool spb, .slice Apb Lpb cpb, .slice Bpb Mpb dpb] 27)) := ⟨_, rfl⟩
      rw [← hw]
      have x2 : Ext w1 w2 := by rw [hw]; exact ((Ext.alloc _ _).trans (Ext.alloc _ _))
      replace bxi := bxi.ext x2
      replace bxa := bxa.ext x2
      have bxl : BK w2 (w1.heap.size) 27 #[.bool spa, .slice Apa Lpa cpa, .slice Bpa Mpa dpa] := by rw [hw]; have h5 := (BK.ext (BK.new w1 #[.bool spa, .slice Apa Lpa cpa, .slice Bpa Mpa dpa] 27) (Ext.alloc _ (.cells #[.bool spb, .slice Apb Lpb cpb, .slice Bpb Mpb dpb] 27))); simpa only [World.size_alloc] using h5
      have bxh : BK w2 (w1.heap.size + 1) 27 #[.bool spb, .slice Apb Lpb cpb, .slice Bpb Mpb dpb] := by rw [hw]; have h5 := (BK.new (w1.alloc (.cells #[.bool spa, .slice Apa Lpa cpa, .slice Bpa Mpa dpa] 27)) #[.bool spb, .slice Apb Lpb cpb, .slice Bpb Mpb dpb] 27); simpa only [World.size_alloc] using h5
      have szw2 : w2.heap.size = w1.heap.size + 1 + 1 := by rw [hw]; simp only [World.size_alloc]
      clear hw
      have pa := Hp.out.1
      have pb := Hp.out.2
      clear Hp
      have HP := Lib.hid (And.intro pa.rv pb.rv)
      clear pa pb
      refine (rcmp_k (HP.out.1.ext (by with_reducible repeat' first | exact Ext.refl _ | assumption | apply Ext.alloc_r | apply Ext.drew_r | apply Ext.drewN_r | refine Ext.trans ?_ ‹Ext _ _›)) (h3.ext (by with_reducible repeat' first | exact Ext.refl _ | assumption | apply Ext.alloc_r | apply Ext.drew_r | apply Ext.drewN_r | refine Ext.trans ?_ ‹Ext _ _›)) hN HK.out).mono ?_
      rintro e w3 ⟨rfl, x3⟩
      have szw3 : w2.heap.size ≤ w3.heap.size := x3.size
      replace bxi := bxi.ext x3
      replace bxa := bxa.ext x3
      replace bxl := bxl.ext x3
      replace bxh := bxh.ext x3
      have ki_0 := bxi.c 0 (.bool s1) rfl
      have ki_1 := bxi.c 1 (.slice A1 L1 c1) rfl
      have ki_2 := bxi.c 2 (.slice B1 M1 d1) rfl
      have ki_3 := bxi.c 3 (.bool s2) rfl
      have ki_4 := bxi.c 4 (.slice A2 L2 c2) rfl
      have ki_5 := bxi.c 5 (.slice B2 M2 d2) rfl
      have ka_0 := bxa.c 0 (.bool s3) rfl
      have ka_1 := bxa.c 1 (.slice A3 L3 c3) rfl
      have ka_2 := bxa.c 2 (.slice B3 M3 d3) rfl
      have kl_0 := bxl.c 0 (.bool spa) rfl
      have kl_1 := bxl.c 1 (.slice Apa Lpa cpa) rfl
      have kl_2 := bxl.c 2 (.slice Bpa Mpa dpa) rfl
      have kh_0 := bxh.c 0 (.bool spb) rfl
      have kh_1 := bxh.c 1 (.slice Apb Lpb cpb) rfl
      have kh_2 := bxh.c 2 (.slice Bpb Mpb dpb) rfl
      go_wp2_with fail
      clear ki_0 ki_1 ki_2 ki_3 ki_4 ki_5 ka_0 ka_1 ka_2 kl_0 kl_1 kl_2 kh_0 kh_1 kh_2
      refine (rcmp_k (h3.ext (by with_reducible repeat' first | exact Ext.refl _ | assumption | apply Ext.alloc_r | apply Ext.drew_r | apply Ext.drewN_r | refine Ext.trans ?_ ‹Ext _ _›)) (HP.out.2.ext (by with_reducible repeat' first | exact Ext.refl _ | assumption | apply Ext.alloc_r | apply Ext.drew_r | apply Ext.drewN_r | refine Ext.trans ?_ ‹Ext _ _›)) hN HJ.out).mono ?_
      rintro e w4 ⟨rfl, x4⟩
      have szw4 : w3.heap.size ≤ w4.heap.size := x4.size
      replace bxi := bxi.ext x4
      replace bxa := bxa.ext x4
      replace bxl := bxl.ext x4
      replace bxh := bxh.ext x4
      have hjd : decide (J ≤ 0) = true := decide_eq_true (by omega)
      have x0w : Ext w w4 := (by with_reducible repeat' first | exact Ext.refl _ | assumption | apply Ext.alloc_r | apply Ext.drew_r | apply Ext.drewN_r | refine Ext.trans ?_ ‹Ext _ _›)
      have ki_0 := bxi.c 0 (.bool s1) rfl
      have ki_1 := bxi.c 1 (.slice A1 L1 c1) rfl
      have ki_2 := bxi.c 2 (.slice B1 M1 d1) rfl
      have ki_3 := bxi.c 3 (.bool s2) rfl
      have ki_4 := bxi.c 4 (.slice A2 L2 c2) rfl
      have ki_5 := bxi.c 5 (.slice B2 M2 d2) rfl
      have ka_0 := bxa.c 0 (.bool s3) rfl
      have ka_1 := bxa.c 1 (.slice A3 L3 c3) rfl
      have ka_2 := bxa.c 2 (.slice B3 M3 d3) rfl
      have kl_0 := bxl.c 0 (.bool spa) rfl
      have kl_1 := bxl.c 1 (.slice Apa Lpa cpa) rfl
      have kl_2 := bxl.c 2 (.slice Bpa Mpa dpa) rfl
      have kh_0 := bxh.c 0 (.bool spb) rfl
      have kh_1 := bxh.c 1 (.slice Apb Lpb cpb) rfl
      have kh_2 := bxh.c 2 (.slice Bpb Mpb dpb) rfl
      go_wp2_with fail
      clear ki_0 ki_1 ki_2 ki_3 ki_4 ki_5 ka_0 ka_1 ka_2 kl_0 kl_1 kl_2 kh_0 kh_1 kh_2
      rw [HB.out]
      go_ret
      exact ⟨rfl, x0w⟩
    · have HB : Hid (decide (inI q3 q1 q2) = false) := by show _ = _; exact decide_eq_false (fun h => hj (gJ.2 h.2))
      clear gK gJ
      go_enter Tryz.func36, Tryz.ntmps36
      go_wp2_with fail
      obtain ⟨w0, hw0⟩ : ∃ z : World, z = ((w.alloc (.cells #[.bool s1, .slice A1 L1 c1, .slice B1 M1 d1, .bool s2, .slice A2 L2 c2, .slice B2 M2 d2] 29)).alloc (.cells #[.bool s3, .slice A3 L3 c3, .slice B3 M3 d3] 27)) := ⟨_, rfl⟩
      rw [← hw0]
      have bxi : BK w0 (w.heap.size) 29 #[.bool s1, .slice A1 L1 c1, .slice B1 M1 d1, .bool s2, .slice A2 L2 c2, .slice B2 M2 d2] := by rw [hw0]; have h5 := (BK.ext (BK.new w #[.bool s1, .slice A1 L1 c1, .slice B1 M1 d1, .bool s2, .slice A2 L2 c2, .slice B2 M2 d2] 29) (Ext.alloc _ (.cells #[.bool s3, .slice A3 L3 c3, .slice B3 M3 d3] 27))); simpa only [World.size_alloc] using h5
      have bxa : BK w0 (w.heap.size + 1) 27 #[.bool s3, .slice A3 L3 c3, .slice B3 M3 d3] := by rw [hw0]; have h5 := (BK.new (w.alloc (.cells #[.bool s1, .slice A1 L1 c1, .slice B1 M1 d1, .bool s2, .slice A2 L2 c2, .slice B2 M2 d2] 29)) #[.bool s3, .slice A3 L3 c3, .slice B3 M3 d3] 27); simpa only [World.size_alloc] using h5
      have hszw0 : w0.heap.size = w.heap.size + 1 + 1 := by rw [hw0]; simp only [World.size_alloc]
      have xw0 : Ext w w0 := by rw [hw0]; exact ((Ext.alloc _ _).trans (Ext.alloc _ _))
      clear hw0
      refine (bounds_r (h1.ext (by with_reducible repeat' first | exact Ext.refl _ | assumption | apply Ext.alloc_r | apply Ext.drew_r | apply Ext.drewN_r | refine Ext.trans ?_ ‹Ext _ _›)) (h2.ext (by with_reducible repeat' first | exact Ext.refl _ | assumption | apply Ext.alloc_r | apply Ext.drew_r | apply Ext.drewN_r | refine Ext.trans ?_ ‹Ext _ _›)) hN).mono ?_
      rintro e w1 ⟨spa, Apa, cpa, Lpa, Bpa, dpa, Mpa, spb, Apb, cpb, Lpb, Bpb, dpb, Mpb, rfl, pa, pb, x1⟩
      have szw1 : w0.heap.size ≤ w1.heap.size := x1.size
      replace bxi := bxi.ext x1
      replace bxa := bxa.ext x1
      have Hp := Lib.hid (And.intro pa pb)
      clear pa pb
      have ki_0 := bxi.c 0 (.bool s1) rfl
      have ki_1 := bxi.c 1 (.slice A1 L1 c1) rfl
      have ki_2 := bxi.c 2 (.slice B1 M1 d1) rfl
      have ki_3 := bxi.c 3 (.bool s2) rfl
      have ki_4 := bxi.c 4 (.slice A2 L2 c2) rfl
      have ki_5 := bxi.c 5 (.slice B2 M2 d2) rfl
      have ka_0 := bxa.c 0 (.bool s3) rfl
      have ka_1 := bxa.c 1 (.slice A3 L3 c3) rfl
      have ka_2 := bxa.c 2 (.slice B3 M3 d3) rfl
      have t1i_0 := fun (o0 : Obj) => ((Ext.alloc w1 o0).cell (bxi.c 0 (.bool s1) rfl))
      have t2i_0 := fun (o0 : Obj) (o1 : Obj) => ((Ext.alloc (w1.alloc o0) o1).cell ((Ext.alloc w1 o0).cell (bxi.c 0 (.bool s1) rfl)))
      have t1i_1 := fun (o0 : Obj) => ((Ext.alloc w1 o0).cell (bxi.c 1 (.slice A1 L1 c1) rfl))
      have t2i_1 := fun (o0 : Obj) (o1 : Obj) => ((Ext.alloc (w1.alloc o0) o1).cell ((Ext.alloc w1 o0).cell (bxi.c 1 (.slice A1 L1 c1) rfl)))
      have t1i_2 := fun (o0 : Obj) => ((Ext.alloc w1 o0).cell (bxi.c 2 (.slice B1 M1 d1) rfl))
      have t2i_2 := fun (o0 : Obj) (o1 : Obj) => ((Ext.alloc (w1.alloc o0) o1).cell ((Ext.alloc w1 o0).cell (bxi.c 2 (.slice B1 M1 d1) rfl)))
      have t1i_3 := fun (o0 : Obj) => ((Ext.alloc w1 o0).cell (bxi.c 3 (.bool s2) rfl))
      have t2i_3 := fun (o0 : Obj) (o1 : Obj) => ((Ext.alloc (w1.alloc o0) o1).cell ((Ext.alloc w1 o0).cell (bxi.c 3 (.bool s2) rfl)))
      have t1i_4 := fun (o0 : Obj) => ((Ext.alloc w1 o0).cell (bxi.c 4 (.slice A2 L2 c2) rfl))
      have t2i_4 := fun (o0 : Obj) (o1 : Obj) => ((Ext.alloc (w1.alloc o0) o1).cell ((Ext.alloc w1 o0).cell (bxi.c 4 (.slice A2 L2 c2) rfl)))
      have t1i_5 := fun (o0 : Obj) => ((Ext.alloc w1 o0).cell (bxi.c 5 (.slice B2 M2 d2) rfl))
      have t2i_5 := fun (o0 : Obj) (o1 : Obj) => ((Ext.alloc (w1.alloc o0) o1).cell ((Ext.alloc w1 o0).cell (bxi.c 5 (.slice B2 M2 d2) rfl)))
      have t1a_0 := fun (o0 : Obj) => ((Ext.alloc w1 o0).cell (bxa.c 0 (.bool s3) rfl))
      have t2a_0 := fun (o0 : Obj) (o1 : Obj) => ((Ext.alloc (w1.alloc o0) o1).cell ((Ext.alloc w1 o0).cell (bxa.c 0 (.bool s3) rfl)))
      have t1a_1 := fun (o0 : Obj) => ((Ext.alloc w1 o0).cell (bxa.c 1 (.slice A3 L3 c3) rfl))
      have t2a_1 := fun (o0 : Obj) (o1 : Obj) => ((Ext.alloc (w1.alloc o0) o1).cell ((Ext.alloc w1 o0).cell (bxa.c 1 (.slice A3 L3 c3) rfl)))
      have t1a_2 := fun (o0 : Obj) => ((Ext.alloc w1 o0).cell (bxa.c 2 (.slice B3 M3 d3) rfl))
      have t2a_2 := fun (o0 : Obj) (o1 : Obj) => ((Ext.alloc (w1.alloc o0) o1).cell ((Ext.alloc w1 o0).cell (bxa.c 2 (.slice B3 M3 d3) rfl)))
      go_wp2_with fail
      clear ki_0 ki_1 ki_2 ki_3 ki_4 ki_5 ka_0 ka_1 ka_2 t1i_0 t2i_0 t1i_1 t2i_1 t1i_2 t2i_2 t1i_3 t2i_3 t1i_4 t2i_4 t1i_5 t2i_5 t1a_0 t2a_0 t1a_1 t2a_1 t1a_2 t2a_2
      obtain ⟨w2, hw⟩ : ∃ z : World, z = ((w1.alloc (.cells #[.bool spa, .slice Apa Lpa cpa, .slice Bpa Mpa dpa] 27)).alloc (.cells #[.bool spb, .slice Apb Lpb cpb, .slice Bpb Mpb dpb] 27)) := ⟨_, rfl⟩
      rw [← hw]
      have x2 : Ext w1 w2 := by rw [hw]; exact ((Ext.alloc _ _).trans (Ext.alloc _ _))
      replace bxi := bxi.ext x2
      replace bxa := bxa.ext x2
      have bxl : BK w2 (w1.heap.size) 27 #[.bool spa, .slice Apa Lpa cpa, .slice Bpa Mpa dpa] := by rw [hw]; have h5 := (BK.ext (BK.new w1 #[.bool spa, .slice Apa Lpa cpa, .slice Bpa Mpa dpa] 27) (Ext.alloc _ (.cells #[.bool spb, .slice Apb Lpb cpb, .slice Bpb Mpb dpb] 27))); simpa only [World.size_alloc] using h5
      have bxh : BK w2 (w1.heap.size + 1) 27 #[.bool spb, .slice Apb Lpb cpb, .slice Bpb Mpb dpb] := by rw [hw]; have h5 := (BK.new (w1.alloc (.cells #[.bool spa, .slice Apa Lpa cpa, .slice Bpa Mpa dpa] 27)) #[.bool spb, .slice Apb Lpb cpb, .slice Bpb Mpb dpb] 27); simpa only [World.size_alloc] using h5
      have szw2 : w2.heap.size = w1.heap.size + 1 + 1 := by rw [hw]; simp only [World.size_alloc]
      clear hw
      have pa := Hp.out.1
      have pb := Hp.out.2
      clear Hp
      have HP := Lib.hid (And.intro pa.rv pb.rv)
      clear pa pb
      refine (rcmp_k (HP.out.1.ext (by with_reducible repeat' first | exact Ext.refl _ | assumption | apply Ext.alloc_r | apply Ext.drew_r | apply Ext.drewN_r | refine Ext.trans ?_ ‹Ext _ _›)) (h3.ext (by with_reducible repeat' first | exact Ext.refl _ | assumption | apply Ext.alloc_r | apply Ext.drew_r | apply Ext.drewN_r | refine Ext.trans ?_ ‹Ext _ _›)) hN HK.out).mono ?_
      rintro e w3 ⟨rfl, x3⟩
      have szw3 : w2.heap.size ≤ w3.heap.size := x3.size
      replace bxi := bxi.ext x3
      replace bxa := bxa.ext x3
      replace bxl := bxl.ext x3
      replace bxh := bxh.ext x3
      have ki_0 := bxi.c 0 (.bool s1) rfl
      have ki_1 := bxi.c 1 (.slice A1 L1 c1) rfl
      have ki_2 := bxi.c 2 (.slice B1 M1 d1) rfl
      have ki_3 := bxi.c 3 (.bool s2) rfl
      have ki_4 := bxi.c 4 (.slice A2 L2 c2) rfl
      have ki_5 := bxi.c 5 (.slice B2 M2 d2) rfl
      have ka_0 := bxa.c 0 (.bool s3) rfl
      have ka_1 := bxa.c 1 (.slice A3 L3 c3) rfl
      have ka_2 := bxa.c 2 (.slice B3 M3 d3) rfl
      have kl_0 := bxl.c 0 (.bool spa) rfl
      have kl_1 := bxl.c 1 (.slice Apa Lpa cpa) rfl
      have kl_2 := bxl.c 2 (.slice Bpa Mpa dpa) rfl
      have kh_0 := bxh.c 0 (.bool spb) rfl
      have kh_1 := bxh.c 1 (.slice Apb Lpb cpb) rfl
      have kh_2 := bxh.c 2 (.slice Bpb Mpb dpb) rfl
      go_wp2_with fail
      clear ki_0 ki_1 ki_2 ki_3 ki_4 ki_5 ka_0 ka_1 ka_2 kl_0 kl_1 kl_2 kh_0 kh_1 kh_2
      refine (rcmp_k (h3.ext (by with_reducible repeat' first | exact Ext.refl _ | assumption | apply Ext.alloc_r | apply Ext.drew_r | apply Ext.drewN_r | refine Ext.trans ?_ ‹Ext _ _›)) (HP.out.2.ext (by with_reducible repeat' first | exact Ext.refl _ | assumption | apply Ext.alloc_r | apply Ext.drew_r | apply Ext.drewN_r | refine Ext.trans ?_ ‹Ext _ _›)) hN HJ.out).mono ?_
      rintro e w4 ⟨rfl, x4⟩
      have szw4 : w3.heap.size ≤ w4.heap.size := x4.size
      replace bxi := bxi.ext x4
      replace bxa := bxa.ext x4
      replace bxl := bxl.ext x4
      replace bxh := bxh.ext x4
      have hjd : decide (J ≤ 0) = false := decide_eq_false (by omega)
      have x0w : Ext w w4 := (by with_reducible repeat' first | exact Ext.refl _ | assumption | apply Ext.alloc_r | apply Ext.drew_r | apply Ext.drewN_r | refine Ext.trans ?_ ‹Ext _ _›)
      have ki_0 := bxi.c 0 (.bool s1) rfl
      have ki_1 := bxi.c 1 (.slice A1 L1 c1) rfl
      have ki_2 := bxi.c 2 (.slice B1 M1 d1) rfl
      have ki_3 := bxi.c 3 (.bool s2) rfl
      have ki_4 := bxi.c 4 (.slice A2 L2 c2) rfl
      have ki_5 := bxi.c 5 (.slice B2 M2 d2) rfl
      have ka_0 := bxa.c 0 (.bool s3) rfl
      have ka_1 := bxa.c 1 (.slice A3 L3 c3) rfl
      have ka_2 := bxa.c 2 (.slice B3 M3 d3) rfl
      have kl_0 := bxl.c 0 (.bool spa) rfl
      have kl_1 := bxl.c 1 (.slice Apa Lpa cpa) rfl
      have kl_2 := bxl.c 2 (.slice Bpa Mpa dpa) rfl
      have kh_0 := bxh.c 0 (.bool spb) rfl
      have kh_1 := bxh.c 1 (.slice Apb Lpb cpb) rfl
      have kh_2 := bxh.c 2 (.slice Bpb Mpb dpb) rfl
      go_wp2_with fail
      clear ki_0 ki_1 ki_2 ki_3 ki_4 ki_5 ka_0 ka_1 ka_2 kl_0 kl_1 kl_2 kh_0 kh_1 kh_2
      rw [HB.out]
      go_ret
      exact ⟨rfl, x0w⟩
  · have HB : Hid (decide (inI q3 q1 q2) = false) := by show _ = _; exact decide_eq_false (fun h => hk (gK.2 h.1))
    clear gK gJ
    go_enter Tryz.func36, Tryz.ntmps36
    go_wp2_with fail
    obtain ⟨w0, hw0⟩ : ∃ z : World, z = ((w.alloc (.cells #[.bool s1, .slice A1 L1 c1, .slice B1 M1 d1, .bool s2, .slice A2 L2 c2, .slice B2 M2 d2] 29)).alloc (.cells #[.bool s3, .slice A3 L3 c3, .slice B3 M3 d3] 27)) := ⟨_, rfl⟩
    rw [← hw0]
    have bxi : BK w0 (w.heap.size) 29 #[.bool s1, .slice A1 L1 c1, .slice B1 M1 d1, .bool s2, .slice A2 L2 c2, .slice B2 M2 d2] := by rw [hw0]; have h5 := (BK.ext (BK.new w #[.bool s1, .slice A1 L1 c1, .slice B1 M1 d1, .bool s2, .slice A2 L2 c2, .slice B2 M2 d2] 29) (Ext.alloc _ (.cells #[.bool s3, .slice A3 L3 c3, .slice B3 M3 d3] 27))); simpa only [World.size_alloc] using h5
    have bxa : BK w0 (w.heap.size + 1) 27 #[.bool s3, .slice A3 L3 c3, .slice B3 M3 d3] := by rw [hw0]; have h5 := (BK.new (w.alloc (.cells #[.bool s1, .slice A1 L1 c1, .slice B1 M1 d1, .bool s2, .slice A2 L2 c2, .slice B2 M2 d2] 29)) #[.bool s3, .slice A3 L3 c3, .slice B3 M3 d3] 27); simpa only [World.size_alloc] using h5
    have hszw0 : w0.heap.size = w.heap.size + 1 + 1 := by rw [hw0]; simp only [World.size_alloc]
    have xw0 : Ext w w0 := by rw [hw0]; exact ((Ext.alloc _ _).trans (Ext.alloc _ _))
    clear hw0
    refine (bounds_r (h1.ext (by with_reducible repeat' first | exact Ext.refl _ | assumption | apply Ext.alloc_r | apply Ext.drew_r | apply Ext.drewN_r | refine Ext.trans ?_ ‹Ext _ _›)) (h2.ext (by with_reducible repeat' first | exact Ext.refl _ | assumption | apply Ext.alloc_r | apply Ext.drew_r | apply Ext.drewN_r | refine Ext.trans ?_ ‹Ext _ _›)) hN).mono ?_
    rintro e w1 ⟨spa, Apa, cpa, Lpa, Bpa, dpa, Mpa, spb, Apb, cpb, Lpb, Bpb, dpb, Mpb, rfl, pa, pb, x1⟩
    have szw1 : w0.heap.size ≤ w1.heap.size := x1.size
    replace bxi := bxi.ext x1
    replace bxa := bxa.ext x1
    have Hp := Lib.hid (And.intro pa pb)
    clear pa pb
    have ki_0 := bxi.c 0 (.bool s1) rfl
    have ki_1 := bxi.c 1 (.slice A1 L1 c1) rfl
    have ki_2 := bxi.c 2 (.slice B1 M1 d1) rfl
    have ki_3 := bxi.c 3 (.bool s2) rfl
    have ki_4 := bxi.c 4 (.slice A2 L2 c2) rfl
    have ki_5 := bxi.c 5 (.slice B2 M2 d2) rfl
    have ka_0 := bxa.c 0 (.bool s3) rfl
    have ka_1 := bxa.c 1 (.slice A3 L3 c3) rfl
    have ka_2 := bxa.c 2 (.slice B3 M3 d3) rfl
    have t1i_0 := fun (o0 : Obj) => ((Ext.alloc w1 o0).cell (bxi.c 0 (.bool s1) rfl))
    have t2i_0 := fun (o0 : Obj) (o1 : Obj) => ((Ext.alloc (w1.alloc o0) o1).cell ((Ext.alloc w1 o0).cell (bxi.c 0 (.bool s1) rfl)))
    have t1i_1 := fun (o0 : Obj) => ((Ext.alloc w1 o0).cell (bxi.c 1 (.slice A1 L1 c1) rfl))
    have t2i_1 := fun (o0 : Obj) (o1 : Obj) => ((Ext.alloc (w1.alloc o0) o1).cell ((Ext.alloc w1 o0).cell (bxi.c 1 (.slice A1 L1 c1) rfl)))
    have t1i_2 := fun (o0 : Obj) => ((Ext.alloc w1 o0).cell (bxi.c 2 (.slice B1 M1 d1) rfl))
    have t2i_2 := fun (o0 : Obj) (o1 : Obj) => ((Ext.alloc (w1.alloc o0) o1).cell ((Ext.alloc w1 o0).cell (bxi.c 2 (.slice B1 M1 d1) rfl)))
    have t1i_3 := fun (o0 : Obj) => ((Ext.alloc w1 o0).cell (bxi.c 3 (.bool s2) rfl))
    have t2i_3 := fun (o0 : Obj) (o1 : Obj) => ((Ext.alloc (w1.alloc o0) o1).cell ((Ext.alloc w1 o0).cell (bxi.c 3 (.bool s2) rfl)))
    have t1i_4 := fun (o0 : Obj) => ((Ext.alloc w1 o0).cell (bxi.c 4 (.slice A2 L2 c2) rfl))
    have t2i_4 := fun (o0 : Obj) (o1 : Obj) => ((Ext.alloc (w1.alloc o0) o1).cell ((Ext.alloc w1 o0).cell (bxi.c 4 (.slice A2 L2 c2) rfl)))
    have t1i_5 := fun (o0 : Obj) => ((Ext.alloc w1 o0).cell (bxi.c 5 (.slice B2 M2 d2) rfl))
    have t2i_5 := fun (o0 : Obj) (o1 : Obj) => ((Ext.alloc (w1.alloc o0) o1).cell ((Ext.alloc w1 o0).cell (bxi.c 5 (.slice B2 M2 d2) rfl)))
    have t1a_0 := fun (o0 : Obj) => ((Ext.alloc w1 o0).cell (bxa.c 0 (.bool s3) rfl))
    have t2a_0 := fun (o0 : Obj) (o1 : Obj) => ((Ext.alloc (w1.alloc o0) o1).cell ((Ext.alloc w1 o0).cell (bxa.c 0 (.bool s3) rfl)))
    have t1a_1 := fun (o0 : Obj) => ((Ext.alloc w1 o0).cell (bxa.c 1 (.slice A3 L3 c3) rfl))
    have t2a_1 := fun (o0 : Obj) (o1 : Obj) => ((Ext.alloc (w1.alloc o0) o1).cell ((Ext.alloc w1 o0).cell (bxa.c 1 (.slice A3 L3 c3) rfl)))
    have t1a_2 := fun (o0 : Obj) => ((Ext.alloc w1 o0).cell (bxa.c 2 (.slice B3 M3 d3) rfl))
    have t2a_2 := fun (o0 : Obj) (o1 : Obj) => ((Ext.alloc (w1.alloc o0) o1).cell ((Ext.alloc w1 o0).cell (bxa.c 2 (.slice B3 M3 d3) rfl)))
    go_wp2_with fail
    clear ki_0 ki_1 ki_2 ki_3 ki_4 ki_5 ka_0 ka_1 ka_2 t1i_0 t2i_0 t1i_1 t2i_1 t1i_2 t2i_2 t1i_3 t2i_3 t1i_4 t2i_4 t1i_5 t2i_5 t1a_0 t2a_0 t1a_1 t2a_1 t1a_2 t2a_2
    obtain ⟨w2, hw⟩ : ∃ z : World, z = ((w1.alloc (.cells #[.bool spa, .slice Apa Lpa cpa, .slice Bpa Mpa dpa] 27)).alloc (.cells #[.bool spb, .slice Apb Lpb cpb, .slice Bpb Mpb dpb] 27)) := ⟨_, rfl⟩
    rw [← hw]
    have x2 : Ext w1 w2 := by rw [hw]; exact ((Ext.alloc _ _).trans (Ext.alloc _ _))
    replace bxi := bxi.ext x2
    replace bxa := bxa.ext x2
    have bxl : BK w2 (w1.heap.size) 27 #[.bool spa, .slice Apa Lpa cpa, .slice Bpa Mpa dpa] := by rw [hw]; have h5 := (BK.ext (BK.new w1 #[.bool spa, .slice Apa Lpa cpa, .slice Bpa Mpa dpa] 27) (Ext.alloc _ (.cells #[.bool spb, .slice Apb Lpb cpb, .slice Bpb Mpb dpb] 27))); simpa only [World.size_alloc] using h5
    have bxh : BK w2 (w1.heap.size + 1) 27 #[.bool spb, .slice Apb Lpb cpb, .slice Bpb Mpb dpb] := by rw [hw]; have h5 := (BK.new (w1.alloc (.cells #[.bool spa, .slice Apa Lpa cpa, .slice Bpa Mpa dpa] 27)) #[.bool spb, .slice Apb Lpb cpb, .slice Bpb Mpb dpb] 27); simpa only [World.size_alloc] using h5
    have szw2 : w2.heap.size = w1.heap.size + 1 + 1 := by rw [hw]; simp only [World.size_alloc]
    clear hw
    have pa := Hp.out.1
    have pb := Hp.out.2
    clear Hp
    have HP := Lib.hid (And.intro pa.rv pb.rv)
    clear pa pb
    refine (rcmp_k (HP.out.1.ext (by with_reducible repeat' first | exact Ext.refl _ | assumption | apply Ext.alloc_r | apply Ext.drew_r | apply Ext.drewN_r | refine Ext.trans ?_ ‹Ext _ _›)) (h3.ext (by with_reducible repeat' first | exact Ext.refl _ | assumption | apply Ext.alloc_r | apply Ext.drew_r | apply Ext.drewN_r | refine Ext.trans ?_ ‹Ext _ _›)) hN HK.out).mono ?_
    rintro e w3 ⟨rfl, x3⟩
    have szw3 : w2.heap.size ≤ w3.heap.size := x3.size
    replace bxi := bxi.ext x3
    replace bxa := bxa.ext x3
    replace bxl := bxl.ext x3
    replace bxh := bxh.ext x3
    have x0w : Ext w w3 := (by with_reducible repeat' first | exact Ext.refl _ | assumption | apply Ext.alloc_r | apply Ext.drew_r | apply Ext.drewN_r | refine Ext.trans ?_ ‹Ext _ _›)
    have ki_0 := bxi.c 0 (.bool s1) rfl
    have ki_1 := bxi.c 1 (.slice A1 L1 c1) rfl
    have ki_2 := bxi.c 2 (.slice B1 M1 d1) rfl
    have ki_3 := bxi.c 3 (.bool s2) rfl
    have ki_4 := bxi.c 4 (.slice A2 L2 c2) rfl
    have ki_5 := bxi.c 5 (.slice B2 M2 d2) rfl
    have ka_0 := bxa.c 0 (.bool s3) rfl
    have ka_1 := bxa.c 1 (.slice A3 L3 c3) rfl
    have ka_2 := bxa.c 2 (.slice B3 M3 d3) rfl
    have kl_0 := bxl.c 0 (.bool spa) rfl
    have kl_1 := bxl.c 1 (.slice Apa Lpa cpa) rfl
    have kl_2 := bxl.c 2 (.slice Bpa Mpa dpa) rfl
    have kh_0 := bxh.c 0 (.bool spb) rfl
    have kh_1 := bxh.c 1 (.slice Apb Lpb cpb) rfl
    have kh_2 := bxh.c 2 (.slice Bpb Mpb dpb) rfl
    go_wp2_with fail
    clear ki_0 ki_1 ki_2 ki_3 ki_4 ki_5 ka_0 ka_1 ka_2 kl_0 kl_1 kl_2 kh_0 kh_1 kh_2
    rw [HB.out]
    go_ret
    exact ⟨rfl, x0w⟩
theorem contains_is {w : World} {N : Nat} {s1 s2 s3 : Bool} {A1 B1 A2 B2 A3 B3 : Option Addr} {c1 d1 L1 M1 c2 d2 L2 M2 c3 d3 L3 M3 : Nat} {q1 q2 q3 : Rat} {b : Bool} (h1 : RV w s1 A1 c1 L1 B1 d1 M1 N q1) (h2 : RV w s2 A2 c2 L2 B2 d2 M2 N q2) (h3 : RV w s3 A3 c3 L3 B3 d3 M3 N q3) (hN : N < 48) (e : decide (inI q3 q1 q2) = b) :
    Calls Tryz.prog 36 #[Value.agg #[Value.bool s1, Value.slice A1 L1 c1, Value.slice B1 M1 d1, Value.bool s2, Value.slice A2 L2 c2, Value.slice B2 M2 d2], Value.agg #[Value.bool s3, Value.slice A3 L3 c3, Value.slice B3 M3 d3]] w fun e w' => e = .returned (.bool b) ∧ Ext w w' := by rw [← e]; exact icontains_r h1 h2 h3 hN
set_option maxHeartbeats 4000000 in
set_option maxRecDepth 100000 in
theorem iwithin_yes {w : World} {N : Nat} {s1 s2 s3 s4 : Bool} {A1 B1 A2 B2 A3 B3 A4 B4 : Option Addr} {c1 d1 L1 M1 c2 d2 L2 M2 c3 d3 L3 M3 c4 d4 L4 M4 : Nat} {q1 q2 q3 q4 : Rat} (h1 : RV w s1 A1 c1 L1 B1 d1 M1 N q1) (h2 : RV w s2 A2 c2 L2 B2 d2 M2 N q2) (h3 : RV w s3 A3 c3 L3 B3 d3 M3 N q3) (h4 : RV w s4 A4 c4 L4 B4 d4 M4 N q4) (hN : N < 48) (hq : inI (minQ q1 q2) q3 q4) (hr : inI (maxQ q1 q2) q3 q4) :
    Calls Tryz.prog 38 #[Value.agg #[Value.bool s1, Value.slice A1 L1 c1, Value.slice B1 M1 d1, Value.bool s2, Value.slice A2 L2 c2, Value.slice B2 M2 d2], Value.agg #[Value.bool s3, Value.slice A3 L3 c3, Value.slice B3 M3 d3, Value.bool s4, Value.slice A4 L4 c4, Value.slice B4 M4 d4]] w fun e w' => e = .returned (.bool true) ∧ Ext w w' := by
  have HB1 : Hid (decide (inI (minQ q1 q2) q3 q4) = true) := by show _ = _; exact decide_eq_true hq
  have HB2 : Hid (decide (inI (maxQ q1 q2) q3 q4) = true) := by show _ = _; exact decide_eq_true hr
  clear hr
  clear hq
  go_enter Tryz.func38, Tryz.ntmps38
  go_wp2_with fail
  obtain ⟨w0, hw0⟩ : ∃ z : World, z = ((w.alloc (.cells #[.bool s1, .slice A1 L1 c1, .slice B1 M1 d1, .bool s2, .slice A2 L2 c2, .slice B2 M2 d2] 29)).alloc (.cells #[.bool s3, .slice A3 L3 c3, .slice B3 M3 d3, .bool s4, .slice A4 L4 c4, .slice B4 M4 d4] 29)) := ⟨_, rfl⟩
  rw [← hw0]
  have bxi : BK w0 (w.heap.size) 29 #[.bool s1, .slice A1 L1 c1, .slice B1 M1 d1, .bool s2, .slice A2 L2 c2, .slice B2 M2 d2] := by rw [hw0]; have h5 := (BK.ext (BK.new w #[.bool s1, .slice A1 L1 c1, .slice B1 M1 d1, .bool s2, .slice A2 L2 c2, .slice B2 M2 d2] 29) (Ext.alloc _ (.cells #[.bool s3, .slice A3 L3 c3, .slice B3 M3 d3, .bool s4, .slice A4 L4 c4, .slice B4 M4 d4] 29))); simpa only [World.size_alloc] using h5
  have bxj : BK w0 (w.heap.size + 1) 29 #[.bool s3, .slice A3 L3 c3, .slice B3 M3 d3, .bool s4, .slice A4 L4 c4, .slice B4 M4 d4] := by rw [hw0]; have h5 := (BK.new (w.alloc (.cells #[.bool s1, .slice A1 L1 c1, .slice B1 M1 d1, .bool s2, .slice A2 L2 c2, .slice B2 M2 d2] 29)) #[.bool s3, .slice A3 L3 c3, .slice B3 M3 d3, .bool s4, .slice A4 L4 c4, .slice B4 M4 d4] 29); simpa only [World.size_alloc] using h5
  have hszw0 : w0.heap.size = w.heap.size + 1 + 1 := by rw [hw0]; simp only [World.size_alloc]
  have xw0 : Ext w w0 := by rw [hw0]; exact ((Ext.alloc _ _).trans (Ext.alloc _ _))
  clear hw0
  refine (bounds_r (h1.ext (by with_reducible repeat' first | exact Ext.refl _ | assumption | apply Ext.alloc_r | apply Ext.drew_r | apply Ext.drewN_r | refine Ext.trans ?_ ‹Ext _ _›)) (h2.ext (by with_reducible repeat' first | exact Ext.refl _ | assumption | apply Ext.alloc_r | apply Ext.drew_r | apply Ext.drewN_r | refine Ext.trans ?_ ‹Ext _ _›)) hN).mono ?_
  rintro e w1 ⟨spa, Apa, cpa, Lpa, Bpa, dpa, Mpa, spb, Apb, cpb, Lpb, Bpb, dpb, Mpb, rfl, pa, pb, x1⟩
  have szw1 : w0.heap.size ≤ w1.heap.size := x1.size
  replace bxi := bxi.ext x1
  replace bxj := bxj.ext x1
  have Hp := Lib.hid (And.intro pa pb)
  clear pa pb
  have ki_0 := bxi.c 0 (.bool s1) rfl
  have ki_1 := bxi.c 1 (.slice A1 L1 c1) rfl
  have ki_2 := bxi.c 2 (.slice B1 M1 d1) rfl
  have ki_3 := bxi.c 3 (.bool s2) rfl
  have ki_4 := bxi.c 4 (.slice A2 L2 c2) rfl
  have ki_5 := bxi.c 5 (.slice B2 M2 d2) rfl
  have kj_0 := bxj.c 0 (.bool s3) rfl
  have kj_1 := bxj.c 1 (.slice A3 L3 c3) rfl
  have kj_2 := bxj.c 2 (.slice B3 M3 d3) rfl
  have kj_3 := bxj.c 3 (.bool s4) rfl
  have kj_4 := bxj.c 4 (.slice A4 L4 c4) rfl
  have kj_5 := bxj.c 5 (.slice B4 M4 d4) rfl
  have t1i_0 := fun (o0 : Obj) => ((Ext.alloc w1 o0).cell (bxi.c 0 (.bool s1) rfl))
  have t2i_0 := fun (o0 : Obj) (o1 : Obj) => ((Ext.alloc (w1.alloc o0) o1).cell ((Ext.alloc w1 o0).cell (bxi.c 0 (.bool s1) rfl)))
  have t1i_1 := fun (o0 : Obj) => ((Ext.alloc w1 o0).cell (bxi.c 1 (.slice A1 L1 c1) rfl))
  have t2i_1 := fun (o0 : Obj) (o1 : Obj) => ((Ext.alloc (w1.alloc o0) o1).cell ((Ext.alloc w1 o0).cell (bxi.c 1 (.slice A1 L1 c1) rfl)))
  have t1i_2 := fun (o0 : Obj) => ((Ext.alloc w1 o0).cell (bxi.c 2 (.slice B1 M1 d1) rfl))
  have t2i_2 := fun (o0 : Obj) (o1 : Obj) => ((Ext.alloc (w1.alloc o0) o1).cell ((Ext.alloc w1 o0).cell (bxi.c 2 (.slice B1 M1 d1) rfl)))
  have t1i_3 := fun (o0 : Obj) => ((Ext.alloc w1 o0).cell (bxi.c 3 (.bool s2) rfl))
  have t2i_3 := fun (o0 : Obj) (o1 : Obj) => ((Ext.alloc (w1.alloc o0) o1).cell ((Ext.alloc w1 o0).cell (bxi.c 3 (.bool s2) rfl)))
  have t1i_4 := fun (o0 : Obj) => ((Ext.alloc w1 o0).cell (bxi.c 4 (.slice A2 L2 c2) rfl))
  have t2i_4 := fun (o0 : Obj) (o1 : Obj) => ((Ext.alloc (w1.alloc o0) o1).cell ((Ext.alloc w1 o0).cell (bxi.c 4 (.slice A2 L2 c2) rfl)))
  have t1i_5 := fun (o0 : Obj) => ((Ext.alloc w1 o0).cell (bxi.c 5 (.slice B2 M2 d2) rfl))
  have t2i_5 := fun (o0 : Obj) (o1 : Obj) => ((Ext.alloc (w1.alloc o0) o1).cell ((Ext.alloc w1 o0).cell (bxi.c 5 (.slice B2 M2 d2) rfl)))
  have t1j_0 := fun (o0 : Obj) => ((Ext.alloc w1 o0).cell (bxj.c 0 (.bool s3) rfl))
  have t2j_0 := fun (o0 : Obj) (o1 : Obj) => ((Ext.alloc (w1.alloc o0) o1).cell ((Ext.alloc w1 o0).cell (bxj.c 0 (.bool s3) rfl)))
  have t1j_1 := fun (o0 : Obj) => ((Ext.alloc w1 o0).cell (bxj.c 1 (.slice A3 L3 c3) rfl))
  have t2j_1 := fun (o0 : Obj) (o1 : Obj) => ((Ext.alloc (w1.alloc o0) o1).cell ((Ext.alloc w1 o0).cell (bxj.c 1 (.slice A3 L3 c3) rfl)))
  have t1j_2 := fun (o0 : Obj) => ((Ext.alloc w1 o0).cell (bxj.c 2 (.slice B3 M3 d3) rfl))
  have t2j_2 := fun (o0 : Obj) (o1 : Obj) => ((Ext.alloc (w1.alloc o0) o1).cell ((Ext.alloc w1 o0).cell (bxj.c 2 (.slice B3 M3 d3) rfl)))
  have t1j_3 := fun (o0 : Obj) => ((Ext.alloc w1 o0).cell (bxj.c 3 (.bool s4) rfl))
  have t2j_3 := fun (o0 : Obj) (o1 : Obj) => ((Ext.alloc (w1.alloc o0) o1).cell ((Ext.alloc w1 o0).cell (bxj.c 3 (.bool s4) rfl)))
  have t1j_4 := fun (o0 : Obj) => ((Ext.alloc w1 o0).cell (bxj.c 4 (.slice A4 L4 c4) rfl))
  have t2j_4 := fun (o0 : Obj) (o1 : Obj) => ((Ext.alloc (w1.alloc o0) o1).cell ((Ext.alloc w1 o0).cell (bxj.c 4 (.slice A4 L4 c4) rfl)))
  have t1j_5 := fun (o0 : Obj) => ((Ext.alloc w1 o0).cell (bxj.c 5 (.slice B4 M4 d4) rfl))
  have t2j_5 := fun (o0 : Obj) (o1 : Obj) => ((Ext.alloc (w1.alloc o0) o1).cell ((Ext.alloc w1 o0).cell (bxj.c 5 (.slice B4 M4 d4) rfl)))
  go_wp2_with fail
  clear ki_0 ki_1 ki_2 ki_3 ki_4 ki_5 kj_0 kj_1 kj_2 kj_3 kj_4 kj_5 t1i_0 t2i_0 t1i_1 t2i_1 t1i_2 t2i_2 t1i_3 t2i_3 t1i_4 t2i_4 t1i_5 t2i_5 t1j_0 t2j_0 t1j_1 t2j_1 t1j_2 t2j_2 t1j_3 t2j_3 t1j_4 t2j_4 t1j_5 t2j_5
  obtain ⟨w2, hw⟩ : ∃ z : World, z = ((w1.alloc (.cells #[.bool spa, .slice Apa Lpa cpa, .slice Bpa Mpa dpa] 27)).alloc (.cells #[.bool spb, .slice Apb Lpb cpb, .slice Bpb Mpb dpb] 27)) := ⟨_, rfl⟩
  rw [← hw]
  have x2 : Ext w1 w2 := by rw [hw]; exact ((Ext.alloc _ _).trans (Ext.alloc _ _))
  replace bxi := bxi.ext x2
  replace bxj := bxj.ext x2
  have bxl : BK w2 (w1.heap.size) 27 #[.bool spa, .slice Apa Lpa cpa, .slice Bpa Mpa dpa] := by rw [hw]; have h5 := (BK.ext (BK.new w1 #[.bool spa, .slice Apa Lpa cpa, .slice Bpa Mpa dpa] 27) (Ext.alloc _ (.cells #[.bool spb, .slice Apb Lpb cpb, .slice Bpb Mpb dpb] 27))); simpa only [World.size_alloc] using h5
  have bxh : BK w2 (w1.heap.size + 1) 27 #[.bool spb, .slice Apb Lpb cpb, .slice Bpb Mpb dpb] := by rw [hw]; have h5 := (BK.new (w1.alloc (.cells #[.bool spa, .slice Apa Lpa cpa, .slice Bpa Mpa dpa] 27)) #[.bool spb, .slice Apb Lpb cpb, .slice Bpb Mpb dpb] 27); simpa only [World.size_alloc] using h5
  have szw2 : w2.heap.size = w1.heap.size + 1 + 1 := by rw [hw]; simp only [World.size_alloc]
  clear hw
  have pa := Hp.out.1
  have pb := Hp.out.2
  clear Hp
  have HP := Lib.hid (And.intro pa.rv pb.rv)
  clear pa pb
  refine (contains_is (h3.ext (by with_reducible repeat' first | exact Ext.refl _ | assumption | apply Ext.alloc_r | apply Ext.drew_r | apply Ext.drewN_r | refine Ext.trans ?_ ‹Ext _ _›)) (h4.ext (by with_reducible repeat' first | exact Ext.refl _ | assumption | apply Ext.alloc_r | apply Ext.drew_r | apply Ext.drewN_r | refine Ext.trans ?_ ‹Ext _ _›)) (HP.out.1.ext (by with_reducible repeat' first | exact Ext.refl _ | assumption | apply Ext.alloc_r | apply Ext.drew_r | apply Ext.drewN_r | refine Ext.trans ?_ ‹Ext _ _›)) hN HB1.out).mono ?_
  rintro e w3 ⟨rfl, x3⟩
  have szw3 : w2.heap.size ≤ w3.heap.size := x3.size
  replace bxi := bxi.ext x3
  replace bxj := bxj.ext x3
  replace bxl := bxl.ext x3
  replace bxh := bxh.ext x3
  have ki_0 := bxi.c 0 (.bool s1) rfl
  have ki_1 := bxi.c 1 (.slice A1 L1 c1) rfl
  have ki_2 := bxi.c 2 (.slice B1 M1 d1) rfl
  have ki_3 := bxi.c 3 (.bool s2) rfl
  have ki_4 := bxi.c 4 (.slice A2 L2 c2) rfl
  have ki_5 := bxi.c 5 (.slice B2 M2 d2) rfl
  have kj_0 := bxj.c 0 (.bool s3) rfl
  have kj_1 := bxj.c 1 (.slice A3 L3 c3) rfl
  have kj_2 := bxj.c 2 (.slice B3 M3 d3) rfl
  have kj_3 := bxj.c 3 (.bool s4) rfl
  have kj_4 := bxj.c 4 (.slice A4 L4 c4) rfl
  have kj_5 := bxj.c 5 (.slice B4 M4 d4) rfl
  have kl_0 := bxl.c 0 (.bool spa) rfl
  have kl_1 := bxl.c 1 (.slice Apa Lpa cpa) rfl
  have kl_2 := bxl.c 2 (.slice Bpa Mpa dpa) rfl
  have kh_0 := bxh.c 0 (.bool spb) rfl
  have kh_1 := bxh.c 1 (.slice Apb Lpb cpb) rfl
  have kh_2 := bxh.c 2 (.slice Bpb Mpb dpb) rfl
  go_wp2_with fail
  clear ki_0 ki_1 ki_2 ki_3 ki_4 ki_5 kj_0 kj_1 kj_2 kj_3 kj_4 kj_5 kl_0 kl_1 kl_2 kh_0 kh_1 kh_2
  refine (contains_is (h3.ext (by with_reducible repeat' first | exact Ext.refl _ | assumption | apply Ext.alloc_r | apply Ext.drew_r | apply Ext.drewN_r | refine Ext.trans ?_ ‹Ext _ _›)) (h4.ext (by with_reducible repeat' first | exact Ext.refl _ | assumption | apply Ext.alloc_r | apply Ext.drew_r | apply Ext.drewN_r | refine Ext.trans ?_ ‹Ext _ _›)) (HP.out.2.ext (by with_reducible repeat' first | exact Ext.refl _ | assumption | apply Ext.alloc_r | apply Ext.drew_r | apply Ext.drewN_r | refine Ext.trans ?_ ‹Ext _ _›)) hN HB2.out).mono ?_
  rintro e w4 ⟨rfl, x4⟩
  have szw4 : w3.heap.size ≤ w4.heap.size := x4.size
  replace bxi := bxi.ext x4
  replace bxj := bxj.ext x4
  replace bxl := bxl.ext x4
  replace bxh := bxh.ext x4
  have x0w : Ext w w4 := (by with_reducible repeat' first | exact Ext.refl _ | assumption | apply Ext.alloc_r | apply Ext.drew_r | apply Ext.drewN_r | refine Ext.trans ?_ ‹Ext _ _›)
  have ki_0 := bxi.c 0 (.bool s1) rfl
  have ki_1 := bxi.c 1 (.slice A1 L1 c1) rfl
  have ki_2 := bxi.c 2 (.slice B1 M1 d1) rfl
  have ki_3 := bxi.c 3 (.bool s2) rfl
  have ki_4 := bxi.c 4 (.slice A2 L2 c2) rfl
  have ki_5 := bxi.c 5 (.slice B2 M2 d2) rfl
  have kj_0 := bxj.c 0 (.bool s3) rfl
  have kj_1 := bxj.c 1 (.slice A3 L3 c3) rfl
  have kj_2 := bxj.c 2 (.slice B3 M3 d3) rfl
  have kj_3 := bxj.c 3 (.bool s4) rfl
  have kj_4 := bxj.c 4 (.slice A4 L4 c4) rfl
  have kj_5 := bxj.c 5 (.slice B4 M4 d4) rfl
  have kl_0 := bxl.c 0 (.bool spa) rfl
  have kl_1 := bxl.c 1 (.slice Apa Lpa cpa) rfl
  have kl_2 := bxl.c 2 (.slice Bpa Mpa dpa) rfl
  have kh_0 := bxh.c 0 (.bool spb) rfl
  have kh_1 := bxh.c 1 (.slice Apb Lpb cpb) rfl
  have kh_2 := bxh.c 2 (.slice Bpb Mpb dpb) rfl
  go_wp2_with fail
  clear ki_0 ki_1 ki_2 ki_3 ki_4 ki_5 kj_0 kj_1 kj_2 kj_3 kj_4 kj_5 kl_0 kl_1 kl_2 kh_0 kh_1 kh_2
  go_ret
  exact ⟨rfl, x0w⟩
set_option maxHeartbeats 4000000 in
set_option maxRecDepth 100000 in
theorem iwithin_no2 {w : World} {N : Nat} {s1 s2 s3 s4 : Bool} {A1 B1 A2 B2 A3 B3 A4 B4 : Option Addr} {c1 d1 L1 M1 c2 d2 L2 M2 c3 d3 L3 M3 c4 d4 L4 M4 : Nat} {q1 q2 q3 q4 : Rat} (h1 : RV w s1 A1 c1 L1 B1 d1 M1 N q1) (h2 : RV w s2 A2 c2 L2 B2 d2 M2 N q2) (h3 : RV w s3 A3 c3 L3 B3 d3 M3 N q3) (h4 : RV w s4 A4 c4 L4 B4 d4 M4 N q4) (hN : N < 48) (hq : inI (minQ q1 q2) q3 q4) (hr : ¬ inI (maxQ q1 q2) q3 q4) :
    Calls Tryz.prog 38 #[Value.agg #[Value.bool s1, Value.slice A1 L1 c1, Value.slice B1 M1 d1, Value.bool s2, Value.slice A2 L2 c2, Value.slice B2 M2 d2], Value.agg #[Value.bool s3, Value.slice A3 L3 c3, Value.slice B3 M3 d3, Value.bool s4, Value.slice A4 L4 c4, Value.slice B4 M4 d4]] w fun e w' => e = .returned (.bool false) ∧ Ext w w' := by
  have HB1 : Hid (decide (inI (minQ q1 q2) q3 q4) = true) := by show _ = _; exact decide_eq_true hq
  have HB2 : Hid (decide (inI (maxQ q1 q2) q3 q4) = false) := by show _ = _; exact decide_eq_false hr
  clear hr
  clear hq
  go_enter Tryz.func38, Tryz.ntmps38
  go_wp2_with fail
  obtain ⟨w0, hw0⟩ : ∃ z : World, z = ((w.alloc (.cells #[.bool s1, .slice A1 L1 c1, .slice B1 M1 d1, .bool s2, .slice A2 L2 c2, .slice B2 M2 d2] 29)).alloc (.cells #[.bool s3, .slice A3 L3 c3, .slice B3 M3 d3, .bool s4, .slice A4 L4 c4, .slice B4 M4 d4] 29)) := ⟨_, rfl⟩
  rw [← hw0]
  have bxi : BK w0 (w.heap.size) 29 #[.bool s1, .slice A1 L1 c1, .slice B1 M1 d1, .bool s2, .slice A2 L2 c2, .slice B2 M2 d2] := by rw [hw0]; have h5 := (BK.ext (BK.new w #[.bool s1, .slice A1 L1 c1, .slice B1 M1 d1, .bool s2, .slice A2 L2 c2, .slice B2 M2 d2] 29) (Ext.alloc _ (.cells #[.bool s3, .slice A3 L3 c3, .slice B3 M3 d3, .bool s4, .slice A4 L4 c4, .slice B4 M4 d4] 29))); simpa only [World.size_alloc] using h5
  have bxj : BK w0 (w.heap.size + 1) 29 #[.bool s3, .slice A3 L3 c3, .slice B3 M3 d3, .bool s4, .slice A4 L4 c4, .slice B4 M4 d4] := by rw [hw0]; have h5 := (BK.new (w.alloc (.cells #[.bool s1, .slice A1 L1 c1, .slice B1 M1 d1, .bool s2, .slice A2 L2 c2, .slice B2 M2 d2] 29)) #[.bool s3, .slice A3 L3 c3, .slice B3 M3 d3, .bool s4, .slice A4 L4 c4, .slice B4 M4 d4] 29); simpa only [World.size_alloc] using h5
  have hszw0 : w0.heap.size = w.heap.size + 1 + 1 := by rw [hw0]; simp only [World.size_alloc]
  have xw0 : Ext w w0 := by rw [hw0]; exact ((Ext.alloc _ _).trans (Ext.alloc _ _))
  clear hw0
  refine (bounds_r (h1.ext (by with_reducible repeat' first | exact Ext.refl _ | assumption | apply Ext.alloc_r | apply Ext.drew_r | apply Ext.drewN_r | refine Ext.trans ?_ ‹Ext _ _›)) (h2.ext (by with_reducible repeat' first | exact Ext.refl _ | assumption | apply Ext.alloc_r | apply Ext.drew_r | apply Ext.drewN_r | refine Ext.trans ?_ ‹Ext _ _›)) hN).mono ?_
  rintro e w1 ⟨spa, Apa, cpa, Lpa, Bpa, dpa, Mpa, spb, Apb, cpb, Lpb, Bpb, dpb, Mpb, rfl, pa, pb, x1⟩
  have szw1 : w0.heap.size ≤ w1.heap.size := x1.size
  replace bxi := bxi.ext x1
  replace bxj := bxj.ext x1
  have Hp := Lib.hid (And.intro pa pb)
  clear pa pb
  have ki_0 := bxi.c 0 (.bool s1) rfl
  have ki_1 := bxi.c 1 (.slice A1 L1 c1) rfl
  have ki_2 := bxi.c 2 (.slice B1 M1 d1) rfl
  have ki_3 := bxi.c 3 (.bool s2) rfl
  have ki_4 := bxi.c 4 (.slice A2 L2 c2) rfl
  have ki_5 := bxi.c 5 (.slice B2 M2 d2) rfl
  have kj_0 := bxj.c 0 (.bool s3) rfl
  have kj_1 := bxj.c 1 (.slice A3 L3 c3) rfl
  have kj_2 := bxj.c 2 (.slice B3 M3 d3) rfl
  have kj_3 := bxj.c 3 (.bool s4) rfl
  have kj_4 := bxj.c 4 (.slice A4 L4 c4) rfl
  have kj_5 := bxj.c 5 (.slice B4 M4 d4) rfl
  have t1i_0 := fun (o0 : Obj) => ((Ext.alloc w1 o0).cell (bxi.c 0 (.bool s1) rfl))
  have t2i_0 := fun (o0 : Obj) (o1 : Obj) => ((Ext.alloc (w1.alloc o0) o1).cell ((Ext.alloc w1 o0).cell (bxi.c 0 (.bool s1) rfl)))
  have t1i_1 := fun (o0 : Obj) => ((Ext.alloc w1 o0).cell (bxi.c 1 (.slice A1 L1 c1) rfl))
  have t2i_1 := fun (o0 : Obj) (o1 : Obj) => ((Ext.alloc (w1.alloc o0) o1).cell ((Ext.alloc w1 o0).cell (bxi.c 1 (.slice A1 L1 c1) rfl)))
  have t1i_2 := fun (o0 : Obj) => ((Ext.alloc w1 o0).cell (bxi.c 2 (.slice B1 M1 d1) rfl))
  have t2i_2 := fun (o0 : Obj) (o1 : Obj) => ((Ext.alloc (w1.alloc o0) o1).cell ((Ext.alloc w1 o0).cell (bxi.c 2 (.slice B1 M1 d1) rfl)))
  have t1i_3 := fun (o0 : Obj) => ((Ext.alloc w1 o0).cell (bxi.c 3 (.bool s2) rfl))
  have t2i_3 := fun (o0 : Obj) (o1 : Obj) => ((Ext.alloc (w1.alloc o0) o1).cell ((Ext.alloc w1 o0).cell (bxi.c 3 (.bool s2) rfl)))
  have t1i_4 := fun (o0 : Obj) => ((Ext.alloc w1 o0).cell (bxi.c 4 (.slice A2 L2 c2) rfl))
  have t2i_4 := fun (o0 : Obj) (o1 : Obj) => ((Ext.alloc (w1.alloc o0) o1).cell ((Ext.alloc w1 o0).cell (bxi.c 4 (.slice A2 L2 c2) rfl)))
  have t1i_5 := fun (o0 : Obj) => ((Ext.alloc w1 o0).cell (bxi.c 5 (.slice B2 M2 d2) rfl))
  have t2i_5 := fun (o0 : Obj) (o1 : Obj) => ((Ext.alloc (w1.alloc o0) o1).cell ((Ext.alloc w1 o0).cell (bxi.c 5 (.slice B2 M2 d2) rfl)))
  have t1j_0 := fun (o0 : Obj) => ((Ext.alloc w1 o0).cell (bxj.c 0 (.bool s3) rfl))
  have t2j_0 := fun (o0 : Obj) (o1 : Obj) => ((Ext.alloc (w1.alloc o0) o1).cell ((Ext.alloc w1 o0).cell (bxj.c 0 (.bool s3) rfl)))
  have t1j_1 := fun (o0 : Obj) => ((Ext.alloc w1 o0).cell (bxj.c 1 (.slice A3 L3 c3) rfl))
  have t2j_1 := fun (o0 : Obj) (o1 : Obj) => ((Ext.alloc (w1.alloc o0) o1).cell ((Ext.alloc w1 o0).cell (bxj.c 1 (.slice A3 L3 c3) rfl)))
  have t1j_2 := fun (o0 : Obj) => ((Ext.alloc w1 o0).cell (bxj.c 2 (.slice B3 M3 d3) rfl))
  have t2j_2 := fun (o0 : Obj) (o1 : Obj) => ((Ext.alloc (w1.alloc o0) o1).cell ((Ext.alloc w1 o0).cell (bxj.c 2 (.slice B3 M3 d3) rfl)))
  have t1j_3 := fun (o0 : Obj) => ((Ext.alloc w1 o0).cell (bxj.c 3 (.bool s4) rfl))
  have t2j_3 := fun (o0 : Obj) (o1 : Obj) => ((Ext.alloc (w1.alloc o0) o1).cell ((Ext.alloc w1 o0).cell (bxj.c 3 (.bool s4) rfl)))
  have t1j_4 := fun (o0 : Obj) => ((Ext.alloc w1 o0).cell (bxj.c 4 (.slice A4 L4 c4) rfl))
  have t2j_4 := fun (o0 : Obj) (o1 : Obj) => ((Ext.alloc (w1.alloc o0) o1).cell ((Ext.alloc w1 o0).cell (bxj.c 4 (.slice A4 L4 c4) rfl)))
  have t1j_5 := fun (o0 : Obj) => ((Ext.alloc w1 o0).cell (bxj.c 5 (.slice B4 M4 d4) rfl))
  have t2j_5 := fun (o0 : Obj) (o1 : Obj) => ((Ext.alloc (w1.alloc o0) o1).cell ((Ext.alloc w1 o0).cell (bxj.c 5 (.slice B4 M4 d4) rfl)))
  go_wp2_with fail
  clear ki_0 ki_1 ki_2 ki_3 ki_4 ki_5 kj_0 kj_1 kj_2 kj_3 kj_4 kj_5 t1i_0 t2i_0 t1i_1 t2i_1 t1i_2 t2i_2 t1i_3 t2i_3 t1i_4 t2i_4 t1i_5 t2i_5 t1j_0 t2j_0 t1j_1 t2j_1 t1j_2 t2j_2 t1j_3 t2j_3 t1j_4 t2j_4 t1j_5 t2j_5
  obtain ⟨w2, hw⟩ : ∃ z : World, z = ((w1.alloc (.cells #[.bool spa, .slice Apa Lpa cpa, .slice Bpa Mpa dpa] 27)).alloc (.cells #[.bool spb, .slice Apb Lpb cpb, .slice Bpb Mpb dpb] 27)) := ⟨_, rfl⟩
  rw [← hw]
  have x2 : Ext w1 w2 := by rw [hw]; exact ((Ext.alloc _ _).trans (Ext.alloc _ _))
  replace bxi := bxi.ext x2
  replace bxj := bxj.ext x2
  have bxl : BK w2 (w1.heap.size) 27 #[.bool spa, .slice Apa Lpa cpa, .slice Bpa Mpa dpa] := by rw [hw]; have h5 := (BK.ext (BK.new w1 #[.bool spa, .slice Apa Lpa cpa, .slice Bpa Mpa dpa] 27) (Ext.alloc _ (.cells #[.bool spb, .slice Apb Lpb cpb, .slice Bpb Mpb dpb] 27))); simpa only [World.size_alloc] using h5
  have bxh : BK w2 (w1.heap.size + 1) 27 #[.bool spb, .slice Apb Lpb cpb, .slice Bpb Mpb dpb] := by rw [hw]; have h5 := (BK.new (w1.alloc (.cells #[.bool spa, .slice Apa Lpa cpa, .slice Bpa Mpa dpa] 27)) #[.bool spb, .slice Apb Lpb cpb, .slice Bpb Mpb dpb] 27); simpa only [World.size_alloc] using h5
  have szw2 : w2.heap.size = w1.heap.size + 1 + 1 := by rw [hw]; simp only [World.size_alloc]
  clear hw
  have pa := Hp.out.1
  have pb := Hp.out.2
  clear Hp
  have HP := Lib.hid (And.intro pa.rv pb.rv)
  clear pa pb
  refine (contains_is (h3.ext (by with_reducible repeat' first | exact Ext.refl _ | assumption | apply Ext.alloc_r | apply Ext.drew_r | apply Ext.drewN_r | refine Ext.trans ?_ ‹Ext _ _›)) (h4.ext (by with_reducible repeat' first | exact Ext.refl _ | assumption | apply Ext.alloc_r | apply Ext.drew_r | apply Ext.drewN_r | refine Ext.trans ?_ ‹Ext _ _›)) (HP.out.1.ext (by with_reducible repeat' first | exact Ext.refl _ | assumption | apply Ext.alloc_r | apply Ext.drew_r | apply Ext.drewN_r | refine Ext.trans ?_ ‹Ext _ _›)) hN HB1.out).mono ?_
  rintro e w3 ⟨rfl, x3⟩
  have szw3 : w2.heap.size ≤ w3.heap.size := x3.size
  replace bxi := bxi.ext x3
  replace bxj := bxj.ext x3
  replace bxl := bxl.ext x3
  replace bxh := bxh.ext x3
  have ki_0 := bxi.c 0 (.bool s1) rfl
  have ki_1 := bxi.c 1 (.slice A1 L1 c1) rfl
  have ki_2 := bxi.c 2 (.slice B1 M1 d1) rfl
  have ki_3 := bxi.c 3 (.bool s2) rfl
  have ki_4 := bxi.c 4 (.slice A2 L2 c2) rfl
  have ki_5 := bxi.c 5 (.slice B2 M2 d2) rfl
  have kj_0 := bxj.c 0 (.bool s3) rfl
  have kj_1 := bxj.c 1 (.slice A3 L3 c3) rfl
  have kj_2 := bxj.c 2 (.slice B3 M3 d3) rfl
  have kj_3 := bxj.c 3 (.bool s4) rfl
  have kj_4 := bxj.c 4 (.slice A4 L4 c4) rfl
  have kj_5 := bxj.c 5 (.slice B4 M4 d4) rfl
  have kl_0 := bxl.c 0 (.bool spa) rfl
  have kl_1 := bxl.c 1 (.slice Apa Lpa cpa) rfl
  have kl_2 := bxl.c 2 (.slice Bpa Mpa dpa) rfl
  have kh_0 := bxh.c 0 (.bool spb) rfl
  have kh_1 := bxh.c 1 (.slice Apb Lpb cpb) rfl
  have kh_2 := bxh.c 2 (.slice Bpb Mpb dpb) rfl
  go_wp2_with fail
  clear ki_0 ki_1 ki_2 ki_3 ki_4 ki_5 kj_0 kj_1 kj_2 kj_3 kj_4 kj_5 kl_0 kl_1 kl_2 kh_0 kh_1 kh_2
  refine (contains_is (h3.ext (by with_reducible repeat' first | exact Ext.refl _ | assumption | apply Ext.alloc_r | apply Ext.drew_r | apply Ext.drewN_r | refine Ext.trans ?_ ‹Ext _ _›)) (h4.ext (by with_reducible repeat' first | exact Ext.refl _ | assumption | apply Ext.alloc_r | apply Ext.drew_r | apply Ext.drewN_r | refine Ext.trans ?_ ‹Ext _ _›)) (HP.out.2.ext (by with_reducible repeat' first | exact Ext.refl _ | assumption | apply Ext.alloc_r | apply Ext.drew_r | apply Ext.drewN_r | refine Ext.trans ?_ ‹Ext _ _›)) hN HB2.out).mono ?_
  rintro e w4 ⟨rfl, x4⟩
  have szw4 : w3.heap.size ≤ w4.heap.size := x4.size
  replace bxi := bxi.ext x4
  replace bxj := bxj.ext x4
  replace bxl := bxl.ext x4
  replace bxh := bxh.ext x4
  have x0w : Ext w w4 := (by with_reducible repeat' first | exact Ext.refl _ | assumption | apply Ext.alloc_r | apply Ext.drew_r | apply Ext.drewN_r | refine Ext.trans ?_ ‹Ext _ _›)
  have ki_0 := bxi.c 0 (.bool s1) rfl
  have ki_1 := bxi.c 1 (.slice A1 L1 c1) rfl
  have ki_2 := bxi.c 2 (.slice B1 M1 d1) rfl
  have ki_3 := bxi.c 3 (.bool s2) rfl
  have ki_4 := bxi.c 4 (.slice A2 L2 c2) rfl
  have ki_5 := bxi.c 5 (.slice B2 M2 d2) rfl
  have kj_0 := bxj.c 0 (.bool s3) rfl
  have kj_1 := bxj.c 1 (.slice A3 L3 c3) rfl
  have kj_2 := bxj.c 2 (.slice B3 M3 d3) rfl
  have kj_3 := bxj.c 3 (.bool s4) rfl
  have kj_4 := bxj.c 4 (.slice A4 L4 c4) rfl
  have kj_5 := bxj.c 5 (.slice B4 M4 d4) rfl
  have kl_0 := bxl.c 0 (.bool spa) rfl
  have kl_1 := bxl.c 1 (.slice Apa Lpa cpa) rfl
  have kl_2 := bxl.c 2 (.slice Bpa Mpa dpa) rfl
  have kh_0 := bxh.c 0 (.bool spb) rfl
  have kh_1 := bxh.c 1 (.slice Apb Lpb cpb) rfl
  have kh_2 := bxh.c 2 (.slice Bpb Mpb dpb) rfl
  go_wp2_with fail
  clear ki_0 ki_1 ki_2 ki_3 ki_4 ki_5 kj_0 kj_1 kj_2 kj_3 kj_4 kj_5 kl_0 kl_1 kl_2 kh_0 kh_1 kh_2
  go_ret
  exact ⟨rfl, x0w⟩
set_option maxHeartbeats 4000000 in
set_option maxRecDepth 100000 in
theorem iwithin_no1 {w : World} {N : Nat} {s1 s2 s3 s4 : Bool} {A1 B1 A2 B2 A3 B3 A4 B4 : Option Addr} {c1 d1 L1 M1 c2 d2 L2 M2 c3 d3 L3 M3 c4 d4 L4 M4 : Nat} {q1 q2 q3 q4 : Rat} (h1 : RV w s1 A1 c1 L1 B1 d1 M1 N q1) (h2 : RV w s2 A2 c2 L2 B2 d2 M2 N q2) (h3 : RV w s3 A3 c3 L3 B3 d3 M3 N q3) (h4 : RV w s4 A4 c4 L4 B4 d4 M4 N q4) (hN : N < 48) (hq : ¬ inI (minQ q1 q2) q3 q4) :
    Calls Tryz.prog 38 #[Value.agg #[Value.bool s1, Value.slice A1 L1 c1, Value.slice B1 M1 d1, Value.bool s2, Value.slice A2 L2 c2, Value.slice B2 M2 d2], Value.agg #[Value.bool s3, Value.slice A3 L3 c3, Value.slice B3 M3 d3, Value.bool s4, Value.slice A4 L4 c4, Value.slice B4 M4 d4]] w fun e w' => e = .returned (.bool false) ∧ Ext w w' := by
  have HB1 : Hid (decide (inI (minQ q1 q2) q3 q4) = false) := by show _ = _; exact decide_eq_false hq
  clear hq
  go_enter Tryz.func38, Tryz.ntmps38
  go_wp2_with fail
  obtain ⟨w0, hw0⟩ : ∃ z : World, z = ((w.alloc (.cells #[.bool s1, .slice A1 L1 c1, .slice B1 M1 d1, .bool s2, .slice A2 L2 c2, .slice B2 M2 d2] 29)).alloc (.cells #[.bool s3, .slice A3 L3 c3, .slice B3 M3 d3, .bool s4, .slice A4 L4 c4, .slice B4 M4 d4] 29)) := ⟨_, rfl⟩
  rw [← hw0]
  have bxi : BK w0 (w.heap.size) 29 #[.bool s1, .slice A1 L1 c1, .slice B1 M1 d1, .bool s2, .slice A2 L2 c2, .slice B2 M2 d2] := by rw [hw0]; have h5 := (BK.ext (BK.new w #[.bool s1, .slice A1 L1 c1, .slice B1 M1 d1, .bool s2, .slice A2 L2 c2, .slice B2 M2 d2] 29) (Ext.alloc _ (.cells #[.bool s3, .slice A3 L3 c3, .slice B3 M3 d3, .bool s4, .slice A4 L4 c4, .slice B4 M4 d4] 29))); simpa only [World.size_alloc] using h5
  have bxj : BK w0 (w.heap.size + 1) 29 #[.bool s3, .slice A3 L3 c3, .slice B3 M3 d3, .bool s4, .slice A4 L4 c4, .slice B4 M4 d4] := by rw [hw0]; have h5 := (BK.new (w.alloc (.cells #[.bool s1, .slice A1 L1 c1, .slice B1 M1 d1, .bool s2, .slice A2 L2 c2, .slice B2 M2 d2] 29)) #[.bool s3, .slice A3 L3 c3, .slice B3 M3 d3, .bool s4, .slice A4 L4 c4, .slice B4 M4 d4] 29); simpa only [World.size_alloc] using h5
  have hszw0 : w0.heap.size = w.heap.size + 1 + 1 := by rw [hw0]; simp only [World.size_alloc]
  have xw0 : Ext w w0 := by rw [hw0]; exact ((Ext.alloc _ _).trans (Ext.alloc _ _))
  clear hw0
  refine (bounds_r (h1.ext (by with_reducible repeat' first | exact Ext.refl _ | assumption | apply Ext.alloc_r | apply Ext.drew_r | apply Ext.drewN_r | refine Ext.trans ?_ ‹Ext _ _›)) (h2.ext (by with_reducible repeat' first | exact Ext.refl _ | assumption | apply Ext.alloc_r | apply Ext.drew_r | apply Ext.drewN_r | refine Ext.trans ?_ ‹Ext _ _›)) hN).mono ?_
  rintro e w1 ⟨spa, Apa, cpa, Lpa, Bpa, dpa, Mpa, spb, Apb, cpb, Lpb, Bpb, dpb, Mpb, rfl, pa, pb, x1⟩
  have szw1 : w0.heap.size ≤ w1.heap.size := x1.size
  replace bxi := bxi.ext x1
  replace bxj := bxj.ext x1
  have Hp := Lib.hid (And.intro pa pb)
  clear pa pb
  have ki_0 := bxi.c 0 (.bool s1) rfl
  have ki_1 := bxi.c 1 (.slice A1 L1 c1) rfl
  have ki_2 := bxi.c 2 (.slice B1 M1 d1) rfl
  have ki_3 := bxi.c 3 (.bool s2) rfl
  have ki_4 := bxi.c 4 (.slice A2 L2 c2) rfl
  have ki_5 := bxi.c 5 (.slice B2 M2 d2) rfl
  have kj_0 := bxj.c 0 (.bool s3) rfl
  have kj_1 := bxj.c 1 (.slice A3 L3 c3) rfl
  have kj_2 := bxj.c 2 (.slice B3 M3 d3) rfl
  have kj_3 := bxj.c 3 (.bool s4) rfl
  have kj_4 := bxj.c 4 (.slice A4 L4 c4) rfl
  have kj_5 := bxj.c 5 (.slice B4 M4 d4) rfl
  have t1i_0 := fun (o0 : Obj) => ((Ext.alloc w1 o0).cell (bxi.c 0 (.bool s1) rfl))
  have t2i_0 := fun (o0 : Obj) (o1 : Obj) => ((Ext.alloc (w1.alloc o0) o1).cell ((Ext.alloc w1 o0).cell (bxi.c 0 (.bool s1) rfl)))
  have t1i_1 := fun (o0 : Obj) => ((Ext.alloc w1 o0).cell (bxi.c 1 (.slice A1 L1 c1) rfl))
  have t2i_1 := fun (o0 : Obj) (o1 : Obj) => ((Ext.alloc (w1.alloc o0) o1).cell ((Ext.alloc w1 o0).cell (bxi.c 1 (.slice A1 L1 c1) rfl)))
  have t1i_2 := fun (o0 : Obj) => ((Ext.alloc w1 o0).cell (bxi.c 2 (.slice B1 M1 d1) rfl))
  have t2i_2 := fun (o0 : Obj) (o1 : Obj) => ((Ext.alloc (w1.alloc o0) o1).cell ((Ext.alloc w1 o0).cell (bxi.c 2 (.slice B1 M1 d1) rfl)))
  have t1i_3 := fun (o0 : Obj) => ((Ext.alloc w1 o0).cell (bxi.c 3 (.bool s2) rfl))
  have t2i_3 := fun (o0 : Obj) (o1 : Obj) => ((Ext.alloc (w1.alloc o0) o1).cell ((Ext.alloc w1 o0).cell (bxi.c 3 (.bool s2) rfl)))
  have t1i_4 := fun (o0 : Obj) => ((Ext.alloc w1 o0).cell (bxi.c 4 (.slice A2 L2 c2) rfl))
  have t2i_4 := fun (o0 : Obj) (o1 : Obj) => ((Ext.alloc (w1.alloc o0) o1).cell ((Ext.alloc w1 o0).cell (bxi.c 4 (.slice A2 L2 c2) rfl)))
  have t1i_5 := fun (o0 : Obj) => ((Ext.alloc w1 o0).cell (bxi.c 5 (.slice B2 M2 d2) rfl))
  have t2i_5 := fun (o0 : Obj) (o1 : Obj) => ((Ext.alloc (w1.alloc o0) o1).cell ((Ext.alloc w1 o0).cell (bxi.c 5 (.slice B2 M2 d2) rfl)))
  have t1j_0 := fun (o0 : Obj) => ((Ext.alloc w1 o0).cell (bxj.c 0 (.bool s3) rfl))
  have t2j_0 := fun (o0 : Obj) (o1 : Obj) => ((Ext.alloc (w1.alloc o0) o1).cell ((Ext.alloc w1 o0).cell (bxj.c 0 (.bool s3) rfl)))
  have t1j_1 := fun (o0 : Obj) => ((Ext.alloc w1 o0).cell (bxj.c 1 (.slice A3 L3 c3) rfl))
  have t2j_1 := fun (o0 : Obj) (o1 : Obj) => ((Ext.alloc (w1.alloc o0) o1).cell ((Ext.alloc w1 o0).cell (bxj.c 1 (.slice A3 L3 c3) rfl)))
  have t1j_2 := fun (o0 : Obj) => ((Ext.alloc w1 o0).cell (bxj.c 2 (.slice B3 M3 d3) rfl))
  have t2j_2 := fun (o0 : Obj) (o1 : Obj) => ((Ext.alloc (w1.alloc o0) o1).cell ((Ext.alloc w1 o0).cell (bxj.c 2 (.slice B3 M3 d3) rfl)))
  have t1j_3 := fun (o0 : Obj) => ((Ext.alloc w1 o0).cell (bxj.c 3 (.bool s4) rfl))
  have t2j_3 := fun (o0 : Obj) (o1 : Obj) => ((Ext.alloc (w1.alloc o0) o1).cell ((Ext.alloc w1 o0).cell (bxj.c 3 (.bool s4) rfl)))
  have t1j_4 := fun (o0 : Obj) => ((Ext.alloc w1 o0).cell (bxj.c 4 (.slice A4 L4 c4) rfl))
  have t2j_4 := fun (o0 : Obj) (o1 : Obj) => ((Ext.alloc (w1.alloc o0) o1).cell ((Ext.alloc w1 o0).cell (bxj.c 4 (.slice A4 L4 c4) rfl)))
  have t1j_5 := fun (o0 : Obj) => ((Ext.alloc w1 o0).cell (bxj.c 5 (.slice B4 M4 d4) rfl))
  have t2j_5 := fun (o0 : Obj) (o1 : Obj) => ((Ext.alloc (w1.alloc o0) o1).cell ((Ext.alloc w1 o0).cell (bxj.c 5 (.slice B4 M4 d4) rfl)))
  go_wp2_with fail
  clear ki_0 ki_1 ki_2 ki_3 ki_4 ki_5 kj_0 kj_1 kj_2 kj_3 kj_4 kj_5 t1i_0 t2i_0 t1i_1 t2i_1 t1i_2 t2i_2 t1i_3 t2i_3 t1i_4 t2i_4 t1i_5 t2i_5 t1j_0 t2j_0 t1j_1 t2j_1 t1j_2 t2j_2 t1j_3 t2j_3 t1j_4 t2j_4 t1j_5 t2j_5
  obtain ⟨w2, hw⟩ : ∃ z : World, z = ((w1.alloc (.cells #[.bool spa, .slice Apa Lpa cpa, .slice Bpa Mpa dpa] 27)).alloc (.cells #[.bool spb, .slice Apb Lpb cpb, .slice Bpb Mpb dpb] 27)) := ⟨_, rfl⟩
  rw [← hw]
  have x2 : Ext w1 w2 := by rw [hw]; exact ((Ext.alloc _ _).trans (Ext.alloc _ _))
  replace bxi := bxi.ext x2
  replace bxj := bxj.ext x2
  have bxl : BK w2 (w1.heap.size) 27 #[.bool spa, .slice Apa Lpa cpa, .slice Bpa Mpa dpa] := by rw [hw]; have h5 := (BK.ext (BK.new w1 #[.bool spa, .slice Apa Lpa cpa, .slice Bpa Mpa dpa] 27) (Ext.alloc _ (.cells #[.bool spb, .slice Apb Lpb cpb, .slice Bpb Mpb dpb] 27))); simpa only [World.size_alloc] using h5
  have bxh : BK w2 (w1.heap.size + 1) 27 #[.bool spb, .slice Apb Lpb cpb, .slice Bpb Mpb dpb] := by rw [hw]; have h5 := (BK.new (w1.alloc (.cells #[.bool spa, .slice Apa Lpa cpa, .slice Bpa Mpa dpa] 27)) #[.bool spb, .slice Apb Lpb cpb, .slice Bpb Mpb dpb] 27); simpa only [World.size_alloc] using h5
  have szw2 : w2.heap.size = w1.heap.size + 1 + 1 := by rw [hw]; simp only [World.size_alloc]
  clear hw
  have pa := Hp.out.1
  have pb := Hp.out.2
  clear Hp
  have HP := Lib.hid (And.intro pa.rv pb.rv)
  clear pa pb
  refine (contains_is (h3.ext (by with_reducible repeat' first | exact Ext.refl _ | assumption | apply Ext.alloc_r | apply Ext.drew_r | apply Ext.drewN_r | refine Ext.trans ?_ ‹Ext _ _›)) (h4.ext (by with_reducible repeat' first | exact Ext.refl _ | assumption | apply Ext.alloc_r | apply Ext.drew_r | apply Ext.drewN_r | refine Ext.trans ?_ ‹Ext _ _›)) (HP.out.1.ext (by with_reducible repeat' first | exact Ext.refl _ | assumption | apply Ext.alloc_r | apply Ext.drew_r | apply Ext.drewN_r | refine Ext.trans ?_ ‹Ext _ _›)) hN HB1.out).mono ?_
  rintro e w3 ⟨rfl, x3⟩
  have szw3 : w2.heap.size ≤ w3.heap.size := x3.size
  replace bxi := bxi.ext x3
  replace bxj := bxj.ext x3
  replace bxl := bxl.ext x3
  replace bxh := bxh.ext x3
  have x0w : Ext w w3 := (by with_reducible repeat' first | exact Ext.refl _ | assumption | apply Ext.alloc_r | apply Ext.drew_r | apply Ext.drewN_r | refine Ext.trans ?_ ‹Ext _ _›)
  have ki_0 := bxi.c 0 (.bool s1) rfl
  have ki_1 := bxi.c 1 (.slice A1 L1 c1) rfl
  have ki_2 := bxi.c 2 (.slice B1 M1 d1) rfl
  have ki_3 := bxi.c 3 (.bool s2) rfl
  have ki_4 := bxi.c 4 (.slice A2 L2 c2) rfl
  have ki_5 := bxi.c 5 (.slice B2 M2 d2) rfl
  have kj_0 := bxj.c 0 (.bool s3) rfl
  have kj_1 := bxj.c 1 (.slice A3 L3 c3) rfl
  have kj_2 := bxj.c 2 (.slice B3 M3 d3) rfl
  have kj_3 := bxj.c 3 (.bool s4) rfl
  have kj_4 := bxj.c 4 (.slice A4 L4 c4) rfl
  have kj_5 := bxj.c 5 (.slice B4 M4 d4) rfl
  have kl_0 := bxl.c 0 (.bool spa) rfl
  have kl_1 := bxl.c 1 (.slice Apa Lpa cpa) rfl
  have kl_2 := bxl.c 2 (.slice Bpa Mpa dpa) rfl
  have kh_0 := bxh.c 0 (.bool spb) rfl
  have kh_1 := bxh.c 1 (.slice Apb Lpb cpb) rfl
  have kh_2 := bxh.c 2 (.slice Bpb Mpb dpb) rfl
  go_wp2_with fail
  clear ki_0 ki_1 ki_2 ki_3 ki_4 ki_5 kj_0 kj_1 kj_2 kj_3 kj_4 kj_5 kl_0 kl_1 kl_2 kh_0 kh_1 kh_2
  go_ret
  exact ⟨rfl, x0w⟩
theorem iwithin_r {w : World} {N : Nat} {s1 s2 s3 s4 : Bool} {A1 B1 A2 B2 A3 B3 A4 B4 : Option Addr} {c1 d1 L1 M1 c2 d2 L2 M2 c3 d3 L3 M3 c4 d4 L4 M4 : Nat} {q1 q2 q3 q4 : Rat} (h1 : RV w s1 A1 c1 L1 B1 d1 M1 N q1) (h2 : RV w s2 A2 c2 L2 B2 d2 M2 N q2) (h3 : RV w s3 A3 c3 L3 B3 d3 M3 N q3) (h4 : RV w s4 A4 c4 L4 B4 d4 M4 N q4) (hN : N < 48) :
    Calls Tryz.prog 38 #[Value.agg #[Value.bool s1, Value.slice A1 L1 c1, Value.slice B1 M1 d1, Value.bool s2, Value.slice A2 L2 c2, Value.slice B2 M2 d2], Value.agg #[Value.bool s3, Value.slice A3 L3 c3, Value.slice B3 M3 d3, Value.bool s4, Value.slice A4 L4 c4, Value.slice B4 M4 d4]] w fun e w' => e = .returned (.bool (decide (subI q1 q2 q3 q4))) ∧ Ext w w' := by
  have k : subI q1 q2 q3 q4 ↔ inI (minQ q1 q2) q3 q4 ∧ inI (maxQ q1 q2) q3 q4 := by
    unfold subI
    rcases min_max q1 q2 with ⟨e1, e2⟩ | ⟨e1, e2⟩ <;> rw [e1, e2]
    exact And.comm
  by_cases h : inI (minQ q1 q2) q3 q4
  · by_cases h' : inI (maxQ q1 q2) q3 q4
    · rw [decide_eq_true (k.2 ⟨h, h'⟩)]; exact iwithin_yes h1 h2 h3 h4 hN h h'
    · rw [decide_eq_false (fun z => h' (k.1 z).2)]; exact iwithin_no2 h1 h2 h3 h4 hN h h'
  · rw [decide_eq_false (fun z => h (k.1 z).1)]; exact iwithin_no1 h1 h2 h3 h4 hN h
set_option maxHeartbeats 4000000 in
set_option maxRecDepth 100000 in
theorem ihull_r {w : World} {N : Nat} {s1 s2 s3 s4 : Bool} {A1 B1 A2 B2 A3 B3 A4 B4 : Option Addr} {c1 d1 L1 M1 c2 d2 L2 M2 c3 d3 L3 M3 c4 d4 L4 M4 : Nat} {q1 q2 q3 q4 : Rat} (h1 : RV w s1 A1 c1 L1 B1 d1 M1 N q1) (h2 : RV w s2 A2 c2 L2 B2 d2 M2 N q2) (h3 : RV w s3 A3 c3 L3 B3 d3 M3 N q3) (h4 : RV w s4 A4 c4 L4 B4 d4 M4 N q4) (hN : N < 48) :
    Calls Tryz.prog 39 #[Value.agg #[Value.bool s1, Value.slice A1 L1 c1, Value.slice B1 M1 d1, Value.bool s2, Value.slice A2 L2 c2, Value.slice B2 M2 d2], Value.agg #[Value.bool s3, Value.slice A3 L3 c3, Value.slice B3 M3 d3, Value.bool s4, Value.slice A4 L4 c4, Value.slice B4 M4 d4]] w (RetI w N (minQ (minQ q1 q2) (minQ q3 q4)) (maxQ (maxQ q1 q2) (maxQ q3 q4))) := by
  go_enter Tryz.func39, Tryz.ntmps39
  go_wp2_with fail
  obtain ⟨w0, hw0⟩ : ∃ z : World, z = (((w.alloc (.cells #[.bool s1, .slice A1 L1 c1, .slice B1 M1 d1, .bool s2, .slice A2 L2 c2, .slice B2 M2 d2] 29)).alloc (.cells #[.bool s3, .slice A3 L3 c3, .slice B3 M3 d3, .bool s4, .slice A4 L4 c4, .slice B4 M4 d4] 29)).alloc (.cells #[.bool false, .slice none 0 0, .slice none 0 0, .bool false, .slice none 0 0, .slice none 0 0] 29)) := ⟨_, rfl⟩
  rw [← hw0]
  have bxi : BK w0 (w.heap.size) 29 #[.bool s1, .slice A1 L1 c1, .slice B1 M1 d1, .bool s2, .slice A2 L2 c2, .slice B2 M2 d2] := by rw [hw0]; have h5 := (BK.ext (BK.ext (BK.new w #[.bool s1, .slice A1 L1 c1, .slice B1 M1 d1, .bool s2, .slice A2 L2 c2, .slice B2 M2 d2] 29) (Ext.alloc _ (.cells #[.bool s3, .slice A3 L3 c3, .slice B3 M3 d3, .bool s4, .slice A4 L4 c4, .slice B4 M4 d4] 29))) (Ext.alloc _ (.cells #[.bool false, .slice none 0 0, .slice none 0 0, .bool false, .slice none 0 0, .slice none 0 0] 29))); simpa only [World.size_alloc] using h5
  have bxj : BK w0 (w.heap.size + 1) 29 #[.bool s3, .slice A3 L3 c3, .slice B3 M3 d3, .bool s4, .slice A4 L4 c4, .slice B4 M4 d4] := by rw [hw0]; have h5 := (BK.ext (BK.new (w.alloc (.cells #[.bool s1, .slice A1 L1 c1, .slice B1 M1 d1, .bool s2, .slice A2 L2 c2, .slice B2 M2 d2] 29)) #[.bool s3, .slice A3 L3 c3, .slice B3 M3 d3, .bool s4, .slice A4 L4 c4, .slice B4 M4 d4] 29) (Ext.alloc _ (.cells #[.bool false, .slice none 0 0, .slice none 0 0, .bool false, .slice none 0 0, .slice none 0 0] 29))); simpa only [World.size_alloc] using h5
  have bxr : BK w0 (w.heap.size + 1 + 1) 29 #[.bool false, .slice none 0 0, .slice none 0 0, .bool false, .slice none 0 0, .slice none 0 0] := by rw [hw0]; have h5 := (BK.new ((w.alloc (.cells #[.bool s1, .slice A1 L1 c1, .slice B1 M1 d1, .bool s2, .slice A2 L2 c2, .slice B2 M2 d2] 29)).alloc (.cells #[.bool s3, .slice A3 L3 c3, .slice B3 M3 d3, .bool s4, .slice A4 L4 c4, .slice B4 M4 d4] 29)) #[.bool false, .slice none 0 0, .slice none 0 0, .bool false, .slice none 0 0, .slice none 0 0] 29); simpa only [World.size_alloc] using h5
  have hszw0 : w0.heap.size = w.heap.size + 1 + 1 + 1 := by rw [hw0]; simp only [World.size_alloc]
  have xw0 : Ext w w0 := by rw [hw0]; exact (((Ext.alloc _ _).trans (Ext.alloc _ _)).trans (Ext.alloc _ _))
  clear hw0
  refine (bounds_r (h1.ext (by with_reducible repeat' first | exact Ext.refl _ | assumption | apply Ext.alloc_r | apply Ext.drew_r | apply Ext.drewN_r | refine Ext.trans ?_ ‹Ext _ _›)) (h2.ext (by with_reducible repeat' first | exact Ext.refl _ | assumption | apply Ext.alloc_r | apply Ext.drew_r | apply Ext.drewN_r | refine Ext.trans ?_ ‹Ext _ _›)) (by omega)).mono ?_
  rintro e w1 ⟨spa, Apa, cpa, Lpa, Bpa, dpa, Mpa, spb, Apb, cpb, Lpb, Bpb, dpb, Mpb, rfl, pa, pb, x1⟩
  have szw1 : w0.heap.size ≤ w1.heap.size := x1.size
  replace bxi := bxi.ext x1
  replace bxj := bxj.ext x1
  replace bxr := bxr.ext x1
  have Hp := Lib.hid (And.intro pa pb)
  clear pa pb
  have ki_0 := bxi.c 0 (.bool s1) rfl
  have ki_1 := bxi.c 1 (.slice A1 L1 c1) rfl
  have ki_2 := bxi.c 2 (.slice B1 M1 d1) rfl
  have ki_3 := bxi.c 3 (.bool s2) rfl
  have ki_4 := bxi.c 4 (.slice A2 L2 c2) rfl
  have ki_5 := bxi.c 5 (.slice B2 M2 d2) rfl
  have kj_0 := bxj.c 0 (.bool s3) rfl
  have kj_1 := bxj.c 1 (.slice A3 L3 c3) rfl
  have kj_2 := bxj.c 2 (.slice B3 M3 d3) rfl
  have kj_3 := bxj.c 3 (.bool s4) rfl
  have kj_4 := bxj.c 4 (.slice A4 L4 c4) rfl
  have kj_5 := bxj.c 5 (.slice B4 M4 d4) rfl
  have kr_0 := bxr.c 0 (.bool false) rfl
  have kr_1 := bxr.c 1 (.slice none 0 0) rfl
  have kr_2 := bxr.c 2 (.slice none 0 0) rfl
  have kr_3 := bxr.c 3 (.bool false) rfl
  have kr_4 := bxr.c 4 (.slice none 0 0) rfl
  have kr_5 := bxr.c 5 (.slice none 0 0) rfl
  have t1i_0 := fun (o0 : Obj) => ((Ext.alloc w1 o0).cell (bxi.c 0 (.bool s1) rfl))
  have t2i_0 := fun (o0 : Obj) (o1 : Obj) => ((Ext.alloc (w1.alloc o0) o1).cell ((Ext.alloc w1 o0).cell (bxi.c 0 (.bool s1) rfl)))
  have t1i_1 := fun (o0 : Obj) => ((Ext.alloc w1 o0).cell (bxi.c 1 (.slice A1 L1 c1) rfl))
  have t2i_1 := fun (o0 : Obj) (o1 : Obj) => ((Ext.alloc (w1.alloc o0) o1).cell ((Ext.alloc w1 o0).cell (bxi.c 1 (.slice A1 L1 c1) rfl)))
  have t1i_2 := fun (o0 : Obj) => ((Ext.alloc w1 o0).cell (bxi.c 2 (.slice B1 M1 d1) rfl))
  have t2i_2 := fun (o0 : Obj) (o1 : Obj) => ((Ext.alloc (w1.alloc o0) o1).cell ((Ext.alloc w1 o0).cell (bxi.c 2 (.slice B1 M1 d1) rfl)))
  have t1i_3 := fun (o0 : Obj) => ((Ext.alloc w1 o0).cell (bxi.c 3 (.bool s2) rfl))
  have t2i_3 := fun (o0 : Obj) (o1 : Obj) => ((Ext.alloc (w1.alloc o0) o1).cell ((Ext.alloc w1 o0).cell (bxi.c 3 (.bool s2) rfl)))
  have t1i_4 := fun (o0 : Obj) => ((Ext.alloc w1 o0).cell (bxi.c 4 (.slice A2 L2 c2) rfl))
  have t2i_4 := fun (o0 : Obj) (o1 : Obj) => ((Ext.alloc (w1.alloc o0) o1).cell ((Ext.alloc w1 o0).cell (bxi.c 4 (.slice A2 L2 c2) rfl)))
  have t1i_5 := fun (o0 : Obj) => ((Ext.alloc w1 o0).cell (bxi.c 5 (.slice B2 M2 d2) rfl))
  have t2i_5 := fun (o0 : Obj) (o1 : Obj) => ((Ext.alloc (w1.alloc o0) o1).cell ((Ext.alloc w1 o0).cell (bxi.c 5 (.slice B2 M2 d2) rfl)))
  have t1j_0 := fun (o0 : Obj) => ((Ext.alloc w1 o0).cell (bxj.c 0 (.bool s3) rfl))
  have t2j_0 := fun (o0 : Obj) (o1 : Obj) => ((Ext.alloc (w1.alloc o0) o1).cell ((Ext.alloc w1 o0).cell (bxj.c 0 (.bool s3) rfl)))
  have t1j_1 := fun (o0 : Obj) => ((Ext.alloc w1 o0).cell (bxj.c 1 (.slice A3 L3 c3) rfl))
  have t2j_1 := fun (o0 : Obj) (o1 : Obj) => ((Ext.alloc (w1.alloc o0) o1).cell ((Ext.alloc w1 o0).cell (bxj.c 1 (.slice A3 L3 c3) rfl)))
  have t1j_2 := fun (o0 : Obj) => ((Ext.alloc w1 o0).cell (bxj.c 2 (.slice B3 M3 d3) rfl))
  have t2j_2 := fun (o0 : Obj) (o1 : Obj) => ((Ext.alloc (w1.alloc o0) o1).cell ((Ext.alloc w1 o0).cell (bxj.c 2 (.slice B3 M3 d3) rfl)))
  have t1j_3 := fun (o0 : Obj) => ((Ext.alloc w1 o0).cell (bxj.c 3 (.bool s4) rfl))
  have t2j_3 := fun (o0 : Obj) (o1 : Obj) => ((Ext.alloc (w1.alloc o0) o1).cell ((Ext.alloc w1 o0).cell (bxj.c 3 (.bool s4) rfl)))
  have t1j_4 := fun (o0 : Obj) => ((Ext.alloc w1 o0).cell (bxj.c 4 (.slice A4 L4 c4) rfl))
  have t2j_4 := fun (o0 : Obj) (o1 : Obj) => ((Ext.alloc (w1.alloc o0) o1).cell ((Ext.alloc w1 o0).cell (bxj.c 4 (.slice A4 L4 c4) rfl)))
  have t1j_5 := fun (o0 : Obj) => ((Ext.alloc w1 o0).cell (bxj.c 5 (.slice B4 M4 d4) rfl))
  have t2j_5 := fun (o0 : Obj) (o1 : Obj) => ((Ext.alloc (w1.alloc o0) o1).cell ((Ext.alloc w1 o0).cell (bxj.c 5 (.slice B4 M4 d4) rfl)))
  have t1r_0 := fun (o0 : Obj) => ((Ext.alloc w1 o0).cell (bxr.c 0 (.bool false) rfl))
  have t2r_0 := fun (o0 : Obj) (o1 : Obj) => ((Ext.alloc (w1.alloc o0) o1).cell ((Ext.alloc w1 o0).cell (bxr.c 0 (.bool false) rfl)))
  have t1r_1 := fun (o0 : Obj) => ((Ext.alloc w1 o0).cell (bxr.c 1 (.slice none 0 0) rfl))
  have t2r_1 := fun (o0 : Obj) (o1 : Obj) => ((Ext.alloc (w1.alloc o0) o1).cell ((Ext.alloc w1 o0).cell (bxr.c 1 (.slice none 0 0) rfl)))
  have t1r_2 := fun (o0 : Obj) => ((Ext.alloc w1 o0).cell (bxr.c 2 (.slice none 0 0) rfl))
  have t2r_2 := fun (o0 : Obj) (o1 : Obj) => ((Ext.alloc (w1.alloc o0) o1).cell ((Ext.alloc w1 o0).cell (bxr.c 2 (.slice none 0 0) rfl)))
  have t1r_3 := fun (o0 : Obj) => ((Ext.alloc w1 o0).cell (bxr.c 3 (.bool false) rfl))
  have t2r_3 := fun (o0 : Obj) (o1 : Obj) => ((Ext.alloc (w1.alloc o0) o1).cell ((Ext.alloc w1 o0).cell (bxr.c 3 (.bool false) rfl)))
  have t1r_4 := fun (o0 : Obj) => ((Ext.alloc w1 o0).cell (bxr.c 4 (.slice none 0 0) rfl))
  have t2r_4 := fun (o0 : Obj) (o1 : Obj) => ((Ext.alloc (w1.alloc o0) o1).cell ((Ext.alloc w1 o0).cell (bxr.c 4 (.slice none 0 0) rfl)))
  have t1r_5 := fun (o0 : Obj) => ((Ext.alloc w1 o0).cell (bxr.c 5 (.slice none 0 0) rfl))
  have t2r_5 := fun (o0 : Obj) (o1 : Obj) => ((Ext.alloc (w1.alloc o0) o1).cell ((Ext.alloc w1 o0).cell (bxr.c 5 (.slice none 0 0) rfl)))
  go_wp2_with fail
  clear ki_0 ki_1 ki_2 ki_3 ki_4 ki_5 kj_0 kj_1 kj_2 kj_3 kj_4 kj_5 kr_0 kr_1 kr_2 kr_3 kr_4 kr_5 t1i_0 t2i_0 t1i_1 t2i_1 t1i_2 t2i_2 t1i_3 t2i_3 t1i_4 t2i_4 t1i_5 t2i_5 t1j_0 t2j_0 t1j_1 t2j_1 t1j_2 t2j_2 t1j_3 t2j_3 t1j_4 t2j_4 t1j_5 t2j_5 t1r_0 t2r_0 t1r_1 t2r_1 t1r_2 t2r_2 t1r_3 t2r_3 t1r_4 t2r_4 t1r_5 t2r_5
  obtain ⟨w2, hw⟩ : ∃ z : World, z = ((w1.alloc (.cells #[.bool spa, .slice Apa Lpa cpa, .slice Bpa Mpa dpa] 27)).alloc (.cells #[.bool spb, .slice Apb Lpb cpb, .slice Bpb Mpb dpb] 27)) := ⟨_, rfl⟩
  rw [← hw]
  have x2 : Ext w1 w2 := by rw [hw]; exact ((Ext.alloc _ _).trans (Ext.alloc _ _))
  replace bxi := bxi.ext x2
  replace bxj := bxj.ext x2
  replace bxr := bxr.ext x2
  have bxla : BK w2 (w1.heap.size) 27 #[.bool spa, .slice Apa Lpa cpa, .slice Bpa Mpa dpa] := by rw [hw]; have h5 := (BK.ext (BK.new w1 #[.bool spa, .slice Apa Lpa cpa, .slice Bpa Mpa dpa] 27) (Ext.alloc _ (.cells #[.bool spb, .slice Apb Lpb cpb, .slice Bpb Mpb dpb] 27))); simpa only [World.size_alloc] using h5
  have bxha : BK w2 (w1.heap.size + 1) 27 #[.bool spb, .slice Apb Lpb cpb, .slice Bpb Mpb dpb] := by rw [hw]; have h5 := (BK.new (w1.alloc (.cells #[.bool spa, .slice Apa Lpa cpa, .slice Bpa Mpa dpa] 27)) #[.bool spb, .slice Apb Lpb cpb, .slice Bpb Mpb dpb] 27); simpa only [World.size_alloc] using h5
  have szw2 : w2.heap.size = w1.heap.size + 1 + 1 := by rw [hw]; simp only [World.size_alloc]
  clear hw
  have pa := Hp.out.1
  have pb := Hp.out.2
  clear Hp
  have HP := Lib.hid (And.intro pa pb)
  clear pa pb
  refine (bounds_r (h3.ext (by with_reducible repeat' first | exact Ext.refl _ | assumption | apply Ext.alloc_r | apply Ext.drew_r | apply Ext.drewN_r | refine Ext.trans ?_ ‹Ext _ _›)) (h4.ext (by with_reducible repeat' first | exact Ext.refl _ | assumption | apply Ext.alloc_r | apply Ext.drew_r | apply Ext.drewN_r | refine Ext.trans ?_ ‹Ext _ _›)) (by omega)).mono ?_
  rintro e w3 ⟨sqa, Aqa, cqa, Lqa, Bqa, dqa, Mqa, sqb, Aqb, cqb, Lqb, Bqb, dqb, Mqb, rfl, qa, qb, x3⟩
  have szw3 : w2.heap.size ≤ w3.heap.size := x3.size
  replace bxi := bxi.ext x3
  replace bxj := bxj.ext x3
  replace bxr := bxr.ext x3
  replace bxla := bxla.ext x3
  replace bxha := bxha.ext x3
  have Hq := Lib.hid (And.intro qa qb)
  clear qa qb
  have ki_0 := bxi.c 0 (.bool s1) rfl
  have ki_1 := bxi.c 1 (.slice A1 L1 c1) rfl
  have ki_2 := bxi.c 2 (.slice B1 M1 d1) rfl
  have ki_3 := bxi.c 3 (.bool s2) rfl
  have ki_4 := bxi.c 4 (.slice A2 L2 c2) rfl
  have ki_5 := bxi.c 5 (.slice B2 M2 d2) rfl
  have kj_0 := bxj.c 0 (.bool s3) rfl
  have kj_1 := bxj.c 1 (.slice A3 L3 c3) rfl
  have kj_2 := bxj.c 2 (.slice B3 M3 d3) rfl
  have kj_3 := bxj.c 3 (.bool s4) rfl
  have kj_4 := bxj.c 4 (.slice A4 L4 c4) rfl
  have kj_5 := bxj.c 5 (.slice B4 M4 d4) rfl
  have kr_0 := bxr.c 0 (.bool false) rfl
  have kr_1 := bxr.c 1 (.slice none 0 0) rfl
  have kr_2 := bxr.c 2 (.slice none 0 0) rfl
  have kr_3 := bxr.c 3 (.bool false) rfl
  have kr_4 := bxr.c 4 (.slice none 0 0) rfl
  have kr_5 := bxr.c 5 (.slice none 0 0) rfl
  have kla_0 := bxla.c 0 (.bool spa) rfl
  have kla_1 := bxla.c 1 (.slice Apa Lpa cpa) rfl
  have kla_2 := bxla.c 2 (.slice Bpa Mpa dpa) rfl
  have kha_0 := bxha.c 0 (.bool spb) rfl
  have kha_1 := bxha.c 1 (.slice Apb Lpb cpb) rfl
  have kha_2 := bxha.c 2 (.slice Bpb Mpb dpb) rfl
  have t1i_0 := fun (o0 : Obj) => ((Ext.alloc w3 o0).cell (bxi.c 0 (.bool s1) rfl))
  have t2i_0 := fun (o0 : Obj) (o1 : Obj) => ((Ext.alloc (w3.alloc o0) o1).cell ((Ext.alloc w3 o0).cell (bxi.c 0 (.bool s1) rfl)))
  have t1i_1 := fun (o0 : Obj) => ((Ext.alloc w3 o0).cell (bxi.c 1 (.slice A1 L1 c1) rfl))
  have t2i_1 := fun (o0 : Obj) (o1 : Obj) => ((Ext.alloc (w3.alloc o0) o1).cell ((Ext.alloc w3 o0).cell (bxi.c 1 (.slice A1 L1 c1) rfl)))
  have t1i_2 := fun (o0 : Obj) => ((Ext.alloc w3 o0).cell (bxi.c 2 (.slice B1 M1 d1) rfl))
  have t2i_2 := fun (o0 : Obj) (o1 : Obj) => ((Ext.alloc (w3.alloc o0) o1).cell ((Ext.alloc w3 o0).cell (bxi.c 2 (.slice B1 M1 d1) rfl)))
  have t1i_3 := fun (o0 : Obj) => ((Ext.alloc w3 o0).cell (bxi.c 3 (.bool s2) rfl))
  have t2i_3 := fun (o0 : Obj) (o1 : Obj) => ((Ext.alloc (w3.alloc o0) o1).cell ((Ext.alloc w3 o0).cell (bxi.c 3 (.bool s2) rfl)))
  have t1i_4 := fun (o0 : Obj) => ((Ext.alloc w3 o0).cell (bxi.c 4 (.slice A2 L2 c2) rfl))
  have t2i_4 := fun (o0 : Obj) (o1 : Obj) => ((Ext.alloc (w3.alloc o0) o1).cell ((Ext.alloc w3 o0).cell (bxi.c 4 (.slice A2 L2 c2) rfl)))
  have t1i_5 := fun (o0 : Obj) => ((Ext.alloc w3 o0).cell (bxi.c 5 (.slice B2 M2 d2) rfl))
  have t2i_5 := fun (o0 : Obj) (o1 : Obj) => ((Ext.alloc (w3.alloc o0) o1).cell ((Ext.alloc w3 o0).cell (bxi.c 5 (.slice B2 M2 d2) rfl)))
  have t1j_0 := fun (o0 : Obj) => ((Ext.alloc w3 o0).cell (bxj.c 0 (.bool s3) rfl))
  have t2j_0 := fun (o0 : Obj) (o1 : Obj) => ((Ext.alloc (w3.alloc o0) o1).cell ((Ext.alloc w3 o0).cell (bxj.c 0 (.bool s3) rfl)))
  have t1j_1 := fun (o0 : Obj) => ((Ext.alloc w3 o0).cell (bxj.c 1 (.slice A3 L3 c3) rfl))
  have t2j_1 := fun (o0 : Obj) (o1 : Obj) => ((Ext.alloc (w3.alloc o0) o1).cell ((Ext.alloc w3 o0).cell (bxj.c 1 (.slice A3 L3 c3) rfl)))
  have t1j_2 := fun (o0 : Obj) => ((Ext.alloc w3 o0).cell (bxj.c 2 (.slice B3 M3 d3) rfl))
  have t2j_2 := fun (o0 : Obj) (o1 : Obj) => ((Ext.alloc (w3.alloc o0) o1).cell ((Ext.alloc w3 o0).cell (bxj.c 2 (.slice B3 M3 d3) rfl)))
  have t1j_3 := fun (o0 : Obj) => ((Ext.alloc w3 o0).cell (bxj.c 3 (.bool s4) rfl))
  have t2j_3 := fun (o0 : Obj) (o1 : Obj) => ((Ext.alloc (w3.alloc o0) o1).cell ((Ext.alloc w3 o0).cell (bxj.c 3 (.bool s4) rfl)))
  have t1j_4 := fun (o0 : Obj) => ((Ext.alloc w3 o0).cell (bxj.c 4 (.slice A4 L4 c4) rfl))
  have t2j_4 := fun (o0 : Obj) (o1 : Obj) => ((Ext.alloc (w3.alloc o0) o1).cell ((Ext.alloc w3 o0).cell (bxj.c 4 (.slice A4 L4 c4) rfl)))
  have t1j_5 := fun (o0 : Obj) => ((Ext.alloc w3 o0).cell (bxj.c 5 (.slice B4 M4 d4) rfl))
  have t2j_5 := fun (o0 : Obj) (o1 : Obj) => ((Ext.alloc (w3.alloc o0) o1).cell ((Ext.alloc w3 o0).cell (bxj.c 5 (.slice B4 M4 d4) rfl)))
  have t1r_0 := fun (o0 : Obj) => ((Ext.alloc w3 o0).cell (bxr.c 0 (.bool false) rfl))
  have t2r_0 := fun (o0 : Obj) (o1 : Obj) => ((Ext.alloc (w3.alloc o0) o1).cell ((Ext.alloc w3 o0).cell (bxr.c 0 (.bool false) rfl)))
  have t1r_1 := fun (o0 : Obj) => ((Ext.alloc w3 o0).cell (bxr.c 1 (.slice none 0 0) rfl))
  have t2r_1 := fun (o0 : Obj) (o1 : Obj) => ((Ext.alloc (w3.alloc o0) o1).cell ((Ext.alloc w3 o0).cell (bxr.c 1 (.slice none 0 0) rfl)))
  have t1r_2 := fun (o0 : Obj) => ((Ext.alloc w3 o0).cell (bxr.c 2 (.slice none 0 0) rfl))
  have t2r_2 := fun (o0 : Obj) (o1 : Obj) => ((Ext.alloc (w3.alloc o0) o1).cell ((Ext.alloc w3 o0).cell (bxr.c 2 (.slice none 0 0) rfl)))
  have t1r_3 := fun (o0 : Obj) => ((Ext.alloc w3 o0).cell (bxr.c 3 (.bool false) rfl))
  have t2r_3 := fun (o0 : Obj) (o1 : Obj) => ((Ext.alloc (w3.alloc o0) o1).cell ((Ext.alloc w3 o0).cell (bxr.c 3 (.bool false) rfl)))
  have t1r_4 := fun (o0 : Obj) => ((Ext.alloc w3 o0).cell (bxr.c 4 (.slice none 0 0) rfl))
  have t2r_4 := fun (o0 : Obj) (o1 : Obj) => ((Ext.alloc (w3.alloc o0) o1).cell ((Ext.alloc w3 o0).cell (bxr.c 4 (.slice none 0 0) rfl)))
  have t1r_5 := fun (o0 : Obj) => ((Ext.alloc w3 o0).cell (bxr.c 5 (.slice none 0 0) rfl))
  have t2r_5 := fun (o0 : Obj) (o1 : Obj) => ((Ext.alloc (w3.alloc o0) o1).cell ((Ext.alloc w3 o0).cell (bxr.c 5 (.slice none 0 0) rfl)))
  have t1la_0 := fun (o0 : Obj) => ((Ext.alloc w3 o0).cell (bxla.c 0 (.bool spa) rfl))
  have t2la_0 := fun (o0 : Obj) (o1 : Obj) => ((Ext.alloc (w3.alloc o0) o1).cell ((Ext.alloc w3 o0).cell (bxla.c 0 (.bool spa) rfl)))
  have t1la_1 := fun (o0 : Obj) => ((Ext.alloc w3 o0).cell (bxla.c 1 (.slice Apa Lpa cpa) rfl))
  have t2la_1 := fun (o0 : Obj) (o1 : Obj) => ((Ext.alloc (w3.alloc o0) o1).cell ((Ext.alloc w3 o0).cell (bxla.c 1 (.slice Apa Lpa cpa) rfl)))
  have t1la_2 := fun (o0 : Obj) => ((Ext.alloc w3 o0).cell (bxla.c 2 (.slice Bpa Mpa dpa) rfl))
  have t2la_2 := fun (o0 : Obj) (o1 : Obj) => ((Ext.alloc (w3.alloc o0) o1).cell ((Ext.alloc w3 o0).cell (bxla.c 2 (.slice Bpa Mpa dpa) rfl)))
  have t1ha_0 := fun (o0 : Obj) => ((Ext.alloc w3 o0).cell (bxha.c 0 (.bool spb) rfl))
  have t2ha_0 := fun (o0 : Obj) (o1 : Obj) => ((Ext.alloc (w3.alloc o0) o1).cell ((Ext.alloc w3 o0).cell (bxha.c 0 (.bool spb) rfl)))
  have t1ha_1 := fun (o0 : Obj) => ((Ext.alloc w3 o0).cell (bxha.c 1 (.slice Apb Lpb cpb) rfl))
  have t2ha_1 := fun (o0 : Obj) (o1 : Obj) => ((Ext.alloc (w3.alloc o0) o1).cell ((Ext.alloc w3 o0).cell (bxha.c 1 (.slice Apb Lpb cpb) rfl)))
  have t1ha_2 := fun (o0 : Obj) => ((Ext.alloc w3 o0).cell (bxha.c 2 (.slice Bpb Mpb dpb) rfl))
  have t2ha_2 := fun (o0 : Obj) (o1 : Obj) => ((Ext.alloc (w3.alloc o0) o1).cell ((Ext.alloc w3 o0).cell (bxha.c 2 (.slice Bpb Mpb dpb) rfl)))
  go_wp2_with fail
  clear ki_0 ki_1 ki_2 ki_3 ki_4 ki_5 kj_0 kj_1 kj_2 kj_3 kj_4 kj_5 kr_0 kr_1 kr_2 kr_3 kr_4 kr_5 kla_0 kla_1 kla_2 kha_0 kha_1 kha_2 t1i_0 t2i_0 t1i_1 t2i_1 t1i_2 t2i_2 t1i_3 t2i_3 t1i_4 t2i_4 t1i_5 t2i_5 t1j_0 t2j_0 t1j_1 t2j_1 t1j_2 t2j_2 t1j_3 t2j_3 t1j_4 t2j_4 t1j_5 t2j_5 t1r_0 t2r_0 t1r_1 t2r_1 t1r_2 t2r_2 t1r_3 t2r_3 t1r_4 t2r_4 t1r_5 t2r_5 t1la_0 t2la_0 t1la_1 t2la_1 t1la_2 t2la_2 t1ha_0 t2ha_0 t1ha_1 t2ha_1 t1ha_2 t2ha_2
  obtain ⟨w4, hw⟩ : ∃ z : World, z = ((w3.alloc (.cells #[.bool sqa, .slice Aqa Lqa cqa, .slice Bqa Mqa dqa] 27)).alloc (.cells #[.bool sqb, .slice Aqb Lqb cqb, .slice Bqb Mqb dqb] 27)) := ⟨_, rfl⟩
  rw [← hw]
  have x4 : Ext w3 w4 := by rw [hw]; exact ((Ext.alloc _ _).trans (Ext.alloc _ _))
  replace bxi := bxi.ext x4
  replace bxj := bxj.ext x4
  replace bxr := bxr.ext x4
  replace bxla := bxla.ext x4
  replace bxha := bxha.ext x4
  have bxlb : BK w4 (w3.heap.size) 27 #[.bool sqa, .slice Aqa Lqa cqa, .slice Bqa Mqa dqa] := by rw [hw]; have h5 := (BK.ext (BK.new w3 #[.bool sqa, .slice Aqa Lqa cqa, .slice Bqa Mqa dqa] 27) (Ext.alloc _ (.cells #[.bool sqb, .slice Aqb Lqb cqb, .slice Bqb Mqb dqb] 27))); simpa only [World.size_alloc] using h5
  have bxhb : BK w4 (w3.heap.size + 1) 27 #[.bool sqb, .slice Aqb Lqb cqb, .slice Bqb Mqb dqb] := by rw [hw]; have h5 := (BK.new (w3.alloc (.cells #[.bool sqa, .slice Aqa Lqa cqa, .slice Bqa Mqa dqa] 27)) #[.bool sqb, .slice Aqb Lqb cqb, .slice Bqb Mqb dqb] 27); simpa only [World.size_alloc] using h5
  have szw4 : w4.heap.size = w3.heap.size + 1 + 1 := by rw [hw]; simp only [World.size_alloc]
  clear hw
  have qa := Hq.out.1
  have qb := Hq.out.2
  clear Hq
  have HQ := Lib.hid (And.intro qa qb)
  clear qa qb
  have ki_0 := bxi.c 0 (.bool s1) rfl
  have ki_1 := bxi.c 1 (.slice A1 L1 c1) rfl
  have ki_2 := bxi.c 2 (.slice B1 M1 d1) rfl
  have ki_3 := bxi.c 3 (.bool s2) rfl
  have ki_4 := bxi.c 4 (.slice A2 L2 c2) rfl
  have ki_5 := bxi.c 5 (.slice B2 M2 d2) rfl
  have kj_0 := bxj.c 0 (.bool s3) rfl
  have kj_1 := bxj.c 1 (.slice A3 L3 c3) rfl
  have kj_2 := bxj.c 2 (.slice B3 M3 d3) rfl
  have kj_3 := bxj.c 3 (.bool s4) rfl
  have kj_4 := bxj.c 4 (.slice A4 L4 c4) rfl
  have kj_5 := bxj.c 5 (.slice B4 M4 d4) rfl
  have kr_0 := bxr.c 0 (.bool false) rfl
  have fr_0 := bxr.f 0
  have kr_1 := bxr.c 1 (.slice none 0 0) rfl
  have fr_1 := bxr.f 1
  have kr_2 := bxr.c 2 (.slice none 0 0) rfl
  have fr_2 := bxr.f 2
  have kr_3 := bxr.c 3 (.bool false) rfl
  have fr_3 := bxr.f 3
  have kr_4 := bxr.c 4 (.slice none 0 0) rfl
  have fr_4 := bxr.f 4
  have kr_5 := bxr.c 5 (.slice none 0 0) rfl
  have fr_5 := bxr.f 5
  have kla_0 := bxla.c 0 (.bool spa) rfl
  have kla_1 := bxla.c 1 (.slice Apa Lpa cpa) rfl
  have kla_2 := bxla.c 2 (.slice Bpa Mpa dpa) rfl
  have kha_0 := bxha.c 0 (.bool spb) rfl
  have kha_1 := bxha.c 1 (.slice Apb Lpb cpb) rfl
  have kha_2 := bxha.c 2 (.slice Bpb Mpb dpb) rfl
  have klb_0 := bxlb.c 0 (.bool sqa) rfl
  have klb_1 := bxlb.c 1 (.slice Aqa Lqa cqa) rfl
  have klb_2 := bxlb.c 2 (.slice Bqa Mqa dqa) rfl
  have khb_0 := bxhb.c 0 (.bool sqb) rfl
  have khb_1 := bxhb.c 1 (.slice Aqb Lqb cqb) rfl
  have khb_2 := bxhb.c 2 (.slice Bqb Mqb dqb) rfl
  go_wp2_with fail
  have HK : Hid (∀ w', Ext w4 w' → (w'.cell? ⟨w1.heap.size, 0, none⟩ = some (.bool spa) ∧ w'.cell? ⟨w1.heap.size, 1, none⟩ = some (.slice Apa Lpa cpa) ∧ w'.cell? ⟨w1.heap.size, 2, none⟩ = some (.slice Bpa Mpa dpa) ∧ w'.cell? ⟨w1.heap.size + 1, 0, none⟩ = some (.bool spb) ∧ w'.cell? ⟨w1.heap.size + 1, 1, none⟩ = some (.slice Apb Lpb cpb) ∧ w'.cell? ⟨w1.heap.size + 1, 2, none⟩ = some (.slice Bpb Mpb dpb) ∧ w'.cell? ⟨w3.heap.size, 0, none⟩ = some (.bool sqa) ∧ w'.cell? ⟨w3.heap.size, 1, none⟩ = some (.slice Aqa Lqa cqa) ∧ w'.cell? ⟨w3.heap.size, 2, none⟩ = some (.slice Bqa Mqa dqa) ∧ w'.cell? ⟨w3.heap.size + 1, 0, none⟩ = some (.bool sqb) ∧ w'.cell? ⟨w3.heap.size + 1, 1, none⟩ = some (.slice Aqb Lqb cqb) ∧ w'.cell? ⟨w3.heap.size + 1, 2, none⟩ = some (.slice Bqb Mqb dqb))) := fun w' hk => ⟨hk.cell kla_0, hk.cell kla_1, hk.cell kla_2, hk.cell kha_0, hk.cell kha_1, hk.cell kha_2, hk.cell klb_0, hk.cell klb_1, hk.cell klb_2, hk.cell khb_0, hk.cell khb_1, hk.cell khb_2⟩
  have nerla : w.heap.size + 1 + 1 ≠ w1.heap.size := by omega
  have nerha : w.heap.size + 1 + 1 ≠ w1.heap.size + 1 := by omega
  have nerlb : w.heap.size + 1 + 1 ≠ w3.heap.size := by omega
  have nerhb : w.heap.size + 1 + 1 ≠ w3.heap.size + 1 := by omega
  have HSr : Hid (∀ (w' : World) (i : Nat) (u : Value), (w'.cell? ⟨w1.heap.size, 0, none⟩ = some (.bool spa) ∧ w'.cell? ⟨w1.heap.size, 1, none⟩ = some (.slice Apa Lpa cpa) ∧ w'.cell? ⟨w1.heap.size, 2, none⟩ = some (.slice Bpa Mpa dpa) ∧ w'.cell? ⟨w1.heap.size + 1, 0, none⟩ = some (.bool spb) ∧ w'.cell? ⟨w1.heap.size + 1, 1, none⟩ = some (.slice Apb Lpb cpb) ∧ w'.cell? ⟨w1.heap.size + 1, 2, none⟩ = some (.slice Bpb Mpb dpb) ∧ w'.cell? ⟨w3.heap.size, 0, none⟩ = some (.bool sqa) ∧ w'.cell? ⟨w3.heap.size, 1, none⟩ = some (.slice Aqa Lqa cqa) ∧ w'.cell? ⟨w3.heap.size, 2, none⟩ = some (.slice Bqa Mqa dqa) ∧ w'.cell? ⟨w3.heap.size + 1, 0, none⟩ = some (.bool sqb) ∧ w'.cell? ⟨w3.heap.size + 1, 1, none⟩ = some (.slice Aqb Lqb cqb) ∧ w'.cell? ⟨w3.heap.size + 1, 2, none⟩ = some (.slice Bqb Mqb dqb)) → ((fun (w' : World) => (w'.cell? ⟨w1.heap.size, 0, none⟩ = some (.bool spa) ∧ w'.cell? ⟨w1.heap.size, 1, none⟩ = some (.slice Apa Lpa cpa) ∧ w'.cell? ⟨w1.heap.size, 2, none⟩ = some (.slice Bpa Mpa dpa) ∧ w'.cell? ⟨w1.heap.size + 1, 0, none⟩ = some (.bool spb) ∧ w'.cell? ⟨w1.heap.size + 1, 1, none⟩ = some (.slice Apb Lpb cpb) ∧ w'.cell? ⟨w1.heap.size + 1, 2, none⟩ = some (.slice Bpb Mpb dpb) ∧ w'.cell? ⟨w3.heap.size, 0, none⟩ = some (.bool sqa) ∧ w'.cell? ⟨w3.heap.size, 1, none⟩ = some (.slice Aqa Lqa cqa) ∧ w'.cell? ⟨w3.heap.size, 2, none⟩ = some (.slice Bqa Mqa dqa) ∧ w'.cell? ⟨w3.heap.size + 1, 0, none⟩ = some (.bool sqb) ∧ w'.cell? ⟨w3.heap.size + 1, 1, none⟩ = some (.slice Aqb Lqb cqb) ∧ w'.cell? ⟨w3.heap.size + 1, 2, none⟩ = some (.slice Bqb Mqb dqb))) (w'.setCell ⟨w.heap.size + 1 + 1, i, none⟩ u))) := fun w' i u hs => ⟨cell_far nerla hs.1, cell_far nerla hs.2.1, cell_far nerla hs.2.2.1, cell_far nerha hs.2.2.2.1, cell_far nerha hs.2.2.2.2.1, cell_far nerha hs.2.2.2.2.2.1, cell_far nerlb hs.2.2.2.2.2.2.1, cell_far nerlb hs.2.2.2.2.2.2.2.1, cell_far nerlb hs.2.2.2.2.2.2.2.2.1, cell_far nerhb hs.2.2.2.2.2.2.2.2.2.1, cell_far nerhb hs.2.2.2.2.2.2.2.2.2.2.1, cell_far nerhb hs.2.2.2.2.2.2.2.2.2.2.2⟩
  go_region_held3 (fun w' => w'.cell? ⟨w1.heap.size, 0, none⟩ = some (.bool spa) ∧ w'.cell? ⟨w1.heap.size, 1, none⟩ = some (.slice Apa Lpa cpa) ∧ w'.cell? ⟨w1.heap.size, 2, none⟩ = some (.slice Bpa Mpa dpa) ∧ w'.cell? ⟨w1.heap.size + 1, 0, none⟩ = some (.bool spb) ∧ w'.cell? ⟨w1.heap.size + 1, 1, none⟩ = some (.slice Apb Lpb cpb) ∧ w'.cell? ⟨w1.heap.size + 1, 2, none⟩ = some (.slice Bpb Mpb dpb) ∧ w'.cell? ⟨w3.heap.size, 0, none⟩ = some (.bool sqa) ∧ w'.cell? ⟨w3.heap.size, 1, none⟩ = some (.slice Aqa Lqa cqa) ∧ w'.cell? ⟨w3.heap.size, 2, none⟩ = some (.slice Bqa Mqa dqa) ∧ w'.cell? ⟨w3.heap.size + 1, 0, none⟩ = some (.bool sqb) ∧ w'.cell? ⟨w3.heap.size + 1, 1, none⟩ = some (.slice Aqb Lqb cqb) ∧ w'.cell? ⟨w3.heap.size + 1, 2, none⟩ = some (.slice Bqb Mqb dqb))
    (((repeat (first | (with_reducible refine HSr.out _ _ _ ?_))); (with_reducible refine HK.out _ ?_; (with_reducible repeat' first | exact Ext.refl _ | assumption | apply Ext.alloc_r | apply Ext.drew_r | apply Ext.drewN_r | refine Ext.trans ?_ ‹Ext _ _›))))
    (first
      | (go_at_call_of 61 (#[Value.agg #[Value.bool spb, Value.slice Apb Lpb cpb, Value.slice Bpb Mpb dpb], Value.agg #[Value.bool sqb, Value.slice Aqb Lqb cqb, Value.slice Bqb Mqb dqb]]); have hgd := u; clear hgd; refine (greater_r ((HP.out.2.ext (by with_reducible repeat' first | exact Ext.refl _ | assumption | apply Ext.alloc_r | apply Ext.drew_r | apply Ext.drewN_r | refine Ext.trans ?_ ‹Ext _ _›)).mono (g' := w.heap.size) (by first | omega | (simp only [World.size_drew]; omega))) ((HQ.out.2.ext (by with_reducible repeat' first | exact Ext.refl _ | assumption | apply Ext.alloc_r | apply Ext.drew_r | apply Ext.drewN_r | refine Ext.trans ?_ ‹Ext _ _›)).mono (by omega)) hN).mono ?_; rintro e w6 ⟨sv, Av, cv, Lv, Bv, dv, Mv, rfl, v, x6⟩; have yl : Ext w4 w6 := (by with_reducible repeat' first | exact Ext.refl _ | assumption | apply Ext.alloc_r | apply Ext.drew_r | apply Ext.drewN_r | refine Ext.trans ?_ ‹Ext _ _›); have cr_0 := (bxr.ext yl).c 0 (.bool false) rfl; have gr_0 := (bxr.ext yl).f 0; have cr_1 := (bxr.ext yl).c 1 (.slice none 0 0) rfl; have gr_1 := (bxr.ext yl).f 1; have cr_2 := (bxr.ext yl).c 2 (.slice none 0 0) rfl; have gr_2 := (bxr.ext yl).f 2; have cr_3 := (bxr.ext yl).c 3 (.bool false) rfl; have gr_3 := (bxr.ext yl).f 3; have cr_4 := (bxr.ext yl).c 4 (.slice none 0 0) rfl; have gr_4 := (bxr.ext yl).f 4; have cr_5 := (bxr.ext yl).c 5 (.slice none 0 0) rfl; have gr_5 := (bxr.ext yl).f 5)
      | (go_at_call_of 60 (#[Value.agg #[Value.bool spa, Value.slice Apa Lpa cpa, Value.slice Bpa Mpa dpa], Value.agg #[Value.bool sqa, Value.slice Aqa Lqa cqa, Value.slice Bqa Mqa dqa]]); refine (lesser_r ((HP.out.1.ext (by with_reducible repeat' first | exact Ext.refl _ | assumption | apply Ext.alloc_r | apply Ext.drew_r | apply Ext.drewN_r | refine Ext.trans ?_ ‹Ext _ _›)).mono (g' := w.heap.size) (by first | omega | (simp only [World.size_drew]; omega))) ((HQ.out.1.ext (by with_reducible repeat' first | exact Ext.refl _ | assumption | apply Ext.alloc_r | apply Ext.drew_r | apply Ext.drewN_r | refine Ext.trans ?_ ‹Ext _ _›)).mono (by omega)) hN).mono ?_; rintro e w5 ⟨su, Au, cu, Lu, Bu, du, Mu, rfl, u, x5⟩))
  clear ki_0 ki_1 ki_2 ki_3 ki_4 ki_5 kj_0 kj_1 kj_2 kj_3 kj_4 kj_5 kr_0 fr_0 kr_1 fr_1 kr_2 fr_2 kr_3 fr_3 kr_4 fr_4 kr_5 fr_5 kla_0 kla_1 kla_2 kha_0 kha_1 kha_2 klb_0 klb_1 klb_2 khb_0 khb_1 khb_2
  clear HK HSr nerla nerha nerlb nerhb
  clear cr_0 gr_0
  clear cr_1 gr_1
  clear cr_2 gr_2
  clear cr_3 gr_3
  clear cr_4 gr_4
  clear cr_5 gr_5
  clear yl
  have szw5 : w4.heap.size ≤ w5.heap.size := (show Ext w4 w5 from (by with_reducible repeat' first | exact Ext.refl _ | assumption | apply Ext.alloc_r | apply Ext.drew_r | apply Ext.drewN_r | refine Ext.trans ?_ ‹Ext _ _›)).size
  have xhw6 : Ext w4 w6 := (by with_reducible repeat' first | exact Ext.refl _ | assumption | apply Ext.alloc_r | apply Ext.drew_r | apply Ext.drewN_r | refine Ext.trans ?_ ‹Ext _ _›)
  have szw6 : w4.heap.size ≤ w6.heap.size := xhw6.size
  replace bxi := bxi.ext xhw6
  replace bxj := bxj.ext xhw6
  replace bxr := bxr.ext xhw6
  replace bxla := bxla.ext xhw6
  replace bxha := bxha.ext xhw6
  replace bxlb := bxlb.ext xhw6
  replace bxhb := bxhb.ext xhw6
  have u2 := (u.ext (show Ext _ w6 from (by with_reducible repeat' first | exact Ext.refl _ | assumption | apply Ext.alloc_r | apply Ext.drew_r | apply Ext.drewN_r | refine Ext.trans ?_ ‹Ext _ _›))).mono (show w.heap.size ≤ _ by first | omega | (simp only [World.size_drew]; omega))
  have v2 := v.mono (show w.heap.size ≤ _ by first | omega | (simp only [World.size_drew]; omega))
  clear u v
  obtain ⟨w7, hw⟩ : ∃ z : World, z = ((((((w6.setCell ⟨w.heap.size + 1 + 1, 0, none⟩ (.bool su)).setCell ⟨w.heap.size + 1 + 1, 1, none⟩ (.slice Au Lu cu)).setCell ⟨w.heap.size + 1 + 1, 2, none⟩ (.slice Bu Mu du)).setCell ⟨w.heap.size + 1 + 1, 3, none⟩ (.bool sv)).setCell ⟨w.heap.size + 1 + 1, 4, none⟩ (.slice Av Lv cv)).setCell ⟨w.heap.size + 1 + 1, 5, none⟩ (.slice Bv Mv dv)) := ⟨_, rfl⟩
  rw [← hw]
  have kw7 : Kept w6 w7 := by rw [hw]; exact (Kept.set_ (Kept.set_ (Kept.set_ (Kept.set_ (Kept.set_ (Kept.set_ (Kept.refl _) bxr.isBox plain_iv) (IsBox.set_ bxr.isBox) plain_iv) (IsBox.set_ (IsBox.set_ bxr.isBox)) plain_iv) (IsBox.set_ (IsBox.set_ (IsBox.set_ bxr.isBox))) plain_iv) (IsBox.set_ (IsBox.set_ (IsBox.set_ (IsBox.set_ bxr.isBox)))) plain_iv) (IsBox.set_ (IsBox.set_ (IsBox.set_ (IsBox.set_ (IsBox.set_ bxr.isBox))))) plain_iv)
  have nbi : BK w7 (w.heap.size) 29 #[.bool s1, .slice A1 L1 c1, .slice B1 M1 d1, .bool s2, .slice A2 L2 c2, .slice B2 M2 d2] := by rw [hw]; exact (BK.far (BK.far (BK.far (BK.far (BK.far (BK.far bxi (show w.heap.size ≠ w.heap.size + 1 + 1 by omega) 0 _) (show w.heap.size ≠ w.heap.size + 1 + 1 by omega) 1 _) (show w.heap.size ≠ w.heap.size + 1 + 1 by omega) 2 _) (show w.heap.size ≠ w.heap.size + 1 + 1 by omega) 3 _) (show w.heap.size ≠ w.heap.size + 1 + 1 by omega) 4 _) (show w.heap.size ≠ w.heap.size + 1 + 1 by omega) 5 _)
  have nbj : BK w7 (w.heap.size + 1) 29 #[.bool s3, .slice A3 L3 c3, .slice B3 M3 d3, .bool s4, .slice A4 L4 c4, .slice B4 M4 d4] := by rw [hw]; exact (BK.far (BK.far (BK.far (BK.far (BK.far (BK.far bxj (show w.heap.size + 1 ≠ w.heap.size + 1 + 1 by omega) 0 _) (show w.heap.size + 1 ≠ w.heap.size + 1 + 1 by omega) 1 _) (show w.heap.size + 1 ≠ w.heap.size + 1 + 1 by omega) 2 _) (show w.heap.size + 1 ≠ w.heap.size + 1 + 1 by omega) 3 _) (show w.heap.size + 1 ≠ w.heap.size + 1 + 1 by omega) 4 _) (show w.heap.size + 1 ≠ w.heap.size + 1 + 1 by omega) 5 _)
  have nbr : BK w7 (w.heap.size + 1 + 1) 29 #[.bool su, .slice Au Lu cu, .slice Bu Mu du, .bool sv, .slice Av Lv cv, .slice Bv Mv dv] := by rw [hw]; exact (BK.set (i := 5) (u := .slice Bv Mv dv) (vs' := #[.bool su, .slice Au Lu cu, .slice Bu Mu du, .bool sv, .slice Av Lv cv, .slice Bv Mv dv]) (BK.set (i := 4) (u := .slice Av Lv cv) (vs' := #[.bool su, .slice Au Lu cu, .slice Bu Mu du, .bool sv, .slice Av Lv cv, .slice none 0 0]) (BK.set (i := 3) (u := .bool sv) (vs' := #[.bool su, .slice Au Lu cu, .slice Bu Mu du, .bool sv, .slice none 0 0, .slice none 0 0]) (BK.set (i := 2) (u := .slice Bu Mu du) (vs' := #[.bool su, .slice Au Lu cu, .slice Bu Mu du, .bool false, .slice none 0 0, .slice none 0 0]) (BK.set (i := 1) (u := .slice Au Lu cu) (vs' := #[.bool su, .slice Au Lu cu, .slice none 0 0, .bool false, .slice none 0 0, .slice none 0 0]) (BK.set (i := 0) (u := .bool su) (vs' := #[.bool su, .slice none 0 0, .slice none 0 0, .bool false, .slice none 0 0, .slice none 0 0]) bxr rfl) rfl) rfl) rfl) rfl) rfl)
  have nbla : BK w7 (w1.heap.size) 27 #[.bool spa, .slice Apa Lpa cpa, .slice Bpa Mpa dpa] := by rw [hw]; exact (BK.far (BK.far (BK.far (BK.far (BK.far (BK.far bxla (show w1.heap.size ≠ w.heap.size + 1 + 1 by omega) 0 _) (show w1.heap.size ≠ w.heap.size + 1 + 1 by omega) 1 _) (show w1.heap.size ≠ w.heap.size + 1 + 1 by omega) 2 _) (show w1.heap.size ≠ w.heap.size + 1 + 1 by omega) 3 _) (show w1.heap.size ≠ w.heap.size + 1 + 1 by omega) 4 _) (show w1.heap.size ≠ w.heap.size + 1 + 1 by omega) 5 _)
  have nbha : BK w7 (w1.heap.size + 1) 27 #[.bool spb, .slice Apb Lpb cpb, .slice Bpb Mpb dpb] := by rw [hw]; exact (BK.far (BK.far (BK.far (BK.far (BK.far (BK.far bxha (show w1.heap.size + 1 ≠ w.heap.size + 1 + 1 by omega) 0 _) (show w1.heap.size + 1 ≠ w.heap.size + 1 + 1 by omega) 1 _) (show w1.heap.size + 1 ≠ w.heap.size + 1 + 1 by omega) 2 _) (show w1.heap.size + 1 ≠ w.heap.size + 1 + 1 by omega) 3 _) (show w1.heap.size + 1 ≠ w.heap.size + 1 + 1 by omega) 4 _) (show w1.heap.size + 1 ≠ w.heap.size + 1 + 1 by omega) 5 _)
  have nblb : BK w7 (w3.heap.size) 27 #[.bool sqa, .slice Aqa Lqa cqa, .slice Bqa Mqa dqa] := by rw [hw]; exact (BK.far (BK.far (BK.far (BK.far (BK.far (BK.far bxlb (show w3.heap.size ≠ w.heap.size + 1 + 1 by omega) 0 _) (show w3.heap.size ≠ w.heap.size + 1 + 1 by omega) 1 _) (show w3.heap.size ≠ w.heap.size + 1 + 1 by omega) 2 _) (show w3.heap.size ≠ w.heap.size + 1 + 1 by omega) 3 _) (show w3.heap.size ≠ w.heap.size + 1 + 1 by omega) 4 _) (show w3.heap.size ≠ w.heap.size + 1 + 1 by omega) 5 _)
  have nbhb : BK w7 (w3.heap.size + 1) 27 #[.bool sqb, .slice Aqb Lqb cqb, .slice Bqb Mqb dqb] := by rw [hw]; exact (BK.far (BK.far (BK.far (BK.far (BK.far (BK.far bxhb (show w3.heap.size + 1 ≠ w.heap.size + 1 + 1 by omega) 0 _) (show w3.heap.size + 1 ≠ w.heap.size + 1 + 1 by omega) 1 _) (show w3.heap.size + 1 ≠ w.heap.size + 1 + 1 by omega) 2 _) (show w3.heap.size + 1 ≠ w.heap.size + 1 + 1 by omega) 3 _) (show w3.heap.size + 1 ≠ w.heap.size + 1 + 1 by omega) 4 _) (show w3.heap.size + 1 ≠ w.heap.size + 1 + 1 by omega) 5 _)
  have x7 : Ext w w7 := by rw [hw]; have hxp : Ext w w6 := (by with_reducible repeat' first | exact Ext.refl _ | assumption | apply Ext.alloc_r | apply Ext.drew_r | apply Ext.drewN_r | refine Ext.trans ?_ ‹Ext _ _›); exact (Ext.set_ (Ext.set_ (Ext.set_ (Ext.set_ (Ext.set_ (Ext.set_ hxp (show _ ≤ w.heap.size + 1 + 1 by omega)) (show _ ≤ w.heap.size + 1 + 1 by omega)) (show _ ≤ w.heap.size + 1 + 1 by omega)) (show _ ≤ w.heap.size + 1 + 1 by omega)) (show _ ≤ w.heap.size + 1 + 1 by omega)) (show _ ≤ w.heap.size + 1 + 1 by omega))
  clear bxi
  clear bxj
  clear bxr
  clear bxla
  clear bxha
  clear bxlb
  clear bxhb
  have bxi := nbi
  clear nbi
  have bxj := nbj
  clear nbj
  have bxr := nbr
  clear nbr
  have bxla := nbla
  clear nbla
  have bxha := nbha
  clear nbha
  have bxlb := nblb
  clear nblb
  have bxhb := nbhb
  clear nbhb
  have szw7 : w7.heap.size = w6.heap.size := by rw [hw]; simp
  replace u2 := (u2.ext (by with_reducible repeat' first | exact Ext.refl _ | assumption | apply Ext.alloc_r | apply Ext.drew_r | apply Ext.drewN_r | refine Ext.trans ?_ ‹Ext _ _›)).kept kw7
  replace v2 := (v2.ext (by with_reducible repeat' first | exact Ext.refl _ | assumption | apply Ext.alloc_r | apply Ext.drew_r | apply Ext.drewN_r | refine Ext.trans ?_ ‹Ext _ _›)).kept kw7
  clear hw kw7
  have HU := Lib.hid u2
  have HV := Lib.hid v2
  clear u2 v2
  have ki_0 := bxi.c 0 (.bool s1) rfl
  have ki_1 := bxi.c 1 (.slice A1 L1 c1) rfl
  have ki_2 := bxi.c 2 (.slice B1 M1 d1) rfl
  have ki_3 := bxi.c 3 (.bool s2) rfl
  have ki_4 := bxi.c 4 (.slice A2 L2 c2) rfl
  have ki_5 := bxi.c 5 (.slice B2 M2 d2) rfl
  have kj_0 := bxj.c 0 (.bool s3) rfl
  have kj_1 := bxj.c 1 (.slice A3 L3 c3) rfl
  have kj_2 := bxj.c 2 (.slice B3 M3 d3) rfl
  have kj_3 := bxj.c 3 (.bool s4) rfl
  have kj_4 := bxj.c 4 (.slice A4 L4 c4) rfl
  have kj_5 := bxj.c 5 (.slice B4 M4 d4) rfl
  have kr_0 := bxr.c 0 (.bool su) rfl
  have kr_1 := bxr.c 1 (.slice Au Lu cu) rfl
  have kr_2 := bxr.c 2 (.slice Bu Mu du) rfl
  have kr_3 := bxr.c 3 (.bool sv) rfl
  have kr_4 := bxr.c 4 (.slice Av Lv cv) rfl
  have kr_5 := bxr.c 5 (.slice Bv Mv dv) rfl
  have kla_0 := bxla.c 0 (.bool spa) rfl
  have kla_1 := bxla.c 1 (.slice Apa Lpa cpa) rfl
  have kla_2 := bxla.c 2 (.slice Bpa Mpa dpa) rfl
  have kha_0 := bxha.c 0 (.bool spb) rfl
  have kha_1 := bxha.c 1 (.slice Apb Lpb cpb) rfl
  have kha_2 := bxha.c 2 (.slice Bpb Mpb dpb) rfl
  have klb_0 := bxlb.c 0 (.bool sqa) rfl
  have klb_1 := bxlb.c 1 (.slice Aqa Lqa cqa) rfl
  have klb_2 := bxlb.c 2 (.slice Bqa Mqa dqa) rfl
  have khb_0 := bxhb.c 0 (.bool sqb) rfl
  have khb_1 := bxhb.c 1 (.slice Aqb Lqb cqb) rfl
  have khb_2 := bxhb.c 2 (.slice Bqb Mqb dqb) rfl
  go_wp2_with fail
  clear ki_0 ki_1 ki_2 ki_3 ki_4 ki_5 kj_0 kj_1 kj_2 kj_3 kj_4 kj_5 kr_0 kr_1 kr_2 kr_3 kr_4 kr_5 kla_0 kla_1 kla_2 kha_0 kha_1 kha_2 klb_0 klb_1 klb_2 khb_0 khb_1 khb_2
  have kr_0 := bxr.c 0 (.bool su) rfl
  have kr_1 := bxr.c 1 (.slice Au Lu cu) rfl
  have kr_2 := bxr.c 2 (.slice Bu Mu du) rfl
  have kr_3 := bxr.c 3 (.bool sv) rfl
  have kr_4 := bxr.c 4 (.slice Av Lv cv) rfl
  have kr_5 := bxr.c 5 (.slice Bv Mv dv) rfl
  refine bodyPost_ret (v := Value.agg #[Value.bool su, Value.slice Au Lu cu, Value.slice Bu Mu du, Value.bool sv, Value.slice Av Lv cv, Value.slice Bv Mv dv]) (by simp [results, Tryz.results39, go_sem, kr_0, kr_1, kr_2, kr_3, kr_4, kr_5]) rfl ?_
  exact ⟨_, _, _, _, _, _, _, _, _, _, _, _, _, _, rfl, HU.out, HV.out, x7⟩
set_option maxHeartbeats 4000000 in
set_option maxRecDepth 100000 in
theorem iwidth_r {w : World} {N : Nat} {s1 s2 : Bool} {A1 B1 A2 B2 : Option Addr} {c1 d1 L1 M1 c2 d2 L2 M2 : Nat} {q1 q2 : Rat} (h1 : RV w s1 A1 c1 L1 B1 d1 M1 N q1) (h2 : RV w s2 A2 c2 L2 B2 d2 M2 N q2) (hN : N < 48) :
    Calls Tryz.prog 31 #[Value.agg #[Value.bool s1, Value.slice A1 L1 c1, Value.slice B1 M1 d1, Value.bool s2, Value.slice A2 L2 c2, Value.slice B2 M2 d2]] w (RetR w (N + N + 1) (maxQ q1 q2 - minQ q1 q2)) := by
  go_enter Tryz.func31, Tryz.ntmps31
  go_wp2_with fail
  obtain ⟨w0, hw0⟩ : ∃ z : World, z = ((w.alloc (.cells #[.bool s1, .slice A1 L1 c1, .slice B1 M1 d1, .bool s2, .slice A2 L2 c2, .slice B2 M2 d2] 29)).alloc (.cells #[.bool false, .slice none 0 0, .slice none 0 0] 27)) := ⟨_, rfl⟩
  rw [← hw0]
  have bxi : BK w0 (w.heap.size) 29 #[.bool s1, .slice A1 L1 c1, .slice B1 M1 d1, .bool s2, .slice A2 L2 c2, .slice B2 M2 d2] := by rw [hw0]; have h5 := (BK.ext (BK.new w #[.bool s1, .slice A1 L1 c1, .slice B1 M1 d1, .bool s2, .slice A2 L2 c2, .slice B2 M2 d2] 29) (Ext.alloc _ (.cells #[.bool false, .slice none 0 0, .slice none 0 0] 27))); simpa only [World.size_alloc] using h5
  have bxr : BK w0 (w.heap.size + 1) 27 #[.bool false, .slice none 0 0, .slice none 0 0] := by rw [hw0]; have h5 := (BK.new (w.alloc (.cells #[.bool s1, .slice A1 L1 c1, .slice B1 M1 d1, .bool s2, .slice A2 L2 c2, .slice B2 M2 d2] 29)) #[.bool false, .slice none 0 0, .slice none 0 0] 27); simpa only [World.size_alloc] using h5
  have hszw0 : w0.heap.size = w.heap.size + 1 + 1 := by rw [hw0]; simp only [World.size_alloc]
  have xw0 : Ext w w0 := by rw [hw0]; exact ((Ext.alloc _ _).trans (Ext.alloc _ _))
  clear hw0
  refine (bounds_r (h1.ext (by with_reducible repeat' first | exact Ext.refl _ | assumption | apply Ext.alloc_r | apply Ext.drew_r | apply Ext.drewN_r | refine Ext.trans ?_ ‹Ext _ _›)) (h2.ext (by with_reducible repeat' first | exact Ext.refl _ | assumption | apply Ext.alloc_r | apply Ext.drew_r | apply Ext.drewN_r | refine Ext.trans ?_ ‹Ext _ _›)) hN).mono ?_
  rintro e w1 ⟨spa, Apa, cpa, Lpa, Bpa, dpa, Mpa, spb, Apb, cpb, Lpb, Bpb, dpb, Mpb, rfl, pa, pb, x1⟩
  have szw1 : w0.heap.size ≤ w1.heap.size := x1.size
  replace bxi := bxi.ext x1
  replace bxr := bxr.ext x1
  have Hp := Lib.hid (And.intro pa pb)
  clear pa pb
  have ki_0 := bxi.c 0 (.bool s1) rfl
  have ki_1 := bxi.c 1 (.slice A1 L1 c1) rfl
  have ki_2 := bxi.c 2 (.slice B1 M1 d1) rfl
  have ki_3 := bxi.c 3 (.bool s2) rfl
  have ki_4 := bxi.c 4 (.slice A2 L2 c2) rfl
  have ki_5 := bxi.c 5 (.slice B2 M2 d2) rfl
  have kr_0 := bxr.c 0 (.bool false) rfl
  have kr_1 := bxr.c 1 (.slice none 0 0) rfl
  have kr_2 := bxr.c 2 (.slice none 0 0) rfl
  have t1i_0 := fun (o0 : Obj) => ((Ext.alloc w1 o0).cell (bxi.c 0 (.bool s1) rfl))
  have t2i_0 := fun (o0 : Obj) (o1 : Obj) => ((Ext.alloc (w1.alloc o0) o1).cell ((Ext.alloc w1 o0).cell (bxi.c 0 (.bool s1) rfl)))
  have t1i_1 := fun (o0 : Obj) => ((Ext.alloc w1 o0).cell (bxi.c 1 (.slice A1 L1 c1) rfl))
  have t2i_1 := fun (o0 : Obj) (o1 : Obj) => ((Ext.alloc (w1.alloc o0) o1).cell ((Ext.alloc w1 o0).cell (bxi.c 1 (.slice A1 L1 c1) rfl)))
  have t1i_2 := fun (o0 : Obj) => ((Ext.alloc w1 o0).cell (bxi.c 2 (.slice B1 M1 d1) rfl))
  have t2i_2 := fun (o0 : Obj) (o1 : Obj) => ((Ext.alloc (w1.alloc o0) o1).cell ((Ext.alloc w1 o0).cell (bxi.c 2 (.slice B1 M1 d1) rfl)))
  have t1i_3 := fun (o0 : Obj) => ((Ext.alloc w1 o0).cell (bxi.c 3 (.bool s2) rfl))
  have t2i_3 := fun (o0 : Obj) (o1 : Obj) => ((Ext.alloc (w1.alloc o0) o1).cell ((Ext.alloc w1 o0).cell (bxi.c 3 (.bool s2) rfl)))
  have t1i_4 := fun (o0 : Obj) => ((Ext.alloc w1 o0).cell (bxi.c 4 (.slice A2 L2 c2) rfl))
  have t2i_4 := fun (o0 : Obj) (o1 : Obj) => ((Ext.alloc (w1.alloc o0) o1).cell ((Ext.alloc w1 o0).cell (bxi.c 4 (.slice A2 L2 c2) rfl)))
  have t1i_5 := fun (o0 : Obj) => ((Ext.alloc w1 o0).cell (bxi.c 5 (.slice B2 M2 d2) rfl))
  have t2i_5 := fun (o0 : Obj) (o1 : Obj) => ((Ext.alloc (w1.alloc o0) o1).cell ((Ext.alloc w1 o0).cell (bxi.c 5 (.slice B2 M2 d2) rfl)))
  have t1r_0 := fun (o0 : Obj) => ((Ext.alloc w1 o0).cell (bxr.c 0 (.bool false) rfl))
  have t2r_0 := fun (o0 : Obj) (o1 : Obj) => ((Ext.alloc (w1.alloc o0) o1).cell ((Ext.alloc w1 o0).cell (bxr.c 0 (.bool false) rfl)))
  have t1r_1 := fun (o0 : Obj) => ((Ext.alloc w1 o0).cell (bxr.c 1 (.slice none 0 0) rfl))
  have t2r_1 := fun (o0 : Obj) (o1 : Obj) => ((Ext.alloc (w1.alloc o0) o1).cell ((Ext.alloc w1 o0).cell (bxr.c 1 (.slice none 0 0) rfl)))
  have t1r_2 := fun (o0 : Obj) => ((Ext.alloc w1 o0).cell (bxr.c 2 (.slice none 0 0) rfl))
  have t2r_2 := fun (o0 : Obj) (o1 : Obj) => ((Ext.alloc (w1.alloc o0) o1).cell ((Ext.alloc w1 o0).cell (bxr.c 2 (.slice none 0 0) rfl)))
  go_wp2_with fail
  clear ki_0 ki_1 ki_2 ki_3 ki_4 ki_5 kr_0 kr_1 kr_2 t1i_0 t2i_0 t1i_1 t2i_1 t1i_2 t2i_2 t1i_3 t2i_3 t1i_4 t2i_4 t1i_5 t2i_5 t1r_0 t2r_0 t1r_1 t2r_1 t1r_2 t2r_2
  obtain ⟨w2, hw⟩ : ∃ z : World, z = ((w1.alloc (.cells #[.bool spa, .slice Apa Lpa cpa, .slice Bpa Mpa dpa] 27)).alloc (.cells #[.bool spb, .slice Apb Lpb cpb, .slice Bpb Mpb dpb] 27)) := ⟨_, rfl⟩
  rw [← hw]
  have x2 : Ext w1 w2 := by rw [hw]; exact ((Ext.alloc _ _).trans (Ext.alloc _ _))
  replace bxi := bxi.ext x2
  replace bxr := bxr.ext x2
  have bxl : BK w2 (w1.heap.size) 27 #[.bool spa, .slice Apa Lpa cpa, .slice Bpa Mpa dpa] := by rw [hw]; have h5 := (BK.ext (BK.new w1 #[.bool spa, .slice Apa Lpa cpa, .slice Bpa Mpa dpa] 27) (Ext.alloc _ (.cells #[.bool spb, .slice Apb Lpb cpb, .slice Bpb Mpb dpb] 27))); simpa only [World.size_alloc] using h5
  have bxh : BK w2 (w1.heap.size + 1) 27 #[.bool spb, .slice Apb Lpb cpb, .slice Bpb Mpb dpb] := by rw [hw]; have h5 := (BK.new (w1.alloc (.cells #[.bool spa, .slice Apa Lpa cpa, .slice Bpa Mpa dpa] 27)) #[.bool spb, .slice Apb Lpb cpb, .slice Bpb Mpb dpb] 27); simpa only [World.size_alloc] using h5
  have szw2 : w2.heap.size = w1.heap.size + 1 + 1 := by rw [hw]; simp only [World.size_alloc]
  clear hw
  have pa := Hp.out.1
  have pb := Hp.out.2
  clear Hp
  have HP := Lib.hid (And.intro pa.rv pb.rv)
  clear pa pb
  refine (rsub_r (HP.out.2.ext (by with_reducible repeat' first | exact Ext.refl _ | assumption | apply Ext.alloc_r | apply Ext.drew_r | apply Ext.drewN_r | refine Ext.trans ?_ ‹Ext _ _›)) (HP.out.1.ext (by with_reducible repeat' first | exact Ext.refl _ | assumption | apply Ext.alloc_r | apply Ext.drew_r | apply Ext.drewN_r | refine Ext.trans ?_ ‹Ext _ _›)) (by omega) (by omega)).mono ?_
  rintro e w3 ⟨sz, Az, cz, Lz, Bz, dz, Mz, rfl, z, x3⟩
  have szw3 : w2.heap.size ≤ w3.heap.size := x3.size
  replace bxi := bxi.ext x3
  replace bxr := bxr.ext x3
  replace bxl := bxl.ext x3
  replace bxh := bxh.ext x3
  have HZ := Lib.hid (z.mono (show w.heap.size ≤ _ by first | omega | (simp only [World.size_drew]; omega)))
  clear z
  have ki_0 := bxi.c 0 (.bool s1) rfl
  have ki_1 := bxi.c 1 (.slice A1 L1 c1) rfl
  have ki_2 := bxi.c 2 (.slice B1 M1 d1) rfl
  have ki_3 := bxi.c 3 (.bool s2) rfl
  have ki_4 := bxi.c 4 (.slice A2 L2 c2) rfl
  have ki_5 := bxi.c 5 (.slice B2 M2 d2) rfl
  have kr_0 := bxr.c 0 (.bool false) rfl
  have fr_0 := bxr.f 0
  have kr_1 := bxr.c 1 (.slice none 0 0) rfl
  have fr_1 := bxr.f 1
  have kr_2 := bxr.c 2 (.slice none 0 0) rfl
  have fr_2 := bxr.f 2
  have kl_0 := bxl.c 0 (.bool spa) rfl
  have kl_1 := bxl.c 1 (.slice Apa Lpa cpa) rfl
  have kl_2 := bxl.c 2 (.slice Bpa Mpa dpa) rfl
  have kh_0 := bxh.c 0 (.bool spb) rfl
  have kh_1 := bxh.c 1 (.slice Apb Lpb cpb) rfl
  have kh_2 := bxh.c 2 (.slice Bpb Mpb dpb) rfl
  go_wp2_with fail
  clear ki_0 ki_1 ki_2 ki_3 ki_4 ki_5 kr_0 fr_0 kr_1 fr_1 kr_2 fr_2 kl_0 kl_1 kl_2 kh_0 kh_1 kh_2
  have z := HZ.out
  clear HZ
  obtain ⟨w4, hw⟩ : ∃ z : World, z = (((w3.setCell ⟨w.heap.size + 1, 0, none⟩ (.bool sz)).setCell ⟨w.heap.size + 1, 1, none⟩ (.slice Az Lz cz)).setCell ⟨w.heap.size + 1, 2, none⟩ (.slice Bz Mz dz)) := ⟨_, rfl⟩
  rw [← hw]
  have kw4 : Kept w3 w4 := by rw [hw]; exact (Kept.set_ (Kept.set_ (Kept.set_ (Kept.refl _) bxr.isBox plain_rat) (IsBox.set_ bxr.isBox) plain_rat) (IsBox.set_ (IsBox.set_ bxr.isBox)) plain_rat)
  have nbi : BK w4 (w.heap.size) 29 #[.bool s1, .slice A1 L1 c1, .slice B1 M1 d1, .bool s2, .slice A2 L2 c2, .slice B2 M2 d2] := by rw [hw]; exact (BK.far (BK.far (BK.far bxi (show w.heap.size ≠ w.heap.size + 1 by omega) 0 _) (show w.heap.size ≠ w.heap.size + 1 by omega) 1 _) (show w.heap.size ≠ w.heap.size + 1 by omega) 2 _)
  have nbr : BK w4 (w.heap.size + 1) 27 #[.bool sz, .slice Az Lz cz, .slice Bz Mz dz] := by rw [hw]; exact (BK.set (i := 2) (u := .slice Bz Mz dz) (vs' := #[.bool sz, .slice Az Lz cz, .slice Bz Mz dz]) (BK.set (i := 1) (u := .slice Az Lz cz) (vs' := #[.bool sz, .slice Az Lz cz, .slice none 0 0]) (BK.set (i := 0) (u := .bool sz) (vs' := #[.bool sz, .slice none 0 0, .slice none 0 0]) bxr rfl) rfl) rfl)
  have nbl : BK w4 (w1.heap.size) 27 #[.bool spa, .slice Apa Lpa cpa, .slice Bpa Mpa dpa] := by rw [hw]; exact (BK.far (BK.far (BK.far bxl (show w1.heap.size ≠ w.heap.size + 1 by omega) 0 _) (show w1.heap.size ≠ w.heap.size + 1 by omega) 1 _) (show w1.heap.size ≠ w.heap.size + 1 by omega) 2 _)
  have nbh : BK w4 (w1.heap.size + 1) 27 #[.bool spb, .slice Apb Lpb cpb, .slice Bpb Mpb dpb] := by rw [hw]; exact (BK.far (BK.far (BK.far bxh (show w1.heap.size + 1 ≠ w.heap.size + 1 by omega) 0 _) (show w1.heap.size + 1 ≠ w.heap.size + 1 by omega) 1 _) (show w1.heap.size + 1 ≠ w.heap.size + 1 by omega) 2 _)
  have x4 : Ext w w4 := by rw [hw]; have hxp : Ext w w3 := (by with_reducible repeat' first | exact Ext.refl _ | assumption | apply Ext.alloc_r | apply Ext.drew_r | apply Ext.drewN_r | refine Ext.trans ?_ ‹Ext _ _›); exact (Ext.set_ (Ext.set_ (Ext.set_ hxp (show _ ≤ w.heap.size + 1 by omega)) (show _ ≤ w.heap.size + 1 by omega)) (show _ ≤ w.heap.size + 1 by omega))
  clear bxi
  clear bxr
  clear bxl
  clear bxh
  have bxi := nbi
  clear nbi
  have bxr := nbr
  clear nbr
  have bxl := nbl
  clear nbl
  have bxh := nbh
  clear nbh
  have szw4 : w4.heap.size = w3.heap.size := by rw [hw]; simp
  replace z := (z.ext (by with_reducible repeat' first | exact Ext.refl _ | assumption | apply Ext.alloc_r | apply Ext.drew_r | apply Ext.drewN_r | refine Ext.trans ?_ ‹Ext _ _›)).kept kw4
  clear hw kw4
  have HZ := Lib.hid z
  clear z
  have kr_0 := bxr.c 0 (.bool sz) rfl
  have kr_1 := bxr.c 1 (.slice Az Lz cz) rfl
  have kr_2 := bxr.c 2 (.slice Bz Mz dz) rfl
  refine bodyPost_ret (v := .agg #[Value.bool sz, Value.slice Az Lz cz, Value.slice Bz Mz dz]) (by simp [results, Tryz.results31, go_sem, kr_0, kr_1, kr_2]) rfl ?_
  exact ⟨_, _, _, _, _, _, _, rfl, HZ.out, x4⟩
end Go.Proofs.YtehhkeenjlpikaaGreat
