/- Contracts of package rational: parts. -/
import Derived.Test.YtfnmbhjifdfibaaRatA
import Derived.Deep.RegionHeldLaw
namespace Go.Proofs.Ytfnmbhjifdfibaa
open Go.RowKit
set_option maxHeartbeats 4000000 in
set_option maxRecDepth 100000 in
theorem parts_r {w : World} {s : Bool} {A B : Option Addr} {c d L M N : Nat} {q : Rat} (h : RV w s A c L B d M N q) :
    Calls Try.prog 57 #[Value.agg #[.bool s, .slice A L c, .slice B M d]] w (RetP w N q) := by
  obtain ⟨x, y, hx, hy, hq, b1, b2⟩ := h.ex
  have hN := h.one
  have HZ : Hid (∀ w', Ext w w' → Calls Try.prog 81 #[.slice B M d] w' fun e w'' => e = .returned (.bool (y == 0)) ∧ w' = w'') := fun w' hx => isZero_v (hy.ext hx)
  have HH := Lib.hid (And.intro hx hy)
  have HQ := Lib.hid hq
  have HB := Lib.hid (And.intro b1 b2)
  clear h hx hy hq b1 b2
  go_enter Try.func57, Try.ntmps57
  go_wp2_with fail
  obtain ⟨w0, hw0⟩ : ∃ z : World, z = (((w.alloc (.cells #[.bool s, .slice A L c, .slice B M d] 27)).alloc (.cells #[.bool false, .slice none 0 0] 25)).alloc (.cells #[.bool false, .slice none 0 0] 25)) := ⟨_, rfl⟩
  rw [← hw0]
  have bxa : BK w0 (w.heap.size) 27 #[.bool s, .slice A L c, .slice B M d] := by rw [hw0]; have h5 := (BK.ext (BK.ext (BK.new w #[.bool s, .slice A L c, .slice B M d] 27) (Ext.alloc _ (.cells #[.bool false, .slice none 0 0] 25))) (Ext.alloc _ (.cells #[.bool false, .slice none 0 0] 25))); simpa only [World.size_alloc] using h5
  have bxn : BK w0 (w.heap.size + 1) 25 #[.bool false, .slice none 0 0] := by rw [hw0]; have h5 := (BK.ext (BK.new (w.alloc (.cells #[.bool s, .slice A L c, .slice B M d] 27)) #[.bool false, .slice none 0 0] 25) (Ext.alloc _ (.cells #[.bool false, .slice none 0 0] 25))); simpa only [World.size_alloc] using h5
  have bxm : BK w0 (w.heap.size + 1 + 1) 25 #[.bool false, .slice none 0 0] := by rw [hw0]; have h5 := (BK.new ((w.alloc (.cells #[.bool s, .slice A L c, .slice B M d] 27)).alloc (.cells #[.bool false, .slice none 0 0] 25)) #[.bool false, .slice none 0 0] 25); simpa only [World.size_alloc] using h5
  have hszw0 : w0.heap.size = w.heap.size + 1 + 1 + 1 := by rw [hw0]; simp only [World.size_alloc]
  have xw0 : Ext w w0 := by rw [hw0]; exact (((Ext.alloc _ _).trans (Ext.alloc _ _)).trans (Ext.alloc _ _))
  clear hw0
  by_cases h0 : y = 0
  · have hy0 : (y == 0) = true := by rw [h0]; rfl
    rw [hy0] at HZ
    have ka_0 := bxa.c 0 (.bool s) rfl
    have ka_1 := bxa.c 1 (.slice A L c) rfl
    have ka_2 := bxa.c 2 (.slice B M d) rfl
    have kn_0 := bxn.c 0 (.bool false) rfl
    have kn_1 := bxn.c 1 (.slice none 0 0) rfl
    have km_0 := bxm.c 0 (.bool false) rfl
    have km_1 := bxm.c 1 (.slice none 0 0) rfl
    go_wp2_with fail
    clear ka_0 ka_1 ka_2 kn_0 kn_1 km_0 km_1
    refine (HZ.out _ xw0).mono ?_
    rintro e w1 ⟨rfl, rfl⟩
    clear HZ
    have ka_0 := bxa.c 0 (.bool s) rfl
    have ka_1 := bxa.c 1 (.slice A L c) rfl
    have ka_2 := bxa.c 2 (.slice B M d) rfl
    have kn_0 := bxn.c 0 (.bool false) rfl
    have fn_0 := bxn.f 0
    have kn_1 := bxn.c 1 (.slice none 0 0) rfl
    have fn_1 := bxn.f 1
    have km_0 := bxm.c 0 (.bool false) rfl
    have fm_0 := bxm.f 0
    have km_1 := bxm.c 1 (.slice none 0 0) rfl
    have fm_1 := bxm.f 1
    go_wp2_with fail
    clear ka_0 ka_1 ka_2 kn_0 fn_0 kn_1 fn_1 km_0 fm_0 km_1 fm_1
    refine (of_z (by omega)).mono ?_
    rintro e w1 ⟨si, Ai, ci, Li, rfl, i, x1⟩
    replace bxa := bxa.ext x1
    replace bxn := bxn.ext x1
    replace bxm := bxm.ext x1
    obtain rfl : si = false := by rw [i.sign]; rfl
    have HI := Lib.hid i
    clear i
    have ka_0 := bxa.c 0 (.bool s) rfl
    have ka_1 := bxa.c 1 (.slice A L c) rfl
    have ka_2 := bxa.c 2 (.slice B M d) rfl
    have kn_0 := bxn.c 0 (.bool false) rfl
    have fn_0 := bxn.f 0
    have kn_1 := bxn.c 1 (.slice none 0 0) rfl
    have fn_1 := bxn.f 1
    have km_0 := bxm.c 0 (.bool false) rfl
    have fm_0 := bxm.f 0
    have km_1 := bxm.c 1 (.slice none 0 0) rfl
    have fm_1 := bxm.f 1
    go_wp2_with fail
    clear ka_0 ka_1 ka_2 kn_0 fn_0 kn_1 fn_1 km_0 fm_0 km_1 fm_1
    replace i := HI.out
    clear HI
    obtain ⟨w2, hw⟩ : ∃ z : World, z = ((((w1.setCell ⟨w.heap.size + 1, 0, none⟩ (.bool false)).setCell ⟨w.heap.size + 1, 1, none⟩ (.slice none 0 0)).setCell ⟨w.heap.size + 1 + 1, 0, none⟩ (.bool false)).setCell ⟨w.heap.size + 1 + 1, 1, none⟩ (.slice Ai Li ci)) := ⟨_, rfl⟩
    rw [← hw]
    have kw2 : Kept w1 w2 := by rw [hw]; exact (Kept.set_ (Kept.set_ (Kept.set_ (Kept.set_ (Kept.refl _) bxn.isBox plain_int) (IsBox.set_ bxn.isBox) plain_int) (IsBox.set_ (IsBox.set_ bxm.isBox)) plain_int) (IsBox.set_ (IsBox.set_ (IsBox.set_ bxm.isBox))) plain_int)
    have nba : BK w2 (w.heap.size) 27 #[.bool s, .slice A L c, .slice B M d] := by rw [hw]; exact (BK.far (BK.far (BK.far (BK.far bxa (show w.heap.size ≠ w.heap.size + 1 by omega) 0 _) (show w.heap.size ≠ w.heap.size + 1 by omega) 1 _) (show w.heap.size ≠ w.heap.size + 1 + 1 by omega) 0 _) (show w.heap.size ≠ w.heap.size + 1 + 1 by omega) 1 _)
    have nbn : BK w2 (w.heap.size + 1) 25 #[.bool false, .slice none 0 0] := by rw [hw]; exact (BK.far (BK.far (BK.set (i := 1) (u := .slice none 0 0) (vs' := #[.bool false, .slice none 0 0]) (BK.set (i := 0) (u := .bool false) (vs' := #[.bool false, .slice none 0 0]) bxn rfl) rfl) (show w.heap.size + 1 ≠ w.heap.size + 1 + 1 by omega) 0 _) (show w.heap.size + 1 ≠ w.heap.size + 1 + 1 by omega) 1 _)
    have nbm : BK w2 (w.heap.size + 1 + 1) 25 #[.bool false, .slice Ai Li ci] := by rw [hw]; exact (BK.set (i := 1) (u := .slice Ai Li ci) (vs' := #[.bool false, .slice Ai Li ci]) (BK.set (i := 0) (u := .bool false) (vs' := #[.bool false, .slice none 0 0]) (BK.far (BK.far bxm (show w.heap.size + 1 + 1 ≠ w.heap.size + 1 by omega) 0 _) (show w.heap.size + 1 + 1 ≠ w.heap.size + 1 by omega) 1 _) rfl) rfl)
    have x2 : Ext w w2 := by rw [hw]; have hxp : Ext w w1 := (by repeat' (first | with_reducible exact Ext.refl _ | with_reducible assumption | with_reducible apply Ext.alloc_r | with_reducible apply Ext.drew_r | with_reducible apply Ext.drewN_r | with_reducible refine Ext.trans ?_ ‹Ext _ _›)); exact (Ext.set_ (Ext.set_ (Ext.set_ (Ext.set_ hxp (show _ ≤ w.heap.size + 1 by omega)) (show _ ≤ w.heap.size + 1 by omega)) (show _ ≤ w.heap.size + 1 + 1 by omega)) (show _ ≤ w.heap.size + 1 + 1 by omega))
    clear bxa
    clear bxn
    clear bxm
    have bxa := nba
    clear nba
    have bxn := nbn
    clear nbn
    have bxm := nbm
    clear nbm
    replace i := i.kept kw2
    clear hw kw2
    have HI := Lib.hid i
    clear i
    have ka_0 := bxa.c 0 (.bool s) rfl
    have ka_1 := bxa.c 1 (.slice A L c) rfl
    have ka_2 := bxa.c 2 (.slice B M d) rfl
    have kn_0 := bxn.c 0 (.bool false) rfl
    have kn_1 := bxn.c 1 (.slice none 0 0) rfl
    have km_0 := bxm.c 0 (.bool false) rfl
    have km_1 := bxm.c 1 (.slice Ai Li ci) rfl
    refine bodyPost_ret (v := .tuple #[.agg #[.bool false, .slice none 0 0], .agg #[.bool false, .slice Ai Li ci]]) (by simp [results, Try.results57, go_sem, kn_0, kn_1, km_0, km_1]) rfl ?_
    exact ⟨0, 1, _, _, _, _, _, _, _, rfl, zv_zero _, HI.out.zv, by omega, by rw [HQ.out, h0, Rat.mkRat_zero, Rat.zero_mkRat], Nat.zero_le _, by rw [dl_one]; exact hN, x2⟩
  · have hy0 : (y == 0) = false := by simpa using h0
    rw [hy0] at HZ
    have ka_0 := bxa.c 0 (.bool s) rfl
    have ka_1 := bxa.c 1 (.slice A L c) rfl
    have ka_2 := bxa.c 2 (.slice B M d) rfl
    have kn_0 := bxn.c 0 (.bool false) rfl
    have kn_1 := bxn.c 1 (.slice none 0 0) rfl
    have km_0 := bxm.c 0 (.bool false) rfl
    have km_1 := bxm.c 1 (.slice none 0 0) rfl
    go_wp2_with fail
    clear ka_0 ka_1 ka_2 kn_0 kn_1 km_0 km_1
    refine (HZ.out _ xw0).mono ?_
    rintro e w1 ⟨rfl, rfl⟩
    clear HZ
    have ka_0 := bxa.c 0 (.bool s) rfl
    have ka_1 := bxa.c 1 (.slice A L c) rfl
    have ka_2 := bxa.c 2 (.slice B M d) rfl
    have kn_0 := bxn.c 0 (.bool false) rfl
    have fn_0 := bxn.f 0
    have kn_1 := bxn.c 1 (.slice none 0 0) rfl
    have fn_1 := bxn.f 1
    have km_0 := bxm.c 0 (.bool false) rfl
    have fm_0 := bxm.f 0
    have km_1 := bxm.c 1 (.slice none 0 0) rfl
    have fm_1 := bxm.f 1
    go_wp2_with fail
    have n1 : w.heap.size + 1 ≠ w.heap.size := by omega
    have n2 : w.heap.size + 1 + 1 ≠ w.heap.size := by omega
    go_region_held3 (fun w' => w'.cell? ⟨w.heap.size, 0, none⟩ = some (.bool s) ∧ w'.cell? ⟨w.heap.size, 1, none⟩ = some (.slice A L c) ∧ w'.cell? ⟨w.heap.size, 2, none⟩ = some (.slice B M d))
      (first | exact ⟨ka_0, ka_1, ka_2⟩ | exact ⟨cell_far n1 (cell_far n1 ka_0), cell_far n1 (cell_far n1 ka_1), cell_far n1 (cell_far n1 ka_2)⟩ | exact ⟨cell_far n2 (cell_far n2 (cell_far n1 (cell_far n1 ka_0))), cell_far n2 (cell_far n2 (cell_far n1 (cell_far n1 ka_1))), cell_far n2 (cell_far n2 (cell_far n1 (cell_far n1 ka_2)))⟩ | exact ⟨cell_far n2 (cell_far n2 ka_0), cell_far n2 (cell_far n2 ka_1), cell_far n2 (cell_far n2 ka_2)⟩)
      (fail)
    clear ka_0 ka_1 ka_2 kn_0 fn_0 kn_1 fn_1 km_0 fm_0 km_1 fm_1
    obtain ⟨w1, hw⟩ : ∃ z : World, z = ((((w0.setCell ⟨w.heap.size + 1, 0, none⟩ (.bool s)).setCell ⟨w.heap.size + 1, 1, none⟩ (.slice A L c)).setCell ⟨w.heap.size + 1 + 1, 0, none⟩ (.bool false)).setCell ⟨w.heap.size + 1 + 1, 1, none⟩ (.slice B M d)) := ⟨_, rfl⟩
    rw [← hw]
    have kw1 : Kept w0 w1 := by rw [hw]; exact (Kept.set_ (Kept.set_ (Kept.set_ (Kept.set_ (Kept.refl _) bxn.isBox plain_int) (IsBox.set_ bxn.isBox) plain_int) (IsBox.set_ (IsBox.set_ bxm.isBox)) plain_int) (IsBox.set_ (IsBox.set_ (IsBox.set_ bxm.isBox))) plain_int)
    have nba : BK w1 (w.heap.size) 27 #[.bool s, .slice A L c, .slice B M d] := by rw [hw]; exact (BK.far (BK.far (BK.far (BK.far bxa (show w.heap.size ≠ w.heap.size + 1 by omega) 0 _) (show w.heap.size ≠ w.heap.size + 1 by omega) 1 _) (show w.heap.size ≠ w.heap.size + 1 + 1 by omega) 0 _) (show w.heap.size ≠ w.heap.size + 1 + 1 by omega) 1 _)
    have nbn : BK w1 (w.heap.size + 1) 25 #[.bool s, .slice A L c] := by rw [hw]; exact (BK.far (BK.far (BK.set (i := 1) (u := .slice A L c) (vs' := #[.bool s, .slice A L c]) (BK.set (i := 0) (u := .bool s) (vs' := #[.bool s, .slice none 0 0]) bxn rfl) rfl) (show w.heap.size + 1 ≠ w.heap.size + 1 + 1 by omega) 0 _) (show w.heap.size + 1 ≠ w.heap.size + 1 + 1 by omega) 1 _)
    have nbm : BK w1 (w.heap.size + 1 + 1) 25 #[.bool false, .slice B M d] := by rw [hw]; exact (BK.set (i := 1) (u := .slice B M d) (vs' := #[.bool false, .slice B M d]) (BK.set (i := 0) (u := .bool false) (vs' := #[.bool false, .slice none 0 0]) (BK.far (BK.far bxm (show w.heap.size + 1 + 1 ≠ w.heap.size + 1 by omega) 0 _) (show w.heap.size + 1 + 1 ≠ w.heap.size + 1 by omega) 1 _) rfl) rfl)
    have x1 : Ext w w1 := by rw [hw]; have hxp : Ext w w0 := (by repeat' (first | with_reducible exact Ext.refl _ | with_reducible assumption | with_reducible apply Ext.alloc_r | with_reducible apply Ext.drew_r | with_reducible apply Ext.drewN_r | with_reducible refine Ext.trans ?_ ‹Ext _ _›)); exact (Ext.set_ (Ext.set_ (Ext.set_ (Ext.set_ hxp (show _ ≤ w.heap.size + 1 by omega)) (show _ ≤ w.heap.size + 1 by omega)) (show _ ≤ w.heap.size + 1 + 1 by omega)) (show _ ≤ w.heap.size + 1 + 1 by omega))
    clear bxa
    clear bxn
    clear bxm
    have bxa := nba
    clear nba
    have bxn := nbn
    clear nbn
    have bxm := nbm
    clear nbm
    clear hw kw1
    have ka_0 := bxa.c 0 (.bool s) rfl
    have ka_1 := bxa.c 1 (.slice A L c) rfl
    have ka_2 := bxa.c 2 (.slice B M d) rfl
    have kn_0 := bxn.c 0 (.bool s) rfl
    have kn_1 := bxn.c 1 (.slice A L c) rfl
    have km_0 := bxm.c 0 (.bool false) rfl
    have km_1 := bxm.c 1 (.slice B M d) rfl
    go_wp2_with fail
    refine bodyPost_ret (v := .tuple #[.agg #[.bool s, .slice A L c], .agg #[.bool false, .slice B M d]]) (by simp [results, Try.results57, go_sem, kn_0, kn_1, km_0, km_1]) rfl ?_
    exact ⟨x, y, _, _, _, _, _, _, _, rfl, HH.out.1.ext (x1.trans (Ext.drew _)), ⟨by rw [Int.natAbs_natCast]; exact HH.out.2.ext (x1.trans (Ext.drew _)), (fun h => by cases h), fun _ => Int.natCast_nonneg _⟩, by omega, HQ.out, HB.out.1, HB.out.2, x1.trans (Ext.drew _)⟩
end Go.Proofs.Ytfnmbhjifdfibaa
