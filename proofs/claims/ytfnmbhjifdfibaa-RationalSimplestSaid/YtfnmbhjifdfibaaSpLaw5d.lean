/- Contracts of cylinderref03.Floor and cylinderref05.Floor; more of the laws' helpers. -/
import Derived.Test.YtfnmbhjifdfibaaSpLaw5c
import Derived.Test.YtfnmbhjifdfibaaSpDivE
import Derived.Deep.RegionHeldLaw
import Derived.Deep.LoopGhost
import Derived.Deep.QuietTactic
import Derived.BigQuiet
namespace Go.Proofs.Ytfnmbhjifdfibaa
open Go.RowKit
set_option maxHeartbeats 4000000 in
set_option maxRecDepth 100000 in
theorem rfloor_rz {w : World} {g1 g2 : Int} {A1 A2 : Option Addr} {c1 c2 L1 L2 : Nat} {x y : Int} (h1 : RZ w g1 A1 c1 L1 x) (h2 : RZ w g2 A2 c2 L2 y) (hy : 0 < y) (hs1 : bl x.natAbs ≤ 1000000000) (hs2 : bl y.natAbs ≤ 1000000000) :
    Calls Try.prog 78 #[Value.agg #[.int .i64 g1, .slice A1 L1 c1], Value.agg #[.int .i64 g2, .slice A2 L2 c2]] w (RetRR w (x / y) (x % y)) := by
  obtain ⟨f1, f2⟩ := fdiv_cases (x := x) hy
  have hd1 : bl (x.tdiv y).natAbs ≤ bl x.natAbs := bl_mono (by rw [Int.natAbs_tdiv]; exact Nat.div_le_self _ _)
  have hd2 : bl (x.tmod y).natAbs ≤ bl x.natAbs := bl_mono (by rw [Int.natAbs_tmod]; exact Nat.mod_le _ _)
  have hb0 : bl (-1 : Int).natAbs ≤ 1 := bl_of_lt (by decide)
  obtain rfl : g2 = 1 := by rw [h2.sign]; exact Int.sign_eq_one_of_pos hy
  have HQ : Hid (∀ w', Ext w w' → Calls Try.prog 112 #[Value.agg #[.int .i64 g1, .slice A1 L1 c1], Value.agg #[.int .i64 1, .slice A2 L2 c2]] w' (RetRR w' (x.tdiv y) (x.tmod y))) := fun w' hx => rquo_rz (h1.ext hx) (h2.ext hx) (by omega) (by omega) (by omega)
  rcases sign_cases (x.tmod y) with ⟨hm, hsg⟩ | hge
  · obtain ⟨hA, hB⟩ := f2 (by omega)
    clear f1 f2
    go_enter Try.func78, Try.ntmps78
    go_wp2_with fail
    obtain ⟨w0, hw0⟩ : ∃ z : World, z = ((((w.alloc (.cells #[.int .i64 g1, .slice A1 L1 c1] 36)).alloc (.cells #[.int .i64 1, .slice A2 L2 c2] 36)).alloc (.cells #[.int .i64 0, .slice none 0 0] 36)).alloc (.cells #[.int .i64 0, .slice none 0 0] 36)) := ⟨_, rfl⟩
    rw [← hw0]
    have bxa : BK w0 (w.heap.size) 36 #[.int .i64 g1, .slice A1 L1 c1] := by rw [hw0]; have h5 := (BK.ext (BK.ext (BK.ext (BK.new w #[.int .i64 g1, .slice A1 L1 c1] 36) (Ext.alloc _ (.cells #[.int .i64 1, .slice A2 L2 c2] 36))) (Ext.alloc _ (.cells #[.int .i64 0, .slice none 0 0] 36))) (Ext.alloc _ (.cells #[.int .i64 0, .slice none 0 0] 36))); simpa only [World.size_alloc] using h5
    have bxb : BK w0 (w.heap.size + 1) 36 #[.int .i64 1, .slice A2 L2 c2] := by rw [hw0]; have h5 := (BK.ext (BK.ext (BK.new (w.alloc (.cells #[.int .i64 g1, .slice A1 L1 c1] 36)) #[.int .i64 1, .slice A2 L2 c2] 36) (Ext.alloc _ (.cells #[.int .i64 0, .slice none 0 0] 36))) (Ext.alloc _ (.cells #[.int .i64 0, .slice none 0 0] 36))); simpa only [World.size_alloc] using h5
    have bxs : BK w0 (w.heap.size + 1 + 1) 36 #[.int .i64 0, .slice none 0 0] := by rw [hw0]; have h5 := (BK.ext (BK.new ((w.alloc (.cells #[.int .i64 g1, .slice A1 L1 c1] 36)).alloc (.cells #[.int .i64 1, .slice A2 L2 c2] 36)) #[.int .i64 0, .slice none 0 0] 36) (Ext.alloc _ (.cells #[.int .i64 0, .slice none 0 0] 36))); simpa only [World.size_alloc] using h5
    have bxt : BK w0 (w.heap.size + 1 + 1 + 1) 36 #[.int .i64 0, .slice none 0 0] := by rw [hw0]; have h5 := (BK.new (((w.alloc (.cells #[.int .i64 g1, .slice A1 L1 c1] 36)).alloc (.cells #[.int .i64 1, .slice A2 L2 c2] 36)).alloc (.cells #[.int .i64 0, .slice none 0 0] 36)) #[.int .i64 0, .slice none 0 0] 36); simpa only [World.size_alloc] using h5
    have hszw0 : w0.heap.size = w.heap.size + 1 + 1 + 1 + 1 := by rw [hw0]; simp only [World.size_alloc]
    have xw0 : Ext w w0 := by rw [hw0]; exact ((((Ext.alloc _ _).trans (Ext.alloc _ _)).trans (Ext.alloc _ _)).trans (Ext.alloc _ _))
    clear hw0
    refine (HQ.out _ (by with_reducible repeat' first | exact Ext.refl _ | assumption | apply Ext.alloc_r | apply Ext.drew_r | apply Ext.drewN_r | refine Ext.trans ?_ ‹Ext _ _›)).mono ?_
    rintro e w1 ⟨gaj, Aaj, caj, Laj, gbj, Abj, cbj, Lbj, rfl, ja, jb, x1⟩
    have szw1 : w0.heap.size ≤ w1.heap.size := x1.size
    replace bxa := bxa.ext x1
    replace bxb := bxb.ext x1
    replace bxs := bxs.ext x1
    replace bxt := bxt.ext x1
    have hg0 : (gbj != 0) = true := by rw [jb.sign, hsg]; rfl
    have hg1 : (gbj != 1) = true := by rw [jb.sign, hsg]; rfl
    have HJ := Lib.hid (And.intro ja jb)
    have HAB := Lib.hid (And.intro hA hB)
    clear ja jb hA hB hm hsg
    have ka_0 := bxa.c 0 (.int .i64 g1) rfl
    have ka_1 := bxa.c 1 (.slice A1 L1 c1) rfl
    have kb_0 := bxb.c 0 (.int .i64 1) rfl
    have kb_1 := bxb.c 1 (.slice A2 L2 c2) rfl
    have ks_0 := bxs.c 0 (.int .i64 0) rfl
    have fs_0 := bxs.f 0
    have ks_1 := bxs.c 1 (.slice none 0 0) rfl
    have fs_1 := bxs.f 1
    have kt_0 := bxt.c 0 (.int .i64 0) rfl
    have ft_0 := bxt.f 0
    have kt_1 := bxt.c 1 (.slice none 0 0) rfl
    have ft_1 := bxt.f 1
    have t1a_0 := fun o => (Ext.alloc w1 o).cell ka_0
    have t2a_0 := fun o p => (Ext.alloc (w1.alloc o) p).cell ((Ext.alloc w1 o).cell ka_0)
    have t1a_1 := fun o => (Ext.alloc w1 o).cell ka_1
    have t2a_1 := fun o p => (Ext.alloc (w1.alloc o) p).cell ((Ext.alloc w1 o).cell ka_1)
    have t1b_0 := fun o => (Ext.alloc w1 o).cell kb_0
    have t2b_0 := fun o p => (Ext.alloc (w1.alloc o) p).cell ((Ext.alloc w1 o).cell kb_0)
    have t1b_1 := fun o => (Ext.alloc w1 o).cell kb_1
    have t2b_1 := fun o p => (Ext.alloc (w1.alloc o) p).cell ((Ext.alloc w1 o).cell kb_1)
    have t1s_0 := fun o => (Ext.alloc w1 o).cell ks_0
    have t2s_0 := fun o p => (Ext.alloc (w1.alloc o) p).cell ((Ext.alloc w1 o).cell ks_0)
    have t1s_1 := fun o => (Ext.alloc w1 o).cell ks_1
    have t2s_1 := fun o p => (Ext.alloc (w1.alloc o) p).cell ((Ext.alloc w1 o).cell ks_1)
    have t1t_0 := fun o => (Ext.alloc w1 o).cell kt_0
    have t2t_0 := fun o p => (Ext.alloc (w1.alloc o) p).cell ((Ext.alloc w1 o).cell kt_0)
    have t1t_1 := fun o => (Ext.alloc w1 o).cell kt_1
    have t2t_1 := fun o p => (Ext.alloc (w1.alloc o) p).cell ((Ext.alloc w1 o).cell kt_1)
    go_wp2_with fail
    clear ka_0 ka_1 kb_0 kb_1 ks_0 fs_0 ks_1 fs_1 kt_0 ft_0 kt_1 ft_1 t1a_0 t2a_0 t1a_1 t2a_1 t1b_0 t2b_0 t1b_1 t2b_1 t1s_0 t2s_0 t1s_1 t2s_1 t1t_0 t2t_0 t1t_1 t2t_1
    obtain ⟨w2, hw⟩ : ∃ z : World, z = (w1.alloc (.cells #[.int .i64 gaj, .slice Aaj Laj caj] 36)).alloc (.cells #[.int .i64 gbj, .slice Abj Lbj cbj] 36) := ⟨_, rfl⟩
    rw [← hw]
    have x2 : Ext w1 w2 := by rw [hw]; exact (Ext.alloc _ _).trans (Ext.alloc _ _)
    have bxq : BK w2 w1.heap.size 36 #[.int .i64 gaj, .slice Aaj Laj caj] := by rw [hw]; exact BK.ext (BK.new _ _ _) (Ext.alloc _ _)
    have bxr : BK w2 (w1.heap.size + 1) 36 #[.int .i64 gbj, .slice Abj Lbj cbj] := by rw [hw]; have h5 := BK.new (w1.alloc (.cells #[.int .i64 gaj, .slice Aaj Laj caj] 36)) #[.int .i64 gbj, .slice Abj Lbj cbj] 36; simpa only [World.size_alloc] using h5
    have szw2 : w2.heap.size = w1.heap.size + 1 + 1 := by rw [hw]; simp only [World.size_alloc]
    clear hw
    replace bxa := bxa.ext x2
    replace bxb := bxb.ext x2
    replace bxs := bxs.ext x2
    replace bxt := bxt.ext x2
    have ka_0 := bxa.c 0 (.int .i64 g1) rfl
    have ka_1 := bxa.c 1 (.slice A1 L1 c1) rfl
    have kb_0 := bxb.c 0 (.int .i64 1) rfl
    have kb_1 := bxb.c 1 (.slice A2 L2 c2) rfl
    have ks_0 := bxs.c 0 (.int .i64 0) rfl
    have fs_0 := bxs.f 0
    have ks_1 := bxs.c 1 (.slice none 0 0) rfl
    have fs_1 := bxs.f 1
    have kt_0 := bxt.c 0 (.int .i64 0) rfl
    have ft_0 := bxt.f 0
    have kt_1 := bxt.c 1 (.slice none 0 0) rfl
    have ft_1 := bxt.f 1
    have kq_0 := bxq.c 0 (.int .i64 gaj) rfl
    have kq_1 := bxq.c 1 (.slice Aaj Laj caj) rfl
    have kr_0 := bxr.c 0 (.int .i64 gbj) rfl
    have kr_1 := bxr.c 1 (.slice Abj Lbj cbj) rfl
    go_wp2_with fail
    have HK : Hid (∀ w', Ext w2 w' → (w'.cell? ⟨w1.heap.size, 0, none⟩ = some (.int .i64 gaj) ∧ w'.cell? ⟨w1.heap.size, 1, none⟩ = some (.slice Aaj Laj caj) ∧ w'.cell? ⟨w1.heap.size + 1, 0, none⟩ = some (.int .i64 gbj) ∧ w'.cell? ⟨w1.heap.size + 1, 1, none⟩ = some (.slice Abj Lbj cbj) ∧ w'.cell? ⟨w.heap.size + 1, 0, none⟩ = some (.int .i64 1) ∧ w'.cell? ⟨w.heap.size + 1, 1, none⟩ = some (.slice A2 L2 c2))) := fun w' hk => ⟨hk.cell kq_0, hk.cell kq_1, hk.cell kr_0, hk.cell kr_1, hk.cell kb_0, hk.cell kb_1⟩
    have nesq : w.heap.size + 1 + 1 ≠ w1.heap.size := by omega
    have nesr : w.heap.size + 1 + 1 ≠ w1.heap.size + 1 := by omega
    have nesb : w.heap.size + 1 + 1 ≠ w.heap.size + 1 := by omega
    have HSs : Hid (∀ (w' : World) (i : Nat) (u : Value), (w'.cell? ⟨w1.heap.size, 0, none⟩ = some (.int .i64 gaj) ∧ w'.cell? ⟨w1.heap.size, 1, none⟩ = some (.slice Aaj Laj caj) ∧ w'.cell? ⟨w1.heap.size + 1, 0, none⟩ = some (.int .i64 gbj) ∧ w'.cell? ⟨w1.heap.size + 1, 1, none⟩ = some (.slice Abj Lbj cbj) ∧ w'.cell? ⟨w.heap.size + 1, 0, none⟩ = some (.int .i64 1) ∧ w'.cell? ⟨w.heap.size + 1, 1, none⟩ = some (.slice A2 L2 c2)) → ((fun (w' : World) => (w'.cell? ⟨w1.heap.size, 0, none⟩ = some (.int .i64 gaj) ∧ w'.cell? ⟨w1.heap.size, 1, none⟩ = some (.slice Aaj Laj caj) ∧ w'.cell? ⟨w1.heap.size + 1, 0, none⟩ = some (.int .i64 gbj) ∧ w'.cell? ⟨w1.heap.size + 1, 1, none⟩ = some (.slice Abj Lbj cbj) ∧ w'.cell? ⟨w.heap.size + 1, 0, none⟩ = some (.int .i64 1) ∧ w'.cell? ⟨w.heap.size + 1, 1, none⟩ = some (.slice A2 L2 c2))) (w'.setCell ⟨w.heap.size + 1 + 1, i, none⟩ u))) := fun w' i u hs => ⟨cell_far nesq hs.1, cell_far nesq hs.2.1, cell_far nesr hs.2.2.1, cell_far nesr hs.2.2.2.1, cell_far nesb hs.2.2.2.2.1, cell_far nesb hs.2.2.2.2.2⟩
    have netq : w.heap.size + 1 + 1 + 1 ≠ w1.heap.size := by omega
    have netr : w.heap.size + 1 + 1 + 1 ≠ w1.heap.size + 1 := by omega
    have netb : w.heap.size + 1 + 1 + 1 ≠ w.heap.size + 1 := by omega
    have HSt : Hid (∀ (w' : World) (i : Nat) (u : Value), (w'.cell? ⟨w1.heap.size, 0, none⟩ = some (.int .i64 gaj) ∧ w'.cell? ⟨w1.heap.size, 1, none⟩ = some (.slice Aaj Laj caj) ∧ w'.cell? ⟨w1.heap.size + 1, 0, none⟩ = some (.int .i64 gbj) ∧ w'.cell? ⟨w1.heap.size + 1, 1, none⟩ = some (.slice Abj Lbj cbj) ∧ w'.cell? ⟨w.heap.size + 1, 0, none⟩ = some (.int .i64 1) ∧ w'.cell? ⟨w.heap.size + 1, 1, none⟩ = some (.slice A2 L2 c2)) → ((fun (w' : World) => (w'.cell? ⟨w1.heap.size, 0, none⟩ = some (.int .i64 gaj) ∧ w'.cell? ⟨w1.heap.size, 1, none⟩ = some (.slice Aaj Laj caj) ∧ w'.cell? ⟨w1.heap.size + 1, 0, none⟩ = some (.int .i64 gbj) ∧ w'.cell? ⟨w1.heap.size + 1, 1, none⟩ = some (.slice Abj Lbj cbj) ∧ w'.cell? ⟨w.heap.size + 1, 0, none⟩ = some (.int .i64 1) ∧ w'.cell? ⟨w.heap.size + 1, 1, none⟩ = some (.slice A2 L2 c2))) (w'.setCell ⟨w.heap.size + 1 + 1 + 1, i, none⟩ u))) := fun w' i u hs => ⟨cell_far netq hs.1, cell_far netq hs.2.1, cell_far netr hs.2.2.1, cell_far netr hs.2.2.2.1, cell_far netb hs.2.2.2.2.1, cell_far netb hs.2.2.2.2.2⟩
    go_region_held3 (fun w' => w'.cell? ⟨w1.heap.size, 0, none⟩ = some (.int .i64 gaj) ∧ w'.cell? ⟨w1.heap.size, 1, none⟩ = some (.slice Aaj Laj caj) ∧ w'.cell? ⟨w1.heap.size + 1, 0, none⟩ = some (.int .i64 gbj) ∧ w'.cell? ⟨w1.heap.size + 1, 1, none⟩ = some (.slice Abj Lbj cbj) ∧ w'.cell? ⟨w.heap.size + 1, 0, none⟩ = some (.int .i64 1) ∧ w'.cell? ⟨w.heap.size + 1, 1, none⟩ = some (.slice A2 L2 c2))
      (((repeat (first | (with_reducible refine HSs.out _ _ _ ?_) | (with_reducible refine HSt.out _ _ _ ?_))); (with_reducible refine HK.out _ ?_; (with_reducible repeat' first | exact Ext.refl _ | assumption | apply Ext.alloc_r | apply Ext.drew_r | apply Ext.drewN_r | refine Ext.trans ?_ ‹Ext _ _›))))
      (first
        | (go_at_call 83; have hgd := u; clear hgd; refine (add_rz (HJ.out.2.ext (by with_reducible repeat' first | exact Ext.refl _ | assumption | apply Ext.alloc_r | apply Ext.drew_r | apply Ext.drewN_r | refine Ext.trans ?_ ‹Ext _ _›)) (h2.ext (by with_reducible repeat' first | exact Ext.refl _ | assumption | apply Ext.alloc_r | apply Ext.drew_r | apply Ext.drewN_r | refine Ext.trans ?_ ‹Ext _ _›)) (by omega) (by omega)).mono ?_; rintro e w5 ⟨gv, Av, cv, Lv, rfl, v, x5⟩; have yl : Ext w2 w5 := (by with_reducible repeat' first | exact Ext.refl _ | assumption | apply Ext.alloc_r | apply Ext.drew_r | apply Ext.drewN_r | refine Ext.trans ?_ ‹Ext _ _›); have cs_0 := (bxs.ext yl).c 0 (.int .i64 0) rfl; have gs_0 := (bxs.ext yl).f 0; have cs_1 := (bxs.ext yl).c 1 (.slice none 0 0) rfl; have gs_1 := (bxs.ext yl).f 1; have ct_0 := (bxt.ext yl).c 0 (.int .i64 0) rfl; have gt_0 := (bxt.ext yl).f 0; have ct_1 := (bxt.ext yl).c 1 (.slice none 0 0) rfl; have gt_1 := (bxt.ext yl).f 1)
        | (go_at_call_of 83 (#[Value.agg #[Value.int IntKind.i64 gaj, Value.slice Aaj Laj caj], Value.agg #[Value.int IntKind.i64 go, Value.slice Ao Lo co]]); have hgd := o; clear hgd; refine (add_rz (HJ.out.1.ext (by with_reducible repeat' first | exact Ext.refl _ | assumption | apply Ext.alloc_r | apply Ext.drew_r | apply Ext.drewN_r | refine Ext.trans ?_ ‹Ext _ _›)) (o.ext (by with_reducible repeat' first | exact Ext.refl _ | assumption | apply Ext.alloc_r | apply Ext.drew_r | apply Ext.drewN_r | refine Ext.trans ?_ ‹Ext _ _›)) (by omega) (by omega)).mono ?_; rintro e w4 ⟨gu, Au, cu, Lu, rfl, u, x4⟩)
        | (go_at_call 20; refine (small_rz (n := -1) (by omega)).mono ?_; rintro e w3 ⟨go, Ao, co, Lo, rfl, o, x3⟩))
    clear ka_0 ka_1 kb_0 kb_1 ks_0 fs_0 ks_1 fs_1 kt_0 ft_0 kt_1 ft_1 kq_0 kq_1 kr_0 kr_1
    clear HK HSs nesq nesr nesb HSt netq netr netb
    clear cs_0 gs_0
    clear cs_1 gs_1
    clear ct_0 gt_0
    clear ct_1 gt_1
    clear yl
    have szw3 : w2.heap.size ≤ w3.heap.size := (show Ext w2 w3 from (by with_reducible repeat' first | exact Ext.refl _ | assumption | apply Ext.alloc_r | apply Ext.drew_r | apply Ext.drewN_r | refine Ext.trans ?_ ‹Ext _ _›)).size
    have szw4 : w2.heap.size ≤ w4.heap.size := (show Ext w2 w4 from (by with_reducible repeat' first | exact Ext.refl _ | assumption | apply Ext.alloc_r | apply Ext.drew_r | apply Ext.drewN_r | refine Ext.trans ?_ ‹Ext _ _›)).size
    have xhw5 : Ext w2 w5 := (by with_reducible repeat' first | exact Ext.refl _ | assumption | apply Ext.alloc_r | apply Ext.drew_r | apply Ext.drewN_r | refine Ext.trans ?_ ‹Ext _ _›)
    have szw5 : w2.heap.size ≤ w5.heap.size := xhw5.size
    replace bxa := bxa.ext xhw5
    replace bxb := bxb.ext xhw5
    replace bxs := bxs.ext xhw5
    replace bxt := bxt.ext xhw5
    replace bxq := bxq.ext xhw5
    replace bxr := bxr.ext xhw5
    clear o HJ
    obtain ⟨w6, hw⟩ : ∃ z : World, z = ((((w5.setCell ⟨w.heap.size + 1 + 1, 0, none⟩ (.int .i64 gu)).setCell ⟨w.heap.size + 1 + 1, 1, none⟩ (.slice Au Lu cu)).setCell ⟨w.heap.size + 1 + 1 + 1, 0, none⟩ (.int .i64 gv)).setCell ⟨w.heap.size + 1 + 1 + 1, 1, none⟩ (.slice Av Lv cv)) := ⟨_, rfl⟩
    rw [← hw]
    have kw6 : Kept w5 w6 := by rw [hw]; exact (Kept.set_ (Kept.set_ (Kept.set_ (Kept.set_ (Kept.refl _) bxs.isBox plain_Z) (IsBox.set_ bxs.isBox) plain_Z) (IsBox.set_ (IsBox.set_ bxt.isBox)) plain_Z) (IsBox.set_ (IsBox.set_ (IsBox.set_ bxt.isBox))) plain_Z)
    have nba : BK w6 (w.heap.size) 36 #[.int .i64 g1, .slice A1 L1 c1] := by rw [hw]; exact (BK.far (BK.far (BK.far (BK.far bxa (show w.heap.size ≠ w.heap.size + 1 + 1 by omega) 0 _) (show w.heap.size ≠ w.heap.size + 1 + 1 by omega) 1 _) (show w.heap.size ≠ w.heap.size + 1 + 1 + 1 by omega) 0 _) (show w.heap.size ≠ w.heap.size + 1 + 1 + 1 by omega) 1 _)
    have nbb : BK w6 (w.heap.size + 1) 36 #[.int .i64 1, .slice A2 L2 c2] := by rw [hw]; exact (BK.far (BK.far (BK.far (BK.far bxb (show w.heap.size + 1 ≠ w.heap.size + 1 + 1 by omega) 0 _) (show w.heap.size + 1 ≠ w.heap.size + 1 + 1 by omega) 1 _) (show w.heap.size + 1 ≠ w.heap.size + 1 + 1 + 1 by omega) 0 _) (show w.heap.size + 1 ≠ w.heap.size + 1 + 1 + 1 by omega) 1 _)
    have nbs : BK w6 (w.heap.size + 1 + 1) 36 #[.int .i64 gu, .slice Au Lu cu] := by rw [hw]; exact (BK.far (BK.far (BK.set (i := 1) (u := .slice Au Lu cu) (vs' := #[.int .i64 gu, .slice Au Lu cu]) (BK.set (i := 0) (u := .int .i64 gu) (vs' := #[.int .i64 gu, .slice none 0 0]) bxs rfl) rfl) (show w.heap.size + 1 + 1 ≠ w.heap.size + 1 + 1 + 1 by omega) 0 _) (show w.heap.size + 1 + 1 ≠ w.heap.size + 1 + 1 + 1 by omega) 1 _)
    have nbt : BK w6 (w.heap.size + 1 + 1 + 1) 36 #[.int .i64 gv, .slice Av Lv cv] := by rw [hw]; exact (BK.set (i := 1) (u := .slice Av Lv cv) (vs' := #[.int .i64 gv, .slice Av Lv cv]) (BK.set (i := 0) (u := .int .i64 gv) (vs' := #[.int .i64 gv, .slice none 0 0]) (BK.far (BK.far bxt (show w.heap.size + 1 + 1 + 1 ≠ w.heap.size + 1 + 1 by omega) 0 _) (show w.heap.size + 1 + 1 + 1 ≠ w.heap.size + 1 + 1 by omega) 1 _) rfl) rfl)
    have nbq : BK w6 (w1.heap.size) 36 #[.int .i64 gaj, .slice Aaj Laj caj] := by rw [hw]; exact (BK.far (BK.far (BK.far (BK.far bxq (show w1.heap.size ≠ w.heap.size + 1 + 1 by omega) 0 _) (show w1.heap.size ≠ w.heap.size + 1 + 1 by omega) 1 _) (show w1.heap.size ≠ w.heap.size + 1 + 1 + 1 by omega) 0 _) (show w1.heap.size ≠ w.heap.size + 1 + 1 + 1 by omega) 1 _)
    have nbr : BK w6 (w1.heap.size + 1) 36 #[.int .i64 gbj, .slice Abj Lbj cbj] := by rw [hw]; exact (BK.far (BK.far (BK.far (BK.far bxr (show w1.heap.size + 1 ≠ w.heap.size + 1 + 1 by omega) 0 _) (show w1.heap.size + 1 ≠ w.heap.size + 1 + 1 by omega) 1 _) (show w1.heap.size + 1 ≠ w.heap.size + 1 + 1 + 1 by omega) 0 _) (show w1.heap.size + 1 ≠ w.heap.size + 1 + 1 + 1 by omega) 1 _)
    have x6 : Ext w w6 := by rw [hw]; have hxp : Ext w w5 := (by with_reducible repeat' first | exact Ext.refl _ | assumption | apply Ext.alloc_r | apply Ext.drew_r | apply Ext.drewN_r | refine Ext.trans ?_ ‹Ext _ _›); exact (Ext.set_ (Ext.set_ (Ext.set_ (Ext.set_ hxp (show _ ≤ w.heap.size + 1 + 1 by omega)) (show _ ≤ w.heap.size + 1 + 1 by omega)) (show _ ≤ w.heap.size + 1 + 1 + 1 by omega)) (show _ ≤ w.heap.size + 1 + 1 + 1 by omega))
    clear bxa
    clear bxb
    clear bxs
    clear bxt
    clear bxq
    clear bxr
    have bxa := nba
    clear nba
    have bxb := nbb
    clear nbb
    have bxs := nbs
    clear nbs
    have bxt := nbt
    clear nbt
    have bxq := nbq
    clear nbq
    have bxr := nbr
    clear nbr
    have szw6 : w6.heap.size = w5.heap.size := by rw [hw]; simp
    replace u := (u.ext (by with_reducible repeat' first | exact Ext.refl _ | assumption | apply Ext.alloc_r | apply Ext.drew_r | apply Ext.drewN_r | refine Ext.trans ?_ ‹Ext _ _›)).kept kw6
    replace v := (v.ext (by with_reducible repeat' first | exact Ext.refl _ | assumption | apply Ext.alloc_r | apply Ext.drew_r | apply Ext.drewN_r | refine Ext.trans ?_ ‹Ext _ _›)).kept kw6
    clear hw kw6
    have hu : RZ w6 gu Au cu Lu (x / y) := by rw [HAB.out.1]; exact u
    have hv : RZ w6 gv Av cv Lv (x % y) := by rw [HAB.out.2]; exact v
    have HU := Lib.hid hu
    have HV := Lib.hid hv
    clear u v hu hv HAB
    have ka_0 := bxa.c 0 (.int .i64 g1) rfl
    have ka_1 := bxa.c 1 (.slice A1 L1 c1) rfl
    have kb_0 := bxb.c 0 (.int .i64 1) rfl
    have kb_1 := bxb.c 1 (.slice A2 L2 c2) rfl
    have ks_0 := bxs.c 0 (.int .i64 gu) rfl
    have ks_1 := bxs.c 1 (.slice Au Lu cu) rfl
    have kt_0 := bxt.c 0 (.int .i64 gv) rfl
    have kt_1 := bxt.c 1 (.slice Av Lv cv) rfl
    have kq_0 := bxq.c 0 (.int .i64 gaj) rfl
    have kq_1 := bxq.c 1 (.slice Aaj Laj caj) rfl
    have kr_0 := bxr.c 0 (.int .i64 gbj) rfl
    have kr_1 := bxr.c 1 (.slice Abj Lbj cbj) rfl
    go_wp2_with fail
    clear ka_0 ka_1 kb_0 kb_1 ks_0 ks_1 kt_0 kt_1 kq_0 kq_1 kr_0 kr_1
    have ks_0 := bxs.c 0 (.int .i64 gu) rfl
    have ks_1 := bxs.c 1 (.slice Au Lu cu) rfl
    have kt_0 := bxt.c 0 (.int .i64 gv) rfl
    have kt_1 := bxt.c 1 (.slice Av Lv cv) rfl
    refine bodyPost_ret (v := .tuple #[.agg #[.int .i64 gu, .slice Au Lu cu], .agg #[.int .i64 gv, .slice Av Lv cv]]) (by simp [results, Try.results78, go_sem, ks_0, ks_1, kt_0, kt_1]) rfl ?_
    exact ⟨_, _, _, _, _, _, _, _, rfl, HU.out, HV.out, x6⟩
  · obtain ⟨hA, hB⟩ := f1 (by rcases hge with ⟨_, b⟩ | ⟨_, b⟩ <;> omega)
    clear f1 f2
    go_enter Try.func78, Try.ntmps78
    go_wp2_with fail
    obtain ⟨w0, hw0⟩ : ∃ z : World, z = ((((w.alloc (.cells #[.int .i64 g1, .slice A1 L1 c1] 36)).alloc (.cells #[.int .i64 1, .slice A2 L2 c2] 36)).alloc (.cells #[.int .i64 0, .slice none 0 0] 36)).alloc (.cells #[.int .i64 0, .slice none 0 0] 36)) := ⟨_, rfl⟩
    rw [← hw0]
    have bxa : BK w0 (w.heap.size) 36 #[.int .i64 g1, .slice A1 L1 c1] := by rw [hw0]; have h5 := (BK.ext (BK.ext (BK.ext (BK.new w #[.int .i64 g1, .slice A1 L1 c1] 36) (Ext.alloc _ (.cells #[.int .i64 1, .slice A2 L2 c2] 36))) (Ext.alloc _ (.cells #[.int .i64 0, .slice none 0 0] 36))) (Ext.alloc _ (.cells #[.int .i64 0, .slice none 0 0] 36))); simpa only [World.size_alloc] using h5
    have bxb : BK w0 (w.heap.size + 1) 36 #[.int .i64 1, .slice A2 L2 c2] := by rw [hw0]; have h5 := (BK.ext (BK.ext (BK.new (w.alloc (.cells #[.int .i64 g1, .slice A1 L1 c1] 36)) #[.int .i64 1, .slice A2 L2 c2] 36) (Ext.alloc _ (.cells #[.int .i64 0, .slice none 0 0] 36))) (Ext.alloc _ (.cells #[.int .i64 0, .slice none 0 0] 36))); simpa only [World.size_alloc] using h5
    have bxs : BK w0 (w.heap.size + 1 + 1) 36 #[.int .i64 0, .slice none 0 0] := by rw [hw0]; have h5 := (BK.ext (BK.new ((w.alloc (.cells #[.int .i64 g1, .slice A1 L1 c1] 36)).alloc (.cells #[.int .i64 1, .slice A2 L2 c2] 36)) #[.int .i64 0, .slice none 0 0] 36) (Ext.alloc _ (.cells #[.int .i64 0, .slice none 0 0] 36))); simpa only [World.size_alloc] using h5
    have bxt : BK w0 (w.heap.size + 1 + 1 + 1) 36 #[.int .i64 0, .slice none 0 0] := by rw [hw0]; have h5 := (BK.new (((w.alloc (.cells #[.int .i64 g1, .slice A1 L1 c1] 36)).alloc (.cells #[.int .i64 1, .slice A2 L2 c2] 36)).alloc (.cells #[.int .i64 0, .slice none 0 0] 36)) #[.int .i64 0, .slice none 0 0] 36); simpa only [World.size_alloc] using h5
    have hszw0 : w0.heap.size = w.heap.size + 1 + 1 + 1 + 1 := by rw [hw0]; simp only [World.size_alloc]
    have xw0 : Ext w w0 := by rw [hw0]; exact ((((Ext.alloc _ _).trans (Ext.alloc _ _)).trans (Ext.alloc _ _)).trans (Ext.alloc _ _))
    clear hw0
    refine (HQ.out _ (by with_reducible repeat' first | exact Ext.refl _ | assumption | apply Ext.alloc_r | apply Ext.drew_r | apply Ext.drewN_r | refine Ext.trans ?_ ‹Ext _ _›)).mono ?_
    rintro e w1 ⟨gaj, Aaj, caj, Laj, gbj, Abj, cbj, Lbj, rfl, ja, jb, x1⟩
    have szw1 : w0.heap.size ≤ w1.heap.size := x1.size
    replace bxa := bxa.ext x1
    replace bxb := bxb.ext x1
    replace bxs := bxs.ext x1
    replace bxt := bxt.ext x1
    have hg0 : (gbj = 0) ∨ (gbj = 1) := by rw [jb.sign]; rcases hge with ⟨_, b⟩ | ⟨_, b⟩ <;> omega
    have HJ := Lib.hid (And.intro ja jb)
    have HAB := Lib.hid (And.intro hA hB)
    clear ja jb hA hB hge
    rcases hg0 with rfl | rfl
    · have tt := True.intro
      clear tt
      have ka_0 := bxa.c 0 (.int .i64 g1) rfl
      have ka_1 := bxa.c 1 (.slice A1 L1 c1) rfl
      have kb_0 := bxb.c 0 (.int .i64 1) rfl
      have kb_1 := bxb.c 1 (.slice A2 L2 c2) rfl
      have ks_0 := bxs.c 0 (.int .i64 0) rfl
      have fs_0 := bxs.f 0
      have ks_1 := bxs.c 1 (.slice none 0 0) rfl
      have fs_1 := bxs.f 1
      have kt_0 := bxt.c 0 (.int .i64 0) rfl
      have ft_0 := bxt.f 0
      have kt_1 := bxt.c 1 (.slice none 0 0) rfl
      have ft_1 := bxt.f 1
      have t1a_0 := fun o => (Ext.alloc w1 o).cell ka_0
      have t2a_0 := fun o p => (Ext.alloc (w1.alloc o) p).cell ((Ext.alloc w1 o).cell ka_0)
      have t1a_1 := fun o => (Ext.alloc w1 o).cell ka_1
      have t2a_1 := fun o p => (Ext.alloc (w1.alloc o) p).cell ((Ext.alloc w1 o).cell ka_1)
      have t1b_0 := fun o => (Ext.alloc w1 o).cell kb_0
      have t2b_0 := fun o p => (Ext.alloc (w1.alloc o) p).cell ((Ext.alloc w1 o).cell kb_0)
      have t1b_1 := fun o => (Ext.alloc w1 o).cell kb_1
      have t2b_1 := fun o p => (Ext.alloc (w1.alloc o) p).cell ((Ext.alloc w1 o).cell kb_1)
      have t1s_0 := fun o => (Ext.alloc w1 o).cell ks_0
      have t2s_0 := fun o p => (Ext.alloc (w1.alloc o) p).cell ((Ext.alloc w1 o).cell ks_0)
      have t1s_1 := fun o => (Ext.alloc w1 o).cell ks_1
      have t2s_1 := fun o p => (Ext.alloc (w1.alloc o) p).cell ((Ext.alloc w1 o).cell ks_1)
      have t1t_0 := fun o => (Ext.alloc w1 o).cell kt_0
      have t2t_0 := fun o p => (Ext.alloc (w1.alloc o) p).cell ((Ext.alloc w1 o).cell kt_0)
      have t1t_1 := fun o => (Ext.alloc w1 o).cell kt_1
      have t2t_1 := fun o p => (Ext.alloc (w1.alloc o) p).cell ((Ext.alloc w1 o).cell kt_1)
      go_wp2_with fail
      clear ka_0 ka_1 kb_0 kb_1 ks_0 fs_0 ks_1 fs_1 kt_0 ft_0 kt_1 ft_1 t1a_0 t2a_0 t1a_1 t2a_1 t1b_0 t2b_0 t1b_1 t2b_1 t1s_0 t2s_0 t1s_1 t2s_1 t1t_0 t2t_0 t1t_1 t2t_1
      obtain ⟨w2, hw⟩ : ∃ z : World, z = (w1.alloc (.cells #[.int .i64 gaj, .slice Aaj Laj caj] 36)).alloc (.cells #[.int .i64 0, .slice Abj Lbj cbj] 36) := ⟨_, rfl⟩
      rw [← hw]
      have x2 : Ext w1 w2 := by rw [hw]; exact (Ext.alloc _ _).trans (Ext.alloc _ _)
      have bxq : BK w2 w1.heap.size 36 #[.int .i64 gaj, .slice Aaj Laj caj] := by rw [hw]; exact BK.ext (BK.new _ _ _) (Ext.alloc _ _)
      have bxr : BK w2 (w1.heap.size + 1) 36 #[.int .i64 0, .slice Abj Lbj cbj] := by rw [hw]; have h5 := BK.new (w1.alloc (.cells #[.int .i64 gaj, .slice Aaj Laj caj] 36)) #[.int .i64 0, .slice Abj Lbj cbj] 36; simpa only [World.size_alloc] using h5
      have szw2 : w2.heap.size = w1.heap.size + 1 + 1 := by rw [hw]; simp only [World.size_alloc]
      clear hw
      replace bxa := bxa.ext x2
      replace bxb := bxb.ext x2
      replace bxs := bxs.ext x2
      replace bxt := bxt.ext x2
      have ka_0 := bxa.c 0 (.int .i64 g1) rfl
      have ka_1 := bxa.c 1 (.slice A1 L1 c1) rfl
      have kb_0 := bxb.c 0 (.int .i64 1) rfl
      have kb_1 := bxb.c 1 (.slice A2 L2 c2) rfl
      have ks_0 := bxs.c 0 (.int .i64 0) rfl
      have fs_0 := bxs.f 0
      have ks_1 := bxs.c 1 (.slice none 0 0) rfl
      have fs_1 := bxs.f 1
      have kt_0 := bxt.c 0 (.int .i64 0) rfl
      have ft_0 := bxt.f 0
      have kt_1 := bxt.c 1 (.slice none 0 0) rfl
      have ft_1 := bxt.f 1
      have kq_0 := bxq.c 0 (.int .i64 gaj) rfl
      have kq_1 := bxq.c 1 (.slice Aaj Laj caj) rfl
      have kr_0 := bxr.c 0 (.int .i64 0) rfl
      have kr_1 := bxr.c 1 (.slice Abj Lbj cbj) rfl
      have HK : Hid (∀ w', Ext w2 w' → (w'.cell? ⟨w1.heap.size, 0, none⟩ = some (.int .i64 gaj) ∧ w'.cell? ⟨w1.heap.size, 1, none⟩ = some (.slice Aaj Laj caj) ∧ w'.cell? ⟨w1.heap.size + 1, 0, none⟩ = some (.int .i64 0) ∧ w'.cell? ⟨w1.heap.size + 1, 1, none⟩ = some (.slice Abj Lbj cbj))) := fun w' hk => ⟨hk.cell kq_0, hk.cell kq_1, hk.cell kr_0, hk.cell kr_1⟩
      have nesq : w.heap.size + 1 + 1 ≠ w1.heap.size := by omega
      have nesr : w.heap.size + 1 + 1 ≠ w1.heap.size + 1 := by omega
      have HSs : Hid (∀ (w' : World) (i : Nat) (u : Value), (w'.cell? ⟨w1.heap.size, 0, none⟩ = some (.int .i64 gaj) ∧ w'.cell? ⟨w1.heap.size, 1, none⟩ = some (.slice Aaj Laj caj) ∧ w'.cell? ⟨w1.heap.size + 1, 0, none⟩ = some (.int .i64 0) ∧ w'.cell? ⟨w1.heap.size + 1, 1, none⟩ = some (.slice Abj Lbj cbj)) → ((fun (w' : World) => (w'.cell? ⟨w1.heap.size, 0, none⟩ = some (.int .i64 gaj) ∧ w'.cell? ⟨w1.heap.size, 1, none⟩ = some (.slice Aaj Laj caj) ∧ w'.cell? ⟨w1.heap.size + 1, 0, none⟩ = some (.int .i64 0) ∧ w'.cell? ⟨w1.heap.size + 1, 1, none⟩ = some (.slice Abj Lbj cbj))) (w'.setCell ⟨w.heap.size + 1 + 1, i, none⟩ u))) := fun w' i u hs => ⟨cell_far nesq hs.1, cell_far nesq hs.2.1, cell_far nesr hs.2.2.1, cell_far nesr hs.2.2.2⟩
      have netq : w.heap.size + 1 + 1 + 1 ≠ w1.heap.size := by omega
      have netr : w.heap.size + 1 + 1 + 1 ≠ w1.heap.size + 1 := by omega
      have HSt : Hid (∀ (w' : World) (i : Nat) (u : Value), (w'.cell? ⟨w1.heap.size, 0, none⟩ = some (.int .i64 gaj) ∧ w'.cell? ⟨w1.heap.size, 1, none⟩ = some (.slice Aaj Laj caj) ∧ w'.cell? ⟨w1.heap.size + 1, 0, none⟩ = some (.int .i64 0) ∧ w'.cell? ⟨w1.heap.size + 1, 1, none⟩ = some (.slice Abj Lbj cbj)) → ((fun (w' : World) => (w'.cell? ⟨w1.heap.size, 0, none⟩ = some (.int .i64 gaj) ∧ w'.cell? ⟨w1.heap.size, 1, none⟩ = some (.slice Aaj Laj caj) ∧ w'.cell? ⟨w1.heap.size + 1, 0, none⟩ = some (.int .i64 0) ∧ w'.cell? ⟨w1.heap.size + 1, 1, none⟩ = some (.slice Abj Lbj cbj))) (w'.setCell ⟨w.heap.size + 1 + 1 + 1, i, none⟩ u))) := fun w' i u hs => ⟨cell_far netq hs.1, cell_far netq hs.2.1, cell_far netr hs.2.2.1, cell_far netr hs.2.2.2⟩
      have HSD : Hid (∀ (w' : World), (w'.cell? ⟨w1.heap.size, 0, none⟩ = some (.int .i64 gaj) ∧ w'.cell? ⟨w1.heap.size, 1, none⟩ = some (.slice Aaj Laj caj) ∧ w'.cell? ⟨w1.heap.size + 1, 0, none⟩ = some (.int .i64 0) ∧ w'.cell? ⟨w1.heap.size + 1, 1, none⟩ = some (.slice Abj Lbj cbj)) → ((fun (w' : World) => (w'.cell? ⟨w1.heap.size, 0, none⟩ = some (.int .i64 gaj) ∧ w'.cell? ⟨w1.heap.size, 1, none⟩ = some (.slice Aaj Laj caj) ∧ w'.cell? ⟨w1.heap.size + 1, 0, none⟩ = some (.int .i64 0) ∧ w'.cell? ⟨w1.heap.size + 1, 1, none⟩ = some (.slice Abj Lbj cbj))) w'.drew)) := fun w' hs => hs
      go_region_held3 (fun w' => w'.cell? ⟨w1.heap.size, 0, none⟩ = some (.int .i64 gaj) ∧ w'.cell? ⟨w1.heap.size, 1, none⟩ = some (.slice Aaj Laj caj) ∧ w'.cell? ⟨w1.heap.size + 1, 0, none⟩ = some (.int .i64 0) ∧ w'.cell? ⟨w1.heap.size + 1, 1, none⟩ = some (.slice Abj Lbj cbj))
        (((repeat (first | (with_reducible refine HSD.out _ ?_) | (with_reducible refine HSs.out _ _ _ ?_) | (with_reducible refine HSt.out _ _ _ ?_))); (with_reducible refine HK.out _ ?_; (with_reducible repeat' first | exact Ext.refl _ | assumption | apply Ext.alloc_r | apply Ext.drew_r | apply Ext.drewN_r | refine Ext.trans ?_ ‹Ext _ _›))))
        (fail)
      clear HK HSD HSs nesq nesr HSt netq netr
      clear ka_0 ka_1 kb_0 kb_1 ks_0 fs_0 ks_1 fs_1 kt_0 ft_0 kt_1 ft_1 kq_0 kq_1 kr_0 kr_1
      have u := HJ.out.1.ext (show Ext _ w2 from (by with_reducible repeat' first | exact Ext.refl _ | assumption | apply Ext.alloc_r | apply Ext.drew_r | apply Ext.drewN_r | refine Ext.trans ?_ ‹Ext _ _›))
      have v := HJ.out.2.ext (show Ext _ w2 from (by with_reducible repeat' first | exact Ext.refl _ | assumption | apply Ext.alloc_r | apply Ext.drew_r | apply Ext.drewN_r | refine Ext.trans ?_ ‹Ext _ _›))
      clear HJ
      obtain ⟨w3, hw⟩ : ∃ z : World, z = ((((w2.setCell ⟨w.heap.size + 1 + 1, 0, none⟩ (.int .i64 gaj)).setCell ⟨w.heap.size + 1 + 1, 1, none⟩ (.slice Aaj Laj caj)).setCell ⟨w.heap.size + 1 + 1 + 1, 0, none⟩ (.int .i64 0)).setCell ⟨w.heap.size + 1 + 1 + 1, 1, none⟩ (.slice Abj Lbj cbj)) := ⟨_, rfl⟩
      rw [← hw]
      have kw3 : Kept w2 w3 := by rw [hw]; exact (Kept.set_ (Kept.set_ (Kept.set_ (Kept.set_ (Kept.refl _) bxs.isBox plain_Z) (IsBox.set_ bxs.isBox) plain_Z) (IsBox.set_ (IsBox.set_ bxt.isBox)) plain_Z) (IsBox.set_ (IsBox.set_ (IsBox.set_ bxt.isBox))) plain_Z)
      have nba : BK w3 (w.heap.size) 36 #[.int .i64 g1, .slice A1 L1 c1] := by rw [hw]; exact (BK.far (BK.far (BK.far (BK.far bxa (show w.heap.size ≠ w.heap.size + 1 + 1 by omega) 0 _) (show w.heap.size ≠ w.heap.size + 1 + 1 by omega) 1 _) (show w.heap.size ≠ w.heap.size + 1 + 1 + 1 by omega) 0 _) (show w.heap.size ≠ w.heap.size + 1 + 1 + 1 by omega) 1 _)
      have nbb : BK w3 (w.heap.size + 1) 36 #[.int .i64 1, .slice A2 L2 c2] := by rw [hw]; exact (BK.far (BK.far (BK.far (BK.far bxb (show w.heap.size + 1 ≠ w.heap.size + 1 + 1 by omega) 0 _) (show w.heap.size + 1 ≠ w.heap.size + 1 + 1 by omega) 1 _) (show w.heap.size + 1 ≠ w.heap.size + 1 + 1 + 1 by omega) 0 _) (show w.heap.size + 1 ≠ w.heap.size + 1 + 1 + 1 by omega) 1 _)
      have nbs : BK w3 (w.heap.size + 1 + 1) 36 #[.int .i64 gaj, .slice Aaj Laj caj] := by rw [hw]; exact (BK.far (BK.far (BK.set (i := 1) (u := .slice Aaj Laj caj) (vs' := #[.int .i64 gaj, .slice Aaj Laj caj]) (BK.set (i := 0) (u := .int .i64 gaj) (vs' := #[.int .i64 gaj, .slice none 0 0]) bxs rfl) rfl) (show w.heap.size + 1 + 1 ≠ w.heap.size + 1 + 1 + 1 by omega) 0 _) (show w.heap.size + 1 + 1 ≠ w.heap.size + 1 + 1 + 1 by omega) 1 _)
      have nbt : BK w3 (w.heap.size + 1 + 1 + 1) 36 #[.int .i64 0, .slice Abj Lbj cbj] := by rw [hw]; exact (BK.set (i := 1) (u := .slice Abj Lbj cbj) (vs' := #[.int .i64 0, .slice Abj Lbj cbj]) (BK.set (i := 0) (u := .int .i64 0) (vs' := #[.int .i64 0, .slice none 0 0]) (BK.far (BK.far bxt (show w.heap.size + 1 + 1 + 1 ≠ w.heap.size + 1 + 1 by omega) 0 _) (show w.heap.size + 1 + 1 + 1 ≠ w.heap.size + 1 + 1 by omega) 1 _) rfl) rfl)
      have nbq : BK w3 (w1.heap.size) 36 #[.int .i64 gaj, .slice Aaj Laj caj] := by rw [hw]; exact (BK.far (BK.far (BK.far (BK.far bxq (show w1.heap.size ≠ w.heap.size + 1 + 1 by omega) 0 _) (show w1.heap.size ≠ w.heap.size + 1 + 1 by omega) 1 _) (show w1.heap.size ≠ w.heap.size + 1 + 1 + 1 by omega) 0 _) (show w1.heap.size ≠ w.heap.size + 1 + 1 + 1 by omega) 1 _)
      have nbr : BK w3 (w1.heap.size + 1) 36 #[.int .i64 0, .slice Abj Lbj cbj] := by rw [hw]; exact (BK.far (BK.far (BK.far (BK.far bxr (show w1.heap.size + 1 ≠ w.heap.size + 1 + 1 by omega) 0 _) (show w1.heap.size + 1 ≠ w.heap.size + 1 + 1 by omega) 1 _) (show w1.heap.size + 1 ≠ w.heap.size + 1 + 1 + 1 by omega) 0 _) (show w1.heap.size + 1 ≠ w.heap.size + 1 + 1 + 1 by omega) 1 _)
      have x3 : Ext w w3 := by rw [hw]; have hxp : Ext w w2 := (by with_reducible repeat' first | exact Ext.refl _ | assumption | apply Ext.alloc_r | apply Ext.drew_r | apply Ext.drewN_r | refine Ext.trans ?_ ‹Ext _ _›); exact (Ext.set_ (Ext.set_ (Ext.set_ (Ext.set_ hxp (show _ ≤ w.heap.size + 1 + 1 by omega)) (show _ ≤ w.heap.size + 1 + 1 by omega)) (show _ ≤ w.heap.size + 1 + 1 + 1 by omega)) (show _ ≤ w.heap.size + 1 + 1 + 1 by omega))
      clear bxa
      clear bxb
      clear bxs
      clear bxt
      clear bxq
      clear bxr
      have bxa := nba
      clear nba
      have bxb := nbb
      clear nbb
      have bxs := nbs
      clear nbs
      have bxt := nbt
      clear nbt
      have bxq := nbq
      clear nbq
      have bxr := nbr
      clear nbr
      have szw3 : w3.heap.size = w2.heap.size := by rw [hw]; simp
      replace u := (u.ext (by with_reducible repeat' first | exact Ext.refl _ | assumption | apply Ext.alloc_r | apply Ext.drew_r | apply Ext.drewN_r | refine Ext.trans ?_ ‹Ext _ _›)).kept kw3
      replace v := (v.ext (by with_reducible repeat' first | exact Ext.refl _ | assumption | apply Ext.alloc_r | apply Ext.drew_r | apply Ext.drewN_r | refine Ext.trans ?_ ‹Ext _ _›)).kept kw3
      clear hw kw3
      have hu : RZ w3 gaj Aaj caj Laj (x / y) := by rw [HAB.out.1]; exact u
      have hv : RZ w3 0 Abj cbj Lbj (x % y) := by rw [HAB.out.2]; exact v
      have HU := Lib.hid hu
      have HV := Lib.hid hv
      clear u v hu hv HAB
      have ka_0 := bxa.c 0 (.int .i64 g1) rfl
      have ka_1 := bxa.c 1 (.slice A1 L1 c1) rfl
      have kb_0 := bxb.c 0 (.int .i64 1) rfl
      have kb_1 := bxb.c 1 (.slice A2 L2 c2) rfl
      have ks_0 := bxs.c 0 (.int .i64 gaj) rfl
      have ks_1 := bxs.c 1 (.slice Aaj Laj caj) rfl
      have kt_0 := bxt.c 0 (.int .i64 0) rfl
      have kt_1 := bxt.c 1 (.slice Abj Lbj cbj) rfl
      have kq_0 := bxq.c 0 (.int .i64 gaj) rfl
      have kq_1 := bxq.c 1 (.slice Aaj Laj caj) rfl
      have kr_0 := bxr.c 0 (.int .i64 0) rfl
      have kr_1 := bxr.c 1 (.slice Abj Lbj cbj) rfl
      go_wp2_with fail
      clear ka_0 ka_1 kb_0 kb_1 ks_0 ks_1 kt_0 kt_1 kq_0 kq_1 kr_0 kr_1
      have ks_0 := bxs.c 0 (.int .i64 gaj) rfl
      have ks_1 := bxs.c 1 (.slice Aaj Laj caj) rfl
      have kt_0 := bxt.c 0 (.int .i64 0) rfl
      have kt_1 := bxt.c 1 (.slice Abj Lbj cbj) rfl
      refine bodyPost_ret (v := .tuple #[.agg #[.int .i64 gaj, .slice Aaj Laj caj], .agg #[.int .i64 0, .slice Abj Lbj cbj]]) (by simp [results, Try.results78, go_sem, ks_0, ks_1, kt_0, kt_1]) rfl ?_
      exact ⟨_, _, _, _, _, _, _, _, rfl, HU.out.ext (Ext.drew _), HV.out.ext (Ext.drew _), x3.trans (Ext.drew _)⟩
    · have tt := True.intro
      clear tt
      have ka_0 := bxa.c 0 (.int .i64 g1) rfl
      have ka_1 := bxa.c 1 (.slice A1 L1 c1) rfl
      have kb_0 := bxb.c 0 (.int .i64 1) rfl
      have kb_1 := bxb.c 1 (.slice A2 L2 c2) rfl
      have ks_0 := bxs.c 0 (.int .i64 0) rfl
      have fs_0 := bxs.f 0
      have ks_1 := bxs.c 1 (.slice none 0 0) rfl
      have fs_1 := bxs.f 1
      have kt_0 := bxt.c 0 (.int .i64 0) rfl
      have ft_0 := bxt.f 0
      have kt_1 := bxt.c 1 (.slice none 0 0) rfl
      have ft_1 := bxt.f 1
      have t1a_0 := fun o => (Ext.alloc w1 o).cell ka_0
      have t2a_0 := fun o p => (Ext.alloc (w1.alloc o) p).cell ((Ext.alloc w1 o).cell ka_0)
      have t1a_1 := fun o => (Ext.alloc w1 o).cell ka_1
      have t2a_1 := fun o p => (Ext.alloc (w1.alloc o) p).cell ((Ext.alloc w1 o).cell ka_1)
      have t1b_0 := fun o => (Ext.alloc w1 o).cell kb_0
      have t2b_0 := fun o p => (Ext.alloc (w1.alloc o) p).cell ((Ext.alloc w1 o).cell kb_0)
      have t1b_1 := fun o => (Ext.alloc w1 o).cell kb_1
      have t2b_1 := fun o p => (Ext.alloc (w1.alloc o) p).cell ((Ext.alloc w1 o).cell kb_1)
      have t1s_0 := fun o => (Ext.alloc w1 o).cell ks_0
      have t2s_0 := fun o p => (Ext.alloc (w1.alloc o) p).cell ((Ext.alloc w1 o).cell ks_0)
      have t1s_1 := fun o => (Ext.alloc w1 o).cell ks_1
      have t2s_1 := fun o p => (Ext.alloc (w1.alloc o) p).cell ((Ext.alloc w1 o).cell ks_1)
      have t1t_0 := fun o => (Ext.alloc w1 o).cell kt_0
      have t2t_0 := fun o p => (Ext.alloc (w1.alloc o) p).cell ((Ext.alloc w1 o).cell kt_0)
      have t1t_1 := fun o => (Ext.alloc w1 o).cell kt_1
      have t2t_1 := fun o p => (Ext.alloc (w1.alloc o) p).cell ((Ext.alloc w1 o).cell kt_1)
      go_wp2_with fail
      clear ka_0 ka_1 kb_0 kb_1 ks_0 fs_0 ks_1 fs_1 kt_0 ft_0 kt_1 ft_1 t1a_0 t2a_0 t1a_1 t2a_1 t1b_0 t2b_0 t1b_1 t2b_1 t1s_0 t2s_0 t1s_1 t2s_1 t1t_0 t2t_0 t1t_1 t2t_1
      obtain ⟨w2, hw⟩ : ∃ z : World, z = (w1.alloc (.cells #[.int .i64 gaj, .slice Aaj Laj caj] 36)).alloc (.cells #[.int .i64 1, .slice Abj Lbj cbj] 36) := ⟨_, rfl⟩
      rw [← hw]
      have x2 : Ext w1 w2 := by rw [hw]; exact (Ext.alloc _ _).trans (Ext.alloc _ _)
      have bxq : BK w2 w1.heap.size 36 #[.int .i64 gaj, .slice Aaj Laj caj] := by rw [hw]; exact BK.ext (BK.new _ _ _) (Ext.alloc _ _)
      have bxr : BK w2 (w1.heap.size + 1) 36 #[.int .i64 1, .slice Abj Lbj cbj] := by rw [hw]; have h5 := BK.new (w1.alloc (.cells #[.int .i64 gaj, .slice Aaj Laj caj] 36)) #[.int .i64 1, .slice Abj Lbj cbj] 36; simpa only [World.size_alloc] using h5
      have szw2 : w2.heap.size = w1.heap.size + 1 + 1 := by rw [hw]; simp only [World.size_alloc]
      clear hw
      replace bxa := bxa.ext x2
      replace bxb := bxb.ext x2
      replace bxs := bxs.ext x2
      replace bxt := bxt.ext x2
      have ka_0 := bxa.c 0 (.int .i64 g1) rfl
      have ka_1 := bxa.c 1 (.slice A1 L1 c1) rfl
      have kb_0 := bxb.c 0 (.int .i64 1) rfl
      have kb_1 := bxb.c 1 (.slice A2 L2 c2) rfl
      have ks_0 := bxs.c 0 (.int .i64 0) rfl
      have fs_0 := bxs.f 0
      have ks_1 := bxs.c 1 (.slice none 0 0) rfl
      have fs_1 := bxs.f 1
      have kt_0 := bxt.c 0 (.int .i64 0) rfl
      have ft_0 := bxt.f 0
      have kt_1 := bxt.c 1 (.slice none 0 0) rfl
      have ft_1 := bxt.f 1
      have kq_0 := bxq.c 0 (.int .i64 gaj) rfl
      have kq_1 := bxq.c 1 (.slice Aaj Laj caj) rfl
      have kr_0 := bxr.c 0 (.int .i64 1) rfl
      have kr_1 := bxr.c 1 (.slice Abj Lbj cbj) rfl
      have HK : Hid (∀ w', Ext w2 w' → (w'.cell? ⟨w1.heap.size, 0, none⟩ = some (.int .i64 gaj) ∧ w'.cell? ⟨w1.heap.size, 1, none⟩ = some (.slice Aaj Laj caj) ∧ w'.cell? ⟨w1.heap.size + 1, 0, none⟩ = some (.int .i64 1) ∧ w'.cell? ⟨w1.heap.size + 1, 1, none⟩ = some (.slice Abj Lbj cbj))) := fun w' hk => ⟨hk.cell kq_0, hk.cell kq_1, hk.cell kr_0, hk.cell kr_1⟩
      have nesq : w.heap.size + 1 + 1 ≠ w1.heap.size := by omega
      have nesr : w.heap.size + 1 + 1 ≠ w1.heap.size + 1 := by omega
      have HSs : Hid (∀ (w' : World) (i : Nat) (u : Value), (w'.cell? ⟨w1.heap.size, 0, none⟩ = some (.int .i64 gaj) ∧ w'.cell? ⟨w1.heap.size, 1, none⟩ = some (.slice Aaj Laj caj) ∧ w'.cell? ⟨w1.heap.size + 1, 0, none⟩ = some (.int .i64 1) ∧ w'.cell? ⟨w1.heap.size + 1, 1, none⟩ = some (.slice Abj Lbj cbj)) → ((fun (w' : World) => (w'.cell? ⟨w1.heap.size, 0, none⟩ = some (.int .i64 gaj) ∧ w'.cell? ⟨w1.heap.size, 1, none⟩ = some (.slice Aaj Laj caj) ∧ w'.cell? ⟨w1.heap.size + 1, 0, none⟩ = some (.int .i64 1) ∧ w'.cell? ⟨w1.heap.size + 1, 1, none⟩ = some (.slice Abj Lbj cbj))) (w'.setCell ⟨w.heap.size + 1 + 1, i, none⟩ u))) := fun w' i u hs => ⟨cell_far nesq hs.1, cell_far nesq hs.2.1, cell_far nesr hs.2.2.1, cell_far nesr hs.2.2.2⟩
      have netq : w.heap.size + 1 + 1 + 1 ≠ w1.heap.size := by omega
      have netr : w.heap.size + 1 + 1 + 1 ≠ w1.heap.size + 1 := by omega
      have HSt : Hid (∀ (w' : World) (i : Nat) (u : Value), (w'.cell? ⟨w1.heap.size, 0, none⟩ = some (.int .i64 gaj) ∧ w'.cell? ⟨w1.heap.size, 1, none⟩ = some (.slice Aaj Laj caj) ∧ w'.cell? ⟨w1.heap.size + 1, 0, none⟩ = some (.int .i64 1) ∧ w'.cell? ⟨w1.heap.size + 1, 1, none⟩ = some (.slice Abj Lbj cbj)) → ((fun (w' : World) => (w'.cell? ⟨w1.heap.size, 0, none⟩ = some (.int .i64 gaj) ∧ w'.cell? ⟨w1.heap.size, 1, none⟩ = some (.slice Aaj Laj caj) ∧ w'.cell? ⟨w1.heap.size + 1, 0, none⟩ = some (.int .i64 1) ∧ w'.cell? ⟨w1.heap.size + 1, 1, none⟩ = some (.slice Abj Lbj cbj))) (w'.setCell ⟨w.heap.size + 1 + 1 + 1, i, none⟩ u))) := fun w' i u hs => ⟨cell_far netq hs.1, cell_far netq hs.2.1, cell_far netr hs.2.2.1, cell_far netr hs.2.2.2⟩
      have HSD : Hid (∀ (w' : World), (w'.cell? ⟨w1.heap.size, 0, none⟩ = some (.int .i64 gaj) ∧ w'.cell? ⟨w1.heap.size, 1, none⟩ = some (.slice Aaj Laj caj) ∧ w'.cell? ⟨w1.heap.size + 1, 0, none⟩ = some (.int .i64 1) ∧ w'.cell? ⟨w1.heap.size + 1, 1, none⟩ = some (.slice Abj Lbj cbj)) → ((fun (w' : World) => (w'.cell? ⟨w1.heap.size, 0, none⟩ = some (.int .i64 gaj) ∧ w'.cell? ⟨w1.heap.size, 1, none⟩ = some (.slice Aaj Laj caj) ∧ w'.cell? ⟨w1.heap.size + 1, 0, none⟩ = some (.int .i64 1) ∧ w'.cell? ⟨w1.heap.size + 1, 1, none⟩ = some (.slice Abj Lbj cbj))) w'.drew)) := fun w' hs => hs
      go_region_held3 (fun w' => w'.cell? ⟨w1.heap.size, 0, none⟩ = some (.int .i64 gaj) ∧ w'.cell? ⟨w1.heap.size, 1, none⟩ = some (.slice Aaj Laj caj) ∧ w'.cell? ⟨w1.heap.size + 1, 0, none⟩ = some (.int .i64 1) ∧ w'.cell? ⟨w1.heap.size + 1, 1, none⟩ = some (.slice Abj Lbj cbj))
        (((repeat (first | (with_reducible refine HSD.out _ ?_) | (with_reducible refine HSs.out _ _ _ ?_) | (with_reducible refine HSt.out _ _ _ ?_))); (with_reducible refine HK.out _ ?_; (with_reducible repeat' first | exact Ext.refl _ | assumption | apply Ext.alloc_r | apply Ext.drew_r | apply Ext.drewN_r | refine Ext.trans ?_ ‹Ext _ _›))))
        (fail)
      clear HK HSD HSs nesq nesr HSt netq netr
      clear ka_0 ka_1 kb_0 kb_1 ks_0 fs_0 ks_1 fs_1 kt_0 ft_0 kt_1 ft_1 kq_0 kq_1 kr_0 kr_1
      have u := HJ.out.1.ext (show Ext _ w2 from (by with_reducible repeat' first | exact Ext.refl _ | assumption | apply Ext.alloc_r | apply Ext.drew_r | apply Ext.drewN_r | refine Ext.trans ?_ ‹Ext _ _›))
      have v := HJ.out.2.ext (show Ext _ w2 from (by with_reducible repeat' first | exact Ext.refl _ | assumption | apply Ext.alloc_r | apply Ext.drew_r | apply Ext.drewN_r | refine Ext.trans ?_ ‹Ext _ _›))
      clear HJ
      obtain ⟨w3, hw⟩ : ∃ z : World, z = ((((w2.setCell ⟨w.heap.size + 1 + 1, 0, none⟩ (.int .i64 gaj)).setCell ⟨w.heap.size + 1 + 1, 1, none⟩ (.slice Aaj Laj caj)).setCell ⟨w.heap.size + 1 + 1 + 1, 0, none⟩ (.int .i64 1)).setCell ⟨w.heap.size + 1 + 1 + 1, 1, none⟩ (.slice Abj Lbj cbj)) := ⟨_, rfl⟩
      rw [← hw]
      have kw3 : Kept w2 w3 := by rw [hw]; exact (Kept.set_ (Kept.set_ (Kept.set_ (Kept.set_ (Kept.refl _) bxs.isBox plain_Z) (IsBox.set_ bxs.isBox) plain_Z) (IsBox.set_ (IsBox.set_ bxt.isBox)) plain_Z) (IsBox.set_ (IsBox.set_ (IsBox.set_ bxt.isBox))) plain_Z)
      have nba : BK w3 (w.heap.size) 36 #[.int .i64 g1, .slice A1 L1 c1] := by rw [hw]; exact (BK.far (BK.far (BK.far (BK.far bxa (show w.heap.size ≠ w.heap.size + 1 + 1 by omega) 0 _) (show w.heap.size ≠ w.heap.size + 1 + 1 by omega) 1 _) (show w.heap.size ≠ w.heap.size + 1 + 1 + 1 by omega) 0 _) (show w.heap.size ≠ w.heap.size + 1 + 1 + 1 by omega) 1 _)
      have nbb : BK w3 (w.heap.size + 1) 36 #[.int .i64 1, .slice A2 L2 c2] := by rw [hw]; exact (BK.far (BK.far (BK.far (BK.far bxb (show w.heap.size + 1 ≠ w.heap.size + 1 + 1 by omega) 0 _) (show w.heap.size + 1 ≠ w.heap.size + 1 + 1 by omega) 1 _) (show w.heap.size + 1 ≠ w.heap.size + 1 + 1 + 1 by omega) 0 _) (show w.heap.size + 1 ≠ w.heap.size + 1 + 1 + 1 by omega) 1 _)
      have nbs : BK w3 (w.heap.size + 1 + 1) 36 #[.int .i64 gaj, .slice Aaj Laj caj] := by rw [hw]; exact (BK.far (BK.far (BK.set (i := 1) (u := .slice Aaj Laj caj) (vs' := #[.int .i64 gaj, .slice Aaj Laj caj]) (BK.set (i := 0) (u := .int .i64 gaj) (vs' := #[.int .i64 gaj, .slice none 0 0]) bxs rfl) rfl) (show w.heap.size + 1 + 1 ≠ w.heap.size + 1 + 1 + 1 by omega) 0 _) (show w.heap.size + 1 + 1 ≠ w.heap.size + 1 + 1 + 1 by omega) 1 _)
      have nbt : BK w3 (w.heap.size + 1 + 1 + 1) 36 #[.int .i64 1, .slice Abj Lbj cbj] := by rw [hw]; exact (BK.set (i := 1) (u := .slice Abj Lbj cbj) (vs' := #[.int .i64 1, .slice Abj Lbj cbj]) (BK.set (i := 0) (u := .int .i64 1) (vs' := #[.int .i64 1, .slice none 0 0]) (BK.far (BK.far bxt (show w.heap.size + 1 + 1 + 1 ≠ w.heap.size + 1 + 1 by omega) 0 _) (show w.heap.size + 1 + 1 + 1 ≠ w.heap.size + 1 + 1 by omega) 1 _) rfl) rfl)
      have nbq : BK w3 (w1.heap.size) 36 #[.int .i64 gaj, .slice Aaj Laj caj] := by rw [hw]; exact (BK.far (BK.far (BK.far (BK.far bxq (show w1.heap.size ≠ w.heap.size + 1 + 1 by omega) 0 _) (show w1.heap.size ≠ w.heap.size + 1 + 1 by omega) 1 _) (show w1.heap.size ≠ w.heap.size + 1 + 1 + 1 by omega) 0 _) (show w1.heap.size ≠ w.heap.size + 1 + 1 + 1 by omega) 1 _)
      have nbr : BK w3 (w1.heap.size + 1) 36 #[.int .i64 1, .slice Abj Lbj cbj] := by rw [hw]; exact (BK.far (BK.far (BK.far (BK.far bxr (show w1.heap.size + 1 ≠ w.heap.size + 1 + 1 by omega) 0 _) (show w1.heap.size + 1 ≠ w.heap.size + 1 + 1 by omega) 1 _) (show w1.heap.size + 1 ≠ w.heap.size + 1 + 1 + 1 by omega) 0 _) (show w1.heap.size + 1 ≠ w.heap.size + 1 + 1 + 1 by omega) 1 _)
      have x3 : Ext w w3 := by rw [hw]; have hxp : Ext w w2 := (by with_reducible repeat' first | exact Ext.refl _ | assumption | apply Ext.alloc_r | apply Ext.drew_r | apply Ext.drewN_r | refine Ext.trans ?_ ‹Ext _ _›); exact (Ext.set_ (Ext.set_ (Ext.set_ (Ext.set_ hxp (show _ ≤ w.heap.size + 1 + 1 by omega)) (show _ ≤ w.heap.size + 1 + 1 by omega)) (show _ ≤ w.heap.size + 1 + 1 + 1 by omega)) (show _ ≤ w.heap.size + 1 + 1 + 1 by omega))
      clear bxa
      clear bxb
      clear bxs
      clear bxt
      clear bxq
      clear bxr
      have bxa := nba
      clear nba
      have bxb := nbb
      clear nbb
      have bxs := nbs
      clear nbs
      have bxt := nbt
      clear nbt
      have bxq := nbq
      clear nbq
      have bxr := nbr
      clear nbr
      have szw3 : w3.heap.size = w2.heap.size := by rw [hw]; simp
      replace u := (u.ext (by with_reducible repeat' first | exact Ext.refl _ | assumption | apply Ext.alloc_r | apply Ext.drew_r | apply Ext.drewN_r | refine Ext.trans ?_ ‹Ext _ _›)).kept kw3
      replace v := (v.ext (by with_reducible repeat' first | exact Ext.refl _ | assumption | apply Ext.alloc_r | apply Ext.drew_r | apply Ext.drewN_r | refine Ext.trans ?_ ‹Ext _ _›)).kept kw3
      clear hw kw3
      have hu : RZ w3 gaj Aaj caj Laj (x / y) := by rw [HAB.out.1]; exact u
      have hv : RZ w3 1 Abj cbj Lbj (x % y) := by rw [HAB.out.2]; exact v
      have HU := Lib.hid hu
      have HV := Lib.hid hv
      clear u v hu hv HAB
      have ka_0 := bxa.c 0 (.int .i64 g1) rfl
      have ka_1 := bxa.c 1 (.slice A1 L1 c1) rfl
      have kb_0 := bxb.c 0 (.int .i64 1) rfl
      have kb_1 := bxb.c 1 (.slice A2 L2 c2) rfl
      have ks_0 := bxs.c 0 (.int .i64 gaj) rfl
      have ks_1 := bxs.c 1 (.slice Aaj Laj caj) rfl
      have kt_0 := bxt.c 0 (.int .i64 1) rfl
      have kt_1 := bxt.c 1 (.slice Abj Lbj cbj) rfl
      have kq_0 := bxq.c 0 (.int .i64 gaj) rfl
      have kq_1 := bxq.c 1 (.slice Aaj Laj caj) rfl
      have kr_0 := bxr.c 0 (.int .i64 1) rfl
      have kr_1 := bxr.c 1 (.slice Abj Lbj cbj) rfl
      go_wp2_with fail
      clear ka_0 ka_1 kb_0 kb_1 ks_0 ks_1 kt_0 kt_1 kq_0 kq_1 kr_0 kr_1
      have ks_0 := bxs.c 0 (.int .i64 gaj) rfl
      have ks_1 := bxs.c 1 (.slice Aaj Laj caj) rfl
      have kt_0 := bxt.c 0 (.int .i64 1) rfl
      have kt_1 := bxt.c 1 (.slice Abj Lbj cbj) rfl
      refine bodyPost_ret (v := .tuple #[.agg #[.int .i64 gaj, .slice Aaj Laj caj], .agg #[.int .i64 1, .slice Abj Lbj cbj]]) (by simp [results, Try.results78, go_sem, ks_0, ks_1, kt_0, kt_1]) rfl ?_
      exact ⟨_, _, _, _, _, _, _, _, rfl, HU.out.ext (Ext.drew _), HV.out.ext (Ext.drew _), x3.trans (Ext.drew _)⟩
set_option maxHeartbeats 4000000 in
set_option maxRecDepth 100000 in
theorem qfloor_r {w : World} {g1 h1 : Int} {A1 B1 : Option Addr} {c1 d1 L1 M1 K1 : Nat} {q1 : Rat} (z1 : QR w g1 A1 c1 L1 h1 B1 d1 M1 K1 q1) (hs1 : K1 ≤ 1000000000) :
    Calls Try.prog 28 #[Value.agg #[.int .i64 g1, .slice A1 L1 c1, .int .i64 h1, .slice B1 M1 d1]] w (RetRZ w (floorQ q1)) := by
  obtain ⟨x1, y1, a1, b1, p1, e1, m1, n1⟩ := z1.ex
  have HQ : Hid (floorQ q1 = x1 / (y1 : Int)) := by show _ = _; rw [e1]; exact floorQ_mk p1
  have j1 : bl ((y1 : Int)).natAbs = bl y1 := by rw [Int.natAbs_natCast]
  have HF : Hid (∀ w', Ext w w' → Calls Try.prog 78 #[Value.agg #[.int .i64 g1, .slice A1 L1 c1], Value.agg #[.int .i64 h1, .slice B1 M1 d1]] w' (RetRR w' (x1 / (y1 : Int)) (x1 % (y1 : Int)))) := fun w' hx => rfloor_rz (a1.ext hx) (b1.ext hx) (by omega) (by omega) (by omega)
  clear z1 e1 a1 b1 j1
  go_enter Try.func28, Try.ntmps28
  go_wp2_with fail
  obtain ⟨w0, hw0⟩ : ∃ z : World, z = ((w.alloc (.cells #[.int .i64 g1, .slice A1 L1 c1, .int .i64 h1, .slice B1 M1 d1] 38)).alloc (.cells #[.int .i64 0, .slice none 0 0] 36)) := ⟨_, rfl⟩
  rw [← hw0]
  have bxa : BK w0 (w.heap.size) 38 #[.int .i64 g1, .slice A1 L1 c1, .int .i64 h1, .slice B1 M1 d1] := by rw [hw0]; have h5 := (BK.ext (BK.new w #[.int .i64 g1, .slice A1 L1 c1, .int .i64 h1, .slice B1 M1 d1] 38) (Ext.alloc _ (.cells #[.int .i64 0, .slice none 0 0] 36))); simpa only [World.size_alloc] using h5
  have bxs : BK w0 (w.heap.size + 1) 36 #[.int .i64 0, .slice none 0 0] := by rw [hw0]; have h5 := (BK.new (w.alloc (.cells #[.int .i64 g1, .slice A1 L1 c1, .int .i64 h1, .slice B1 M1 d1] 38)) #[.int .i64 0, .slice none 0 0] 36); simpa only [World.size_alloc] using h5
  have hszw0 : w0.heap.size = w.heap.size + 1 + 1 := by rw [hw0]; simp only [World.size_alloc]
  have xw0 : Ext w w0 := by rw [hw0]; exact ((Ext.alloc _ _).trans (Ext.alloc _ _))
  clear hw0
  refine (HF.out _ (by with_reducible repeat' first | exact Ext.refl _ | assumption | apply Ext.alloc_r | apply Ext.drew_r | apply Ext.drewN_r | refine Ext.trans ?_ ‹Ext _ _›)).mono ?_
  rintro e w1 ⟨gaj, Aaj, caj, Laj, gbj, Abj, cbj, Lbj, rfl, ja, jb, x1⟩
  have szw1 : w0.heap.size ≤ w1.heap.size := x1.size
  replace bxa := bxa.ext x1
  replace bxs := bxs.ext x1
  have HJ := Lib.hid ja
  clear ja jb HF
  have ka_0 := bxa.c 0 (.int .i64 g1) rfl
  have ka_1 := bxa.c 1 (.slice A1 L1 c1) rfl
  have ka_2 := bxa.c 2 (.int .i64 h1) rfl
  have ka_3 := bxa.c 3 (.slice B1 M1 d1) rfl
  have ks_0 := bxs.c 0 (.int .i64 0) rfl
  have fs_0 := bxs.f 0
  have ks_1 := bxs.c 1 (.slice none 0 0) rfl
  have fs_1 := bxs.f 1
  have t1a_0 := fun (o0 : Obj) => ((Ext.alloc w1 o0).cell (bxa.c 0 (.int .i64 g1) rfl))
  have t2a_0 := fun (o0 : Obj) (o1 : Obj) => ((Ext.alloc (w1.alloc o0) o1).cell ((Ext.alloc w1 o0).cell (bxa.c 0 (.int .i64 g1) rfl)))
  have t1a_1 := fun (o0 : Obj) => ((Ext.alloc w1 o0).cell (bxa.c 1 (.slice A1 L1 c1) rfl))
  have t2a_1 := fun (o0 : Obj) (o1 : Obj) => ((Ext.alloc (w1.alloc o0) o1).cell ((Ext.alloc w1 o0).cell (bxa.c 1 (.slice A1 L1 c1) rfl)))
  have t1a_2 := fun (o0 : Obj) => ((Ext.alloc w1 o0).cell (bxa.c 2 (.int .i64 h1) rfl))
  have t2a_2 := fun (o0 : Obj) (o1 : Obj) => ((Ext.alloc (w1.alloc o0) o1).cell ((Ext.alloc w1 o0).cell (bxa.c 2 (.int .i64 h1) rfl)))
  have t1a_3 := fun (o0 : Obj) => ((Ext.alloc w1 o0).cell (bxa.c 3 (.slice B1 M1 d1) rfl))
  have t2a_3 := fun (o0 : Obj) (o1 : Obj) => ((Ext.alloc (w1.alloc o0) o1).cell ((Ext.alloc w1 o0).cell (bxa.c 3 (.slice B1 M1 d1) rfl)))
  have t1s_0 := fun (o0 : Obj) => ((Ext.alloc w1 o0).cell (bxs.c 0 (.int .i64 0) rfl))
  have z1s_0 := fun (o0 : Obj) => (Ext.frozen (Ext.alloc w1 o0) (bxs.c 0 (.int .i64 0) rfl) (bxs.f 0))
  have t2s_0 := fun (o0 : Obj) (o1 : Obj) => ((Ext.alloc (w1.alloc o0) o1).cell ((Ext.alloc w1 o0).cell (bxs.c 0 (.int .i64 0) rfl)))
  have z2s_0 := fun (o0 : Obj) (o1 : Obj) => (Ext.frozen (Ext.alloc (w1.alloc o0) o1) ((Ext.alloc w1 o0).cell (bxs.c 0 (.int .i64 0) rfl)) (Ext.frozen (Ext.alloc w1 o0) (bxs.c 0 (.int .i64 0) rfl) (bxs.f 0)))
  have t1s_1 := fun (o0 : Obj) => ((Ext.alloc w1 o0).cell (bxs.c 1 (.slice none 0 0) rfl))
  have z1s_1 := fun (o0 : Obj) => (Ext.frozen (Ext.alloc w1 o0) (bxs.c 1 (.slice none 0 0) rfl) (bxs.f 1))
  have t2s_1 := fun (o0 : Obj) (o1 : Obj) => ((Ext.alloc (w1.alloc o0) o1).cell ((Ext.alloc w1 o0).cell (bxs.c 1 (.slice none 0 0) rfl)))
  have z2s_1 := fun (o0 : Obj) (o1 : Obj) => (Ext.frozen (Ext.alloc (w1.alloc o0) o1) ((Ext.alloc w1 o0).cell (bxs.c 1 (.slice none 0 0) rfl)) (Ext.frozen (Ext.alloc w1 o0) (bxs.c 1 (.slice none 0 0) rfl) (bxs.f 1)))
  go_wp2_with fail
  clear ka_0 ka_1 ka_2 ka_3 ks_0 fs_0 ks_1 fs_1 t1a_0 t2a_0 t1a_1 t2a_1 t1a_2 t2a_2 t1a_3 t2a_3 t1s_0 z1s_0 t2s_0 z2s_0 t1s_1 z1s_1 t2s_1 z2s_1
  obtain ⟨w2, hw⟩ : ∃ z : World, z = ((w1.alloc (.cells #[.int .i64 gaj, .slice Aaj Laj caj] 36)).alloc (.cells #[.int .i64 gbj, .slice Abj Lbj cbj] 36)) := ⟨_, rfl⟩
  rw [← hw]
  have x2 : Ext w1 w2 := by rw [hw]; exact ((Ext.alloc _ _).trans (Ext.alloc _ _))
  replace bxa := bxa.ext x2
  replace bxs := bxs.ext x2
  have bxq : BK w2 (w1.heap.size) 36 #[.int .i64 gaj, .slice Aaj Laj caj] := by rw [hw]; have h5 := (BK.ext (BK.new w1 #[.int .i64 gaj, .slice Aaj Laj caj] 36) (Ext.alloc _ (.cells #[.int .i64 gbj, .slice Abj Lbj cbj] 36))); simpa only [World.size_alloc] using h5
  have bxr : BK w2 (w1.heap.size + 1) 36 #[.int .i64 gbj, .slice Abj Lbj cbj] := by rw [hw]; have h5 := (BK.new (w1.alloc (.cells #[.int .i64 gaj, .slice Aaj Laj caj] 36)) #[.int .i64 gbj, .slice Abj Lbj cbj] 36); simpa only [World.size_alloc] using h5
  have szw2 : w2.heap.size = w1.heap.size + 1 + 1 := by rw [hw]; simp only [World.size_alloc]
  clear hw
  have u := HJ.out.ext (show Ext _ w2 from (by with_reducible repeat' first | exact Ext.refl _ | assumption | apply Ext.alloc_r | apply Ext.drew_r | apply Ext.drewN_r | refine Ext.trans ?_ ‹Ext _ _›))
  clear HJ
  obtain ⟨w3, hw⟩ : ∃ z : World, z = ((w2.setCell ⟨w.heap.size + 1, 0, none⟩ (.int .i64 gaj)).setCell ⟨w.heap.size + 1, 1, none⟩ (.slice Aaj Laj caj)) := ⟨_, rfl⟩
  rw [← hw]
  have kw3 : Kept w2 w3 := by rw [hw]; exact (Kept.set_ (Kept.set_ (Kept.refl _) bxs.isBox plain_Z) (IsBox.set_ bxs.isBox) plain_Z)
  have nba : BK w3 (w.heap.size) 38 #[.int .i64 g1, .slice A1 L1 c1, .int .i64 h1, .slice B1 M1 d1] := by rw [hw]; exact (BK.far (BK.far bxa (show w.heap.size ≠ w.heap.size + 1 by omega) 0 _) (show w.heap.size ≠ w.heap.size + 1 by omega) 1 _)
  have nbs : BK w3 (w.heap.size + 1) 36 #[.int .i64 gaj, .slice Aaj Laj caj] := by rw [hw]; exact (BK.set (i := 1) (u := .slice Aaj Laj caj) (vs' := #[.int .i64 gaj, .slice Aaj Laj caj]) (BK.set (i := 0) (u := .int .i64 gaj) (vs' := #[.int .i64 gaj, .slice none 0 0]) bxs rfl) rfl)
  have nbq : BK w3 (w1.heap.size) 36 #[.int .i64 gaj, .slice Aaj Laj caj] := by rw [hw]; exact (BK.far (BK.far bxq (show w1.heap.size ≠ w.heap.size + 1 by omega) 0 _) (show w1.heap.size ≠ w.heap.size + 1 by omega) 1 _)
  have nbr : BK w3 (w1.heap.size + 1) 36 #[.int .i64 gbj, .slice Abj Lbj cbj] := by rw [hw]; exact (BK.far (BK.far bxr (show w1.heap.size + 1 ≠ w.heap.size + 1 by omega) 0 _) (show w1.heap.size + 1 ≠ w.heap.size + 1 by omega) 1 _)
  have x3 : Ext w w3 := by rw [hw]; have hxp : Ext w w2 := (by with_reducible repeat' first | exact Ext.refl _ | assumption | apply Ext.alloc_r | apply Ext.drew_r | apply Ext.drewN_r | refine Ext.trans ?_ ‹Ext _ _›); exact (Ext.set_ (Ext.set_ hxp (show _ ≤ w.heap.size + 1 by omega)) (show _ ≤ w.heap.size + 1 by omega))
  clear bxa
  clear bxs
  clear bxq
  clear bxr
  have bxa := nba
  clear nba
  have bxs := nbs
  clear nbs
  have bxq := nbq
  clear nbq
  have bxr := nbr
  clear nbr
  have szw3 : w3.heap.size = w2.heap.size := by rw [hw]; simp
  replace u := (u.ext (by with_reducible repeat' first | exact Ext.refl _ | assumption | apply Ext.alloc_r | apply Ext.drew_r | apply Ext.drewN_r | refine Ext.trans ?_ ‹Ext _ _›)).kept kw3
  clear hw kw3
  have hu : RZ w3 gaj Aaj caj Laj (floorQ q1) := by rw [HQ.out]; exact u
  have HU := Lib.hid hu
  clear u hu
  have ks_0 := bxs.c 0 (.int .i64 gaj) rfl
  have ks_1 := bxs.c 1 (.slice Aaj Laj caj) rfl
  refine bodyPost_ret (v := .agg #[.int .i64 gaj, .slice Aaj Laj caj]) (by simp [results, Try.results28, go_sem, ks_0, ks_1]) rfl ?_
  exact ⟨_, _, _, _, rfl, HU.out, x3⟩
theorem rat_int (x : Int) : (x : Rat) = mkRat x 1 := (Rat.mkRat_self (x : Rat)).symm
theorem qr_int {w : World} {g h : Int} {A B : Option Addr} {c d L M K : Nat} {x : Int} (h1 : RZ w g A c L x) (h2 : RZ w h B d M 1) (hb : bl x.natAbs ≤ K) (hK : 1 ≤ K) : QR w g A c L h B d M K (x : Rat) :=
  ⟨x, 1, h1, h2, by omega, rat_int x, hb, Nat.le_trans (bl_of_lt (by omega)) hK⟩
end Go.Proofs.Ytfnmbhjifdfibaa
