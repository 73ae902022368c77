/- Contracts of packages cylinderref03 (Quo, Abs, Gcd) and cylinderref05. -/
import Derived.Test.YtehhkeenjlpikaaGreatSeRatX
import Derived.Test.YtehhkeenjlpikaaGreatRefY
import Derived.Test.YtehhkeenjlpikaaGreatSeRefH
import Derived.Deep.RegionHeldLaw
import Derived.Deep.LoopGhost
import Derived.Deep.QuietTactic
import Derived.BigQuiet
import Derived.Test.YtehhkeenjlpikaaGreatSeLawZ
namespace Go.Proofs.YtehhkeenjlpikaaGreat
open Go.RowKit
theorem tdiv_sgn (x y : Int) : (x.sign * y.sign < 0 → x.tdiv y ≤ 0) ∧ (¬ x.sign * y.sign < 0 → 0 ≤ x.tdiv y) := by
  have key : ∀ a b : Int, 0 ≤ a → 0 ≤ b → 0 ≤ a.tdiv b := fun a b ha hb => Int.tdiv_nonneg ha hb
  rcases sign_cases x with ⟨h1, a⟩ | ⟨h1, a⟩ | ⟨h1, a⟩
  · rcases sign_cases y with ⟨h2, b⟩ | ⟨h2, b⟩ | ⟨h2, b⟩
    · rw [a, b]
      have h5 := key (-x) (-y) (by omega) (by omega)
      rw [Int.neg_tdiv, Int.tdiv_neg] at h5
      omega
    · rw [a, b, h2, Int.tdiv_zero]; omega
    · rw [a, b]
      have h5 := key (-x) y (by omega) (by omega)
      rw [Int.neg_tdiv] at h5
      omega
  · rw [a, h1, Int.zero_tdiv]; omega
  · rcases sign_cases y with ⟨h2, b⟩ | ⟨h2, b⟩ | ⟨h2, b⟩
    · rw [a, b]
      have h5 := key x (-y) (by omega) (by omega)
      rw [Int.tdiv_neg] at h5
      omega
    · rw [a, b, h2, Int.tdiv_zero]; omega
    · rw [a, b]
      have h5 := key x y (by omega) (by omega)
      omega
theorem tmod_sgn (x y : Int) : (x.sign < 0 → x.tmod y ≤ 0) ∧ (¬ x.sign < 0 → 0 ≤ x.tmod y) := by
  rcases sign_cases x with ⟨h1, a⟩ | ⟨h1, a⟩ | ⟨h1, a⟩
  · have h5 := Int.tmod_nonneg y (show 0 ≤ -x by omega)
    rw [Int.neg_tmod] at h5
    omega
  · rw [a, h1, Int.zero_tmod]; omega
  · have h5 := Int.tmod_nonneg y (show 0 ≤ x by omega)
    omega
/-- The call returns two integers of the reference. -/
def RetRR (w : World) (x y : Int) (e : Ending) (w' : World) : Prop := ∃ g A c L h B d M, e = .returned (.tuple #[.agg #[.int .i64 g, .slice A L c], .agg #[.int .i64 h, .slice B M d]]) ∧ RZ w' g A c L x ∧ RZ w' h B d M y ∧ Ext w w'
set_option maxHeartbeats 4000000 in
set_option maxRecDepth 100000 in
theorem rquo_rz {w : World} {g1 g2 : Int} {A1 A2 : Option Addr} {c1 c2 L1 L2 : Nat} {x y : Int} (h1 : RZ w g1 A1 c1 L1 x) (h2 : RZ w g2 A2 c2 L2 y) (hy : y ≠ 0) (hs1 : bl x.natAbs ≤ 2199023255552) (hs2 : bl y.natAbs ≤ 2199023255552) :
    Calls Tryz.prog 93 #[Value.agg #[.int .i64 g1, .slice A1 L1 c1], Value.agg #[.int .i64 g2, .slice A2 L2 c2]] w (RetRR w (x.tdiv y) (x.tmod y)) := by
  have hbd : -1 ≤ g1 * g2 ∧ g1 * g2 ≤ 1 := by rw [h1.sign, h2.sign]; exact sign_mul_bd
  have HD : Hid (∀ w', Ext w w' → Calls Tryz.prog 118 #[.slice A1 L1 c1, .slice A2 L2 c2] w' (RetBB w' (x.natAbs / y.natAbs) (x.natAbs % y.natAbs))) := fun w' hx => by
    rw [h1.len, h2.len]
    exact rdivMod_any (h1.bn.ext hx) (h2.bn.ext hx) (by omega) hs1 hs2
  have HM1 : Hid (∀ w' A c, BN w' A c (x.natAbs / y.natAbs) → Calls Tryz.prog 86 #[.bool (decide (IntKind.i64.wrap (g1 * g2) < 0)), .slice A (digs 2 (x.natAbs / y.natAbs)).length c] w' (RetRZ w' (x.tdiv y))) := fun w' A c h => by
    rw [IntWalk.i64_in _ (by omega)]
    refine make_rz h (Int.natAbs_tdiv _ _) (fun e => ?_) (fun e => ?_)
    · have := of_decide_eq_true e; rw [h1.sign, h2.sign] at this; exact (tdiv_sgn x y).1 this
    · have := of_decide_eq_false e; rw [h1.sign, h2.sign] at this; exact (tdiv_sgn x y).2 this
  have HM2 : Hid (∀ w' A c, BN w' A c (x.natAbs % y.natAbs) → Calls Tryz.prog 86 #[.bool (decide (g1 < 0)), .slice A (digs 2 (x.natAbs % y.natAbs)).length c] w' (RetRZ w' (x.tmod y))) := fun w' A c h => by
    refine make_rz h (Int.natAbs_tmod _ _) (fun e => ?_) (fun e => ?_)
    · have := of_decide_eq_true e; rw [h1.sign] at this; exact (tmod_sgn x y).1 this
    · have := of_decide_eq_false e; rw [h1.sign] at this; exact (tmod_sgn x y).2 this
  clear h1 h2 hs1 hs2 hy
  go_enter Tryz.func93, Tryz.ntmps93
  go_wp2_with fail
  obtain ⟨w0, hw0⟩ : ∃ z : World, z = ((((w.alloc (.cells #[.int .i64 g1, .slice A1 L1 c1] 34)).alloc (.cells #[.int .i64 g2, .slice A2 L2 c2] 34)).alloc (.cells #[.int .i64 0, .slice none 0 0] 34)).alloc (.cells #[.int .i64 0, .slice none 0 0] 34)) := ⟨_, rfl⟩
  rw [← hw0]
  have bxa : BK w0 (w.heap.size) 34 #[.int .i64 g1, .slice A1 L1 c1] := by rw [hw0]; have h5 := (BK.ext (BK.ext (BK.ext (BK.new w #[.int .i64 g1, .slice A1 L1 c1] 34) (Ext.alloc _ (.cells #[.int .i64 g2, .slice A2 L2 c2] 34))) (Ext.alloc _ (.cells #[.int .i64 0, .slice none 0 0] 34))) (Ext.alloc _ (.cells #[.int .i64 0, .slice none 0 0] 34))); simpa only [World.size_alloc] using h5
  have bxb : BK w0 (w.heap.size + 1) 34 #[.int .i64 g2, .slice A2 L2 c2] := by rw [hw0]; have h5 := (BK.ext (BK.ext (BK.new (w.alloc (.cells #[.int .i64 g1, .slice A1 L1 c1] 34)) #[.int .i64 g2, .slice A2 L2 c2] 34) (Ext.alloc _ (.cells #[.int .i64 0, .slice none 0 0] 34))) (Ext.alloc _ (.cells #[.int .i64 0, .slice none 0 0] 34))); simpa only [World.size_alloc] using h5
  have bxq : BK w0 (w.heap.size + 1 + 1) 34 #[.int .i64 0, .slice none 0 0] := by rw [hw0]; have h5 := (BK.ext (BK.new ((w.alloc (.cells #[.int .i64 g1, .slice A1 L1 c1] 34)).alloc (.cells #[.int .i64 g2, .slice A2 L2 c2] 34)) #[.int .i64 0, .slice none 0 0] 34) (Ext.alloc _ (.cells #[.int .i64 0, .slice none 0 0] 34))); simpa only [World.size_alloc] using h5
  have bxr : BK w0 (w.heap.size + 1 + 1 + 1) 34 #[.int .i64 0, .slice none 0 0] := by rw [hw0]; have h5 := (BK.new (((w.alloc (.cells #[.int .i64 g1, .slice A1 L1 c1] 34)).alloc (.cells #[.int .i64 g2, .slice A2 L2 c2] 34)).alloc (.cells #[.int .i64 0, .slice none 0 0] 34)) #[.int .i64 0, .slice none 0 0] 34); simpa only [World.size_alloc] using h5
  have hszw0 : w0.heap.size = w.heap.size + 1 + 1 + 1 + 1 := by rw [hw0]; simp only [World.size_alloc]
  have xw0 : Ext w w0 := by rw [hw0]; exact ((((Ext.alloc _ _).trans (Ext.alloc _ _)).trans (Ext.alloc _ _)).trans (Ext.alloc _ _))
  clear hw0
  have ka_0 := bxa.c 0 (.int .i64 g1) rfl
  have ka_1 := bxa.c 1 (.slice A1 L1 c1) rfl
  have kb_0 := bxb.c 0 (.int .i64 g2) rfl
  have kb_1 := bxb.c 1 (.slice A2 L2 c2) rfl
  have kq_0 := bxq.c 0 (.int .i64 0) rfl
  have kq_1 := bxq.c 1 (.slice none 0 0) rfl
  have kr_0 := bxr.c 0 (.int .i64 0) rfl
  have kr_1 := bxr.c 1 (.slice none 0 0) rfl
  go_wp2_with fail
  clear ka_0 ka_1 kb_0 kb_1 kq_0 kq_1 kr_0 kr_1
  refine (HD.out _ (by with_reducible repeat' first | exact Ext.refl _ | assumption | apply Ext.alloc_r | apply Ext.drew_r | apply Ext.drewN_r | refine Ext.trans ?_ ‹Ext _ _›)).mono ?_
  rintro e w1 ⟨Aqi, cqi, Ari, cri, rfl, ia, ib, x1⟩
  have szw1 : w0.heap.size ≤ w1.heap.size := x1.size
  replace bxa := bxa.ext x1
  replace bxb := bxb.ext x1
  replace bxq := bxq.ext x1
  replace bxr := bxr.ext x1
  have HN1 : Hid (∀ w', Ext w1 w' → Calls Tryz.prog 86 #[.bool (decide (IntKind.i64.wrap (g1 * g2) < 0)), .slice Aqi (digs 2 (x.natAbs / y.natAbs)).length cqi] w' (RetRZ w' (x.tdiv y))) := fun w' hx => HM1.out w' _ _ (ia.ext hx)
  have HN2 : Hid (∀ w', Ext w1 w' → Calls Tryz.prog 86 #[.bool (decide (g1 < 0)), .slice Ari (digs 2 (x.natAbs % y.natAbs)).length cri] w' (RetRZ w' (x.tmod y))) := fun w' hx => HM2.out w' _ _ (ib.ext hx)
  clear ia ib HD HM1 HM2
  generalize (digs 2 (x.natAbs / y.natAbs)).length = lq at *
  generalize (digs 2 (x.natAbs % y.natAbs)).length = lr at *
  have ka_0 := bxa.c 0 (.int .i64 g1) rfl
  have ka_1 := bxa.c 1 (.slice A1 L1 c1) rfl
  have kb_0 := bxb.c 0 (.int .i64 g2) rfl
  have kb_1 := bxb.c 1 (.slice A2 L2 c2) rfl
  have kq_0 := bxq.c 0 (.int .i64 0) rfl
  have fq_0 := bxq.f 0
  have kq_1 := bxq.c 1 (.slice none 0 0) rfl
  have fq_1 := bxq.f 1
  have kr_0 := bxr.c 0 (.int .i64 0) rfl
  have fr_0 := bxr.f 0
  have kr_1 := bxr.c 1 (.slice none 0 0) rfl
  have fr_1 := bxr.f 1
  go_wp2_with fail
  have HK : Hid (∀ w', Ext w1 w' → (w'.cell? ⟨w.heap.size, 0, none⟩ = some (.int .i64 g1) ∧ w'.cell? ⟨w.heap.size, 1, none⟩ = some (.slice A1 L1 c1) ∧ w'.cell? ⟨w.heap.size + 1, 0, none⟩ = some (.int .i64 g2) ∧ w'.cell? ⟨w.heap.size + 1, 1, none⟩ = some (.slice A2 L2 c2))) := fun w' hk => ⟨hk.cell ka_0, hk.cell ka_1, hk.cell kb_0, hk.cell kb_1⟩
  have neqa : w.heap.size + 1 + 1 ≠ w.heap.size := by omega
  have neqb : w.heap.size + 1 + 1 ≠ w.heap.size + 1 := by omega
  have HSq : Hid (∀ (w' : World) (i : Nat) (u : Value), (w'.cell? ⟨w.heap.size, 0, none⟩ = some (.int .i64 g1) ∧ w'.cell? ⟨w.heap.size, 1, none⟩ = some (.slice A1 L1 c1) ∧ w'.cell? ⟨w.heap.size + 1, 0, none⟩ = some (.int .i64 g2) ∧ w'.cell? ⟨w.heap.size + 1, 1, none⟩ = some (.slice A2 L2 c2)) → ((fun (w' : World) => (w'.cell? ⟨w.heap.size, 0, none⟩ = some (.int .i64 g1) ∧ w'.cell? ⟨w.heap.size, 1, none⟩ = some (.slice A1 L1 c1) ∧ w'.cell? ⟨w.heap.size + 1, 0, none⟩ = some (.int .i64 g2) ∧ w'.cell? ⟨w.heap.size + 1, 1, none⟩ = some (.slice A2 L2 c2))) (w'.setCell ⟨w.heap.size + 1 + 1, i, none⟩ u))) := fun w' i u hs => ⟨cell_far neqa hs.1, cell_far neqa hs.2.1, cell_far neqb hs.2.2.1, cell_far neqb hs.2.2.2⟩
  have nera : w.heap.size + 1 + 1 + 1 ≠ w.heap.size := by omega
  have nerb : w.heap.size + 1 + 1 + 1 ≠ w.heap.size + 1 := by omega
  have HSr : Hid (∀ (w' : World) (i : Nat) (u : Value), (w'.cell? ⟨w.heap.size, 0, none⟩ = some (.int .i64 g1) ∧ w'.cell? ⟨w.heap.size, 1, none⟩ = some (.slice A1 L1 c1) ∧ w'.cell? ⟨w.heap.size + 1, 0, none⟩ = some (.int .i64 g2) ∧ w'.cell? ⟨w.heap.size + 1, 1, none⟩ = some (.slice A2 L2 c2)) → ((fun (w' : World) => (w'.cell? ⟨w.heap.size, 0, none⟩ = some (.int .i64 g1) ∧ w'.cell? ⟨w.heap.size, 1, none⟩ = some (.slice A1 L1 c1) ∧ w'.cell? ⟨w.heap.size + 1, 0, none⟩ = some (.int .i64 g2) ∧ w'.cell? ⟨w.heap.size + 1, 1, none⟩ = some (.slice A2 L2 c2))) (w'.setCell ⟨w.heap.size + 1 + 1 + 1, i, none⟩ u))) := fun w' i u hs => ⟨cell_far nera hs.1, cell_far nera hs.2.1, cell_far nerb hs.2.2.1, cell_far nerb hs.2.2.2⟩
  go_region_held3 (fun w' => w'.cell? ⟨w.heap.size, 0, none⟩ = some (.int .i64 g1) ∧ w'.cell? ⟨w.heap.size, 1, none⟩ = some (.slice A1 L1 c1) ∧ w'.cell? ⟨w.heap.size + 1, 0, none⟩ = some (.int .i64 g2) ∧ w'.cell? ⟨w.heap.size + 1, 1, none⟩ = some (.slice A2 L2 c2))
    (((repeat (first | (with_reducible refine HSq.out _ _ _ ?_) | (with_reducible refine HSr.out _ _ _ ?_))); (with_reducible refine HK.out _ ?_; (with_reducible repeat' first | exact Ext.refl _ | assumption | apply Ext.alloc_r | apply Ext.drew_r | apply Ext.drewN_r | refine Ext.trans ?_ ‹Ext _ _›))))
    (first
      | (go_at_call 86; have hgd := u; clear hgd; refine (HN2.out _ (by with_reducible repeat' first | exact Ext.refl _ | assumption | apply Ext.alloc_r | apply Ext.drew_r | apply Ext.drewN_r | refine Ext.trans ?_ ‹Ext _ _›)).mono ?_; rintro e w3 ⟨gv, Av, cv, Lv, rfl, v, x3⟩; have yl : Ext w1 w3 := (by with_reducible repeat' first | exact Ext.refl _ | assumption | apply Ext.alloc_r | apply Ext.drew_r | apply Ext.drewN_r | refine Ext.trans ?_ ‹Ext _ _›); have cq_0 := (bxq.ext yl).c 0 (.int .i64 0) rfl; have gq_0 := (bxq.ext yl).f 0; have cq_1 := (bxq.ext yl).c 1 (.slice none 0 0) rfl; have gq_1 := (bxq.ext yl).f 1; have cr_0 := (bxr.ext yl).c 0 (.int .i64 0) rfl; have gr_0 := (bxr.ext yl).f 0; have cr_1 := (bxr.ext yl).c 1 (.slice none 0 0) rfl; have gr_1 := (bxr.ext yl).f 1)
      | (go_at_call_of 86 (#[Value.bool (decide (IntKind.i64.wrap (g1 * g2) < 0)), Value.slice Aqi lq cqi]); refine (HN1.out _ (by with_reducible repeat' first | exact Ext.refl _ | assumption | apply Ext.alloc_r | apply Ext.drew_r | apply Ext.drewN_r | refine Ext.trans ?_ ‹Ext _ _›)).mono ?_; rintro e w2 ⟨gu, Au, cu, Lu, rfl, u, x2⟩))
  clear ka_0 ka_1 kb_0 kb_1 kq_0 fq_0 kq_1 fq_1 kr_0 fr_0 kr_1 fr_1
  clear HK HSq neqa neqb HSr nera nerb
  clear cq_0 gq_0
  clear cq_1 gq_1
  clear cr_0 gr_0
  clear cr_1 gr_1
  clear yl
  have szw2 : w1.heap.size ≤ w2.heap.size := (show Ext w1 w2 from (by with_reducible repeat' first | exact Ext.refl _ | assumption | apply Ext.alloc_r | apply Ext.drew_r | apply Ext.drewN_r | refine Ext.trans ?_ ‹Ext _ _›)).size
  have xhw3 : Ext w1 w3 := (by with_reducible repeat' first | exact Ext.refl _ | assumption | apply Ext.alloc_r | apply Ext.drew_r | apply Ext.drewN_r | refine Ext.trans ?_ ‹Ext _ _›)
  have szw3 : w1.heap.size ≤ w3.heap.size := xhw3.size
  replace bxa := bxa.ext xhw3
  replace bxb := bxb.ext xhw3
  replace bxq := bxq.ext xhw3
  replace bxr := bxr.ext xhw3
  obtain ⟨w4, hw⟩ : ∃ z : World, z = ((((w3.setCell ⟨w.heap.size + 1 + 1, 0, none⟩ (.int .i64 gu)).setCell ⟨w.heap.size + 1 + 1, 1, none⟩ (.slice Au Lu cu)).setCell ⟨w.heap.size + 1 + 1 + 1, 0, none⟩ (.int .i64 gv)).setCell ⟨w.heap.size + 1 + 1 + 1, 1, none⟩ (.slice Av Lv cv)) := ⟨_, rfl⟩
  rw [← hw]
  have kw4 : Kept w3 w4 := by rw [hw]; exact (Kept.set_ (Kept.set_ (Kept.set_ (Kept.set_ (Kept.refl _) bxq.isBox plain_Z) (IsBox.set_ bxq.isBox) plain_Z) (IsBox.set_ (IsBox.set_ bxr.isBox)) plain_Z) (IsBox.set_ (IsBox.set_ (IsBox.set_ bxr.isBox))) plain_Z)
  have nba : BK w4 (w.heap.size) 34 #[.int .i64 g1, .slice A1 L1 c1] := by rw [hw]; exact (BK.far (BK.far (BK.far (BK.far bxa (show w.heap.size ≠ w.heap.size + 1 + 1 by omega) 0 _) (show w.heap.size ≠ w.heap.size + 1 + 1 by omega) 1 _) (show w.heap.size ≠ w.heap.size + 1 + 1 + 1 by omega) 0 _) (show w.heap.size ≠ w.heap.size + 1 + 1 + 1 by omega) 1 _)
  have nbb : BK w4 (w.heap.size + 1) 34 #[.int .i64 g2, .slice A2 L2 c2] := by rw [hw]; exact (BK.far (BK.far (BK.far (BK.far bxb (show w.heap.size + 1 ≠ w.heap.size + 1 + 1 by omega) 0 _) (show w.heap.size + 1 ≠ w.heap.size + 1 + 1 by omega) 1 _) (show w.heap.size + 1 ≠ w.heap.size + 1 + 1 + 1 by omega) 0 _) (show w.heap.size + 1 ≠ w.heap.size + 1 + 1 + 1 by omega) 1 _)
  have nbq : BK w4 (w.heap.size + 1 + 1) 34 #[.int .i64 gu, .slice Au Lu cu] := by rw [hw]; exact (BK.far (BK.far (BK.set (i := 1) (u := .slice Au Lu cu) (vs' := #[.int .i64 gu, .slice Au Lu cu]) (BK.set (i := 0) (u := .int .i64 gu) (vs' := #[.int .i64 gu, .slice none 0 0]) bxq rfl) rfl) (show w.heap.size + 1 + 1 ≠ w.heap.size + 1 + 1 + 1 by omega) 0 _) (show w.heap.size + 1 + 1 ≠ w.heap.size + 1 + 1 + 1 by omega) 1 _)
  have nbr : BK w4 (w.heap.size + 1 + 1 + 1) 34 #[.int .i64 gv, .slice Av Lv cv] := by rw [hw]; exact (BK.set (i := 1) (u := .slice Av Lv cv) (vs' := #[.int .i64 gv, .slice Av Lv cv]) (BK.set (i := 0) (u := .int .i64 gv) (vs' := #[.int .i64 gv, .slice none 0 0]) (BK.far (BK.far bxr (show w.heap.size + 1 + 1 + 1 ≠ w.heap.size + 1 + 1 by omega) 0 _) (show w.heap.size + 1 + 1 + 1 ≠ w.heap.size + 1 + 1 by omega) 1 _) rfl) rfl)
  have x4 : Ext w w4 := by rw [hw]; have hxp : Ext w w3 := (by with_reducible repeat' first | exact Ext.refl _ | assumption | apply Ext.alloc_r | apply Ext.drew_r | apply Ext.drewN_r | refine Ext.trans ?_ ‹Ext _ _›); exact (Ext.set_ (Ext.set_ (Ext.set_ (Ext.set_ hxp (show _ ≤ w.heap.size + 1 + 1 by omega)) (show _ ≤ w.heap.size + 1 + 1 by omega)) (show _ ≤ w.heap.size + 1 + 1 + 1 by omega)) (show _ ≤ w.heap.size + 1 + 1 + 1 by omega))
  clear bxa
  clear bxb
  clear bxq
  clear bxr
  have bxa := nba
  clear nba
  have bxb := nbb
  clear nbb
  have bxq := nbq
  clear nbq
  have bxr := nbr
  clear nbr
  have szw4 : w4.heap.size = w3.heap.size := by rw [hw]; simp
  replace u := (u.ext (by with_reducible repeat' first | exact Ext.refl _ | assumption | apply Ext.alloc_r | apply Ext.drew_r | apply Ext.drewN_r | refine Ext.trans ?_ ‹Ext _ _›)).kept kw4
  replace v := (v.ext (by with_reducible repeat' first | exact Ext.refl _ | assumption | apply Ext.alloc_r | apply Ext.drew_r | apply Ext.drewN_r | refine Ext.trans ?_ ‹Ext _ _›)).kept kw4
  clear hw kw4
  have HU := Lib.hid u
  have HV := Lib.hid v
  clear u v HN1 HN2
  have ka_0 := bxa.c 0 (.int .i64 g1) rfl
  have ka_1 := bxa.c 1 (.slice A1 L1 c1) rfl
  have kb_0 := bxb.c 0 (.int .i64 g2) rfl
  have kb_1 := bxb.c 1 (.slice A2 L2 c2) rfl
  have kq_0 := bxq.c 0 (.int .i64 gu) rfl
  have kq_1 := bxq.c 1 (.slice Au Lu cu) rfl
  have kr_0 := bxr.c 0 (.int .i64 gv) rfl
  have kr_1 := bxr.c 1 (.slice Av Lv cv) rfl
  go_wp2_with fail
  clear ka_0 ka_1 kb_0 kb_1 kq_0 kq_1 kr_0 kr_1
  have kq_0 := bxq.c 0 (.int .i64 gu) rfl
  have kq_1 := bxq.c 1 (.slice Au Lu cu) rfl
  have kr_0 := bxr.c 0 (.int .i64 gv) rfl
  have kr_1 := bxr.c 1 (.slice Av Lv cv) rfl
  refine bodyPost_ret (v := .tuple #[.agg #[.int .i64 gu, .slice Au Lu cu], .agg #[.int .i64 gv, .slice Av Lv cv]]) (by simp [results, Tryz.results93, go_sem, kq_0, kq_1, kr_0, kr_1]) rfl ?_
  exact ⟨_, _, _, _, _, _, _, _, rfl, HU.out, HV.out, x4⟩
set_option maxHeartbeats 4000000 in
set_option maxRecDepth 100000 in
theorem rabs_rz {w : World} {g1 x : Int} {A1 : Option Addr} {c1 L1 : Nat} (h1 : RZ w g1 A1 c1 L1 x) :
    Calls Tryz.prog 117 #[.agg #[.int .i64 g1, .slice A1 L1 c1]] w (RetRZ w (x.natAbs : Int)) := by
  have HM : Hid (∀ w', Ext w w' → Calls Tryz.prog 86 #[.bool false, .slice A1 L1 c1] w' (RetRZ w' (x.natAbs : Int))) := fun w' hx => by
    rw [h1.len]
    exact make_rz (h1.bn.ext hx) (Int.natAbs_natCast _) (fun e => by cases e) (fun _ => Int.natCast_nonneg _)
  clear h1
  go_enter Tryz.func117, Tryz.ntmps117
  go_wp2_with fail
  obtain ⟨w0, hw0⟩ : ∃ z : World, z = ((w.alloc (.cells #[.int .i64 g1, .slice A1 L1 c1] 34)).alloc (.cells #[.int .i64 0, .slice none 0 0] 34)) := ⟨_, rfl⟩
  rw [← hw0]
  have bxa : BK w0 (w.heap.size) 34 #[.int .i64 g1, .slice A1 L1 c1] := by rw [hw0]; have h5 := (BK.ext (BK.new w #[.int .i64 g1, .slice A1 L1 c1] 34) (Ext.alloc _ (.cells #[.int .i64 0, .slice none 0 0] 34))); simpa only [World.size_alloc] using h5
  have bxr : BK w0 (w.heap.size + 1) 34 #[.int .i64 0, .slice none 0 0] := by rw [hw0]; have h5 := (BK.new (w.alloc (.cells #[.int .i64 g1, .slice A1 L1 c1] 34)) #[.int .i64 0, .slice none 0 0] 34); simpa only [World.size_alloc] using h5
  have hszw0 : w0.heap.size = w.heap.size + 1 + 1 := by rw [hw0]; simp only [World.size_alloc]
  have xw0 : Ext w w0 := by rw [hw0]; exact ((Ext.alloc _ _).trans (Ext.alloc _ _))
  clear hw0
  refine (HM.out _ (by with_reducible repeat' first | exact Ext.refl _ | assumption | apply Ext.alloc_r | apply Ext.drew_r | apply Ext.drewN_r | refine Ext.trans ?_ ‹Ext _ _›)).mono ?_
  rintro e w1 ⟨gu, Au, cu, Lu, rfl, u, x1⟩
  have szw1 : w0.heap.size ≤ w1.heap.size := x1.size
  replace bxa := bxa.ext x1
  replace bxr := bxr.ext x1
  have HU := Lib.hid u
  clear u HM
  have ka_0 := bxa.c 0 (.int .i64 g1) rfl
  have ka_1 := bxa.c 1 (.slice A1 L1 c1) rfl
  have kr_0 := bxr.c 0 (.int .i64 0) rfl
  have fr_0 := bxr.f 0
  have kr_1 := bxr.c 1 (.slice none 0 0) rfl
  have fr_1 := bxr.f 1
  go_wp2_with fail
  clear ka_0 ka_1 kr_0 fr_0 kr_1 fr_1
  have u := HU.out
  clear HU
  obtain ⟨w2, hw⟩ : ∃ z : World, z = ((w1.setCell ⟨w.heap.size + 1, 0, none⟩ (.int .i64 gu)).setCell ⟨w.heap.size + 1, 1, none⟩ (.slice Au Lu cu)) := ⟨_, rfl⟩
  rw [← hw]
  have kw2 : Kept w1 w2 := by rw [hw]; exact (Kept.set_ (Kept.set_ (Kept.refl _) bxr.isBox plain_Z) (IsBox.set_ bxr.isBox) plain_Z)
  have nba : BK w2 (w.heap.size) 34 #[.int .i64 g1, .slice A1 L1 c1] := by rw [hw]; exact (BK.far (BK.far bxa (show w.heap.size ≠ w.heap.size + 1 by omega) 0 _) (show w.heap.size ≠ w.heap.size + 1 by omega) 1 _)
  have nbr : BK w2 (w.heap.size + 1) 34 #[.int .i64 gu, .slice Au Lu cu] := by rw [hw]; exact (BK.set (i := 1) (u := .slice Au Lu cu) (vs' := #[.int .i64 gu, .slice Au Lu cu]) (BK.set (i := 0) (u := .int .i64 gu) (vs' := #[.int .i64 gu, .slice none 0 0]) bxr rfl) rfl)
  have x2 : Ext w w2 := by rw [hw]; have hxp : Ext w w1 := (by with_reducible repeat' first | exact Ext.refl _ | assumption | apply Ext.alloc_r | apply Ext.drew_r | apply Ext.drewN_r | refine Ext.trans ?_ ‹Ext _ _›); exact (Ext.set_ (Ext.set_ hxp (show _ ≤ w.heap.size + 1 by omega)) (show _ ≤ w.heap.size + 1 by omega))
  clear bxa
  clear bxr
  have bxa := nba
  clear nba
  have bxr := nbr
  clear nbr
  have szw2 : w2.heap.size = w1.heap.size := by rw [hw]; simp
  replace u := (u.ext (by with_reducible repeat' first | exact Ext.refl _ | assumption | apply Ext.alloc_r | apply Ext.drew_r | apply Ext.drewN_r | refine Ext.trans ?_ ‹Ext _ _›)).kept kw2
  clear hw kw2
  have kr_0 := bxr.c 0 (.int .i64 gu) rfl
  have kr_1 := bxr.c 1 (.slice Au Lu cu) rfl
  refine bodyPost_ret (v := .agg #[.int .i64 gu, .slice Au Lu cu]) (by simp [results, Tryz.results117, go_sem, kr_0, kr_1]) rfl ?_
  exact ⟨_, _, _, _, rfl, u, x2⟩
/-- A box of two cells that may be written. -/
structure BW (w : World) (b : Nat) (T : TypeId) (v0 v1 : Value) : Prop where
  box : IsBox w b T
  c0 : w.cell? ⟨b, 0, none⟩ = some v0
  c1 : w.cell? ⟨b, 1, none⟩ = some v1
  f0 : w.frozen? ⟨b, 0, none⟩ = false
  f1 : w.frozen? ⟨b, 1, none⟩ = false
theorem BW.ext {w w' : World} {b : Nat} {T : TypeId} {v0 v1 : Value} (h : BW w b T v0 v1) (hx : Ext w w') : BW w' b T v0 v1 :=
  ⟨h.box.ext hx, hx.cell h.c0, hx.cell h.c1, hx.frozen h.c0 h.f0, hx.frozen h.c1 h.f1⟩
theorem BW.far {w : World} {b b' i : Nat} {T : TypeId} {v0 v1 u : Value} (h : BW w b T v0 v1) (hne : b' ≠ b) : BW (w.setCell ⟨b', i, none⟩ u) b T v0 v1 :=
  ⟨h.box.set_, cell_far hne h.c0, cell_far hne h.c1, frozen_set h.f0, frozen_set h.f1⟩
theorem BW.set2 {w : World} {b : Nat} {T : TypeId} {v0 v1 u0 u1 : Value} (h : BW w b T v0 v1) : BW ((w.setCell ⟨b, 0, none⟩ u0).setCell ⟨b, 1, none⟩ u1) b T u0 u1 := by
  obtain ⟨r0, r1⟩ := res_set (r1 := u0) (r2 := u1) h.c0 h.c1
  exact ⟨h.box.set_.set_, r0, r1, frozen_set (frozen_set h.f0), frozen_set (frozen_set h.f1)⟩
theorem BW.lt {w : World} {b : Nat} {T : TypeId} {v0 v1 : Value} (h : BW w b T v0 v1) : b < w.heap.size := h.box.lt
/-- An integer of the reference in a box that may be written. -/
def PutW (w w' : World) (x : Int) (s : Value) : Prop := ∃ b sg A c L, s = .pointer (some ⟨b, 0, none⟩) ∧ w.heap.size ≤ b ∧ BW w' b 34 (.int .i64 sg) (.slice A L c) ∧ RZ w' sg A c L x ∧ Ext w w'
theorem PutW.mk {w w' : World} {b : Nat} {sg x : Int} {A : Option Addr} {c L : Nat} (hb : w.heap.size ≤ b) (h1 : IsBox w' b 34) (h2 : w'.cell? ⟨b, 0, none⟩ = some (.int .i64 sg)) (h3 : w'.cell? ⟨b, 1, none⟩ = some (.slice A L c)) (h4 : w'.frozen? ⟨b, 0, none⟩ = false) (h5 : w'.frozen? ⟨b, 1, none⟩ = false) (hz : RZ w' sg A c L x) (hx : Ext w w') : PutW w w' x (.pointer (some ⟨b, 0, none⟩)) :=
  ⟨b, sg, A, c, L, rfl, hb, ⟨h1, h2, h3, h4, h5⟩, hz, hx⟩
set_option maxHeartbeats 4000000 in
set_option maxRecDepth 100000 in
theorem rgcd_rz {w : World} {g1 g2 : Int} {A1 A2 : Option Addr} {c1 c2 L1 L2 : Nat} {x y : Int} (h1 : RZ w g1 A1 c1 L1 x) (h2 : RZ w g2 A2 c2 L2 y) (hs1 : bl x.natAbs ≤ 2199023255552) (hs2 : bl y.natAbs ≤ 2199023255552) :
    Calls Tryz.prog 92 #[Value.agg #[.int .i64 g1, .slice A1 L1 c1], Value.agg #[.int .i64 g2, .slice A2 L2 c2]] w (RetRZ w (Nat.gcd x.natAbs y.natAbs : Nat)) := by
  go_enter Tryz.func92, Tryz.ntmps92
  go_wp2_with fail
  obtain ⟨w0, hw0⟩ : ∃ z : World, z = (((w.alloc (.cells #[.int .i64 g1, .slice A1 L1 c1] 34)).alloc (.cells #[.int .i64 g2, .slice A2 L2 c2] 34)).alloc (.cells #[.int .i64 0, .slice none 0 0] 34)) := ⟨_, rfl⟩
  rw [← hw0]
  have b0 := box_at w #[.int .i64 g1, .slice A1 L1 c1] 34
  have b1 := box_at (w.alloc (.cells #[.int .i64 g1, .slice A1 L1 c1] 34)) #[.int .i64 g2, .slice A2 L2 c2] 34
  have b2 := box_at ((w.alloc (.cells #[.int .i64 g1, .slice A1 L1 c1] 34)).alloc (.cells #[.int .i64 g2, .slice A2 L2 c2] 34)) #[.int .i64 0, .slice none 0 0] 34
  have hsz : w0.heap.size = w.heap.size + 1 + 1 + 1 := by rw [hw0]; simp
  rw [← hw0] at b2
  have y2 : Ext ((w.alloc (.cells #[.int .i64 g1, .slice A1 L1 c1] 34)).alloc (.cells #[.int .i64 g2, .slice A2 L2 c2] 34)) w0 := by rw [hw0]; exact Ext.alloc _ _
  have y1 : Ext (w.alloc (.cells #[.int .i64 g1, .slice A1 L1 c1] 34)) w0 := (Ext.alloc _ _).trans y2
  have y0 : Ext w w0 := (Ext.alloc _ _).trans y1
  have x0 : Ext w w0 := y0
  have e0_0 := y1.cell (b0.1 0 (.int .i64 g1) rfl)
  have e0_1 := y1.cell (b0.1 1 (.slice A1 L1 c1) rfl)
  have e1_0 := y2.cell (b1.1 0 (.int .i64 g2) rfl)
  have e1_1 := y2.cell (b1.1 1 (.slice A2 L2 c2) rfl)
  have q2_0 := b2.1 0 (.int .i64 0) rfl
  have f2_0 := b2.2 0
  have q2_1 := b2.1 1 (.slice none 0 0) rfl
  have f2_1 := b2.2 1
  simp only [World.size_alloc] at e1_0 e1_1 q2_0 f2_0 q2_1 f2_1
  clear hw0 b0 b1 b2 y0 y1 y2
  have hS0 := Lib.hid hsz
  clear hsz
  go_wp2_with fail
  go_cut [5, 6] (fun s5 s6 wx => PutW w0 wx (x.natAbs : Int) s5 ∧ PutW w0 wx (y.natAbs : Int) s6 ∧ s5 ≠ s6)
  case first =>
    have HK : Hid (∀ w', Ext w0 w' → Ext w0 w' ∧ w'.cell? ⟨w.heap.size, 0, none⟩ = some (.int .i64 g1) ∧ w'.cell? ⟨w.heap.size, 1, none⟩ = some (.slice A1 L1 c1) ∧ w'.cell? ⟨w.heap.size + 1, 0, none⟩ = some (.int .i64 g2) ∧ w'.cell? ⟨w.heap.size + 1, 1, none⟩ = some (.slice A2 L2 c2)) := fun w' hk => ⟨hk, hk.cell e0_0, hk.cell e0_1, hk.cell e1_0, hk.cell e1_1⟩
    first
    | go_region_held3 (fun w' => Ext w0 w' ∧ w'.cell? ⟨w.heap.size, 0, none⟩ = some (.int .i64 g1) ∧ w'.cell? ⟨w.heap.size, 1, none⟩ = some (.slice A1 L1 c1) ∧ w'.cell? ⟨w.heap.size + 1, 0, none⟩ = some (.int .i64 g2) ∧ w'.cell? ⟨w.heap.size + 1, 1, none⟩ = some (.slice A2 L2 c2))
        ((with_reducible refine HK.out _ ?_; (repeat' first | (with_reducible first | exact Ext.refl _ | assumption | apply Ext.alloc_r | apply Ext.drew_r | apply Ext.drewN_r | apply Ext.set_r | exact Nat.le_refl _) | omega | with_reducible refine Ext.trans ?_ ‹Ext _ _›)))
        (first
          | (go_at_call_of 117 (#[Value.agg #[.int .i64 g2, .slice A2 L2 c2]]); have hgd := p; clear hgd; refine (rabs_rz (h2.ext (by with_reducible repeat' first | exact Ext.refl _ | assumption | apply Ext.alloc_r | apply Ext.drew_r | apply Ext.drewN_r | refine Ext.trans ?_ ‹Ext _ _›))).mono ?_; rintro e w2 ⟨gq, Aq, cq, Lq, rfl, q, x2⟩; (have zs2 := x2.size); (try simp only [World.size_alloc] at zs2); (try ((with_reducible have h2_0 := box_ext (vs := #[.int .i64 0, .slice none 0 0]) x2); have h2_0c0 := (h2_0.1 0 (.int .i64 0) rfl).1; have h2_0f0 := (h2_0.1 0 (.int .i64 0) rfl).2; have h2_0c1 := (h2_0.1 1 (.slice none 0 0) rfl).1; have h2_0f1 := (h2_0.1 1 (.slice none 0 0) rfl).2; have h2_0b := h2_0.2.1; have h2_0z := h2_0.2.2; (try simp only [World.size_alloc] at h2_0b h2_0z h2_0c0 h2_0f0 h2_0c1 h2_0f1); have h2_0m := Nat.ne_of_lt h2_0z; have h2_0n := Nat.ne_of_gt h2_0z; clear h2_0)); (try ((with_reducible have h2_1 := box_ext (vs := #[.int .i64 0, .slice none 0 0]) ((Ext.alloc _ _).trans x2)); have h2_1c0 := (h2_1.1 0 (.int .i64 0) rfl).1; have h2_1f0 := (h2_1.1 0 (.int .i64 0) rfl).2; have h2_1c1 := (h2_1.1 1 (.slice none 0 0) rfl).1; have h2_1f1 := (h2_1.1 1 (.slice none 0 0) rfl).2; have h2_1b := h2_1.2.1; have h2_1z := h2_1.2.2; (try simp only [World.size_alloc] at h2_1b h2_1z h2_1c0 h2_1f0 h2_1c1 h2_1f1); have h2_1m := Nat.ne_of_lt h2_1z; have h2_1n := Nat.ne_of_gt h2_1z; clear h2_1)); (try (have hh : Ext w1 w2 := ?g200; (case g200 => ((with_reducible repeat' first | exact Ext.refl _ | assumption | apply Ext.alloc_r | apply Ext.drew_r | apply Ext.drewN_r | refine Ext.trans ?_ ‹Ext _ _›); done)); replace h1_0f0 := hh.frozen h1_0c0 h1_0f0; replace h1_0c0 := hh.cell h1_0c0; replace h1_0f1 := hh.frozen h1_0c1 h1_0f1; replace h1_0c1 := hh.cell h1_0c1; replace h1_0b := h1_0b.ext hh; have h1_0z2 := Nat.lt_of_lt_of_le h1_0z hh.size; have h1_0m2 := Nat.ne_of_lt h1_0z2; have h1_0n2 := Nat.ne_of_gt h1_0z2; clear hh)); (try (have hh : Ext w1 w2 := ?g201; (case g201 => ((with_reducible repeat' first | exact Ext.refl _ | assumption | apply Ext.alloc_r | apply Ext.drew_r | apply Ext.drewN_r | refine Ext.trans ?_ ‹Ext _ _›); done)); replace h1_1f0 := hh.frozen h1_1c0 h1_1f0; replace h1_1c0 := hh.cell h1_1c0; replace h1_1f1 := hh.frozen h1_1c1 h1_1f1; replace h1_1c1 := hh.cell h1_1c1; replace h1_1b := h1_1b.ext hh; have h1_1z2 := Nat.lt_of_lt_of_le h1_1z hh.size; have h1_1m2 := Nat.ne_of_lt h1_1z2; have h1_1n2 := Nat.ne_of_gt h1_1z2; clear hh)))
          | (go_at_call_of 117 (#[Value.agg #[.int .i64 g1, .slice A1 L1 c1]]); refine (rabs_rz (h1.ext (by with_reducible repeat' first | exact Ext.refl _ | assumption | apply Ext.alloc_r | apply Ext.drew_r | apply Ext.drewN_r | refine Ext.trans ?_ ‹Ext _ _›))).mono ?_; rintro e w1 ⟨gp, Ap, cp, Lp, rfl, p, x1⟩; (have zs1 := x1.size); (try simp only [World.size_alloc, World.size_drew] at zs1); (try ((with_reducible have h1_0 := box_ext (vs := #[.int .i64 0, .slice none 0 0]) ((Ext.drew _).trans x1)); have h1_0c0 := (h1_0.1 0 (.int .i64 0) rfl).1; have h1_0f0 := (h1_0.1 0 (.int .i64 0) rfl).2; have h1_0c1 := (h1_0.1 1 (.slice none 0 0) rfl).1; have h1_0f1 := (h1_0.1 1 (.slice none 0 0) rfl).2; have h1_0b := h1_0.2.1; have h1_0z := h1_0.2.2; (try simp only [World.size_alloc] at h1_0b h1_0z h1_0c0 h1_0f0 h1_0c1 h1_0f1); have h1_0m := Nat.ne_of_lt h1_0z; have h1_0n := Nat.ne_of_gt h1_0z; clear h1_0)); (try ((with_reducible have h1_1 := box_ext (vs := #[.int .i64 0, .slice none 0 0]) (((Ext.alloc _ _).trans (Ext.drew _)).trans x1)); have h1_1c0 := (h1_1.1 0 (.int .i64 0) rfl).1; have h1_1f0 := (h1_1.1 0 (.int .i64 0) rfl).2; have h1_1c1 := (h1_1.1 1 (.slice none 0 0) rfl).1; have h1_1f1 := (h1_1.1 1 (.slice none 0 0) rfl).2; have h1_1b := h1_1.2.1; have h1_1z := h1_1.2.2; (try simp only [World.size_alloc] at h1_1b h1_1z h1_1c0 h1_1f0 h1_1c1 h1_1f1); have h1_1m := Nat.ne_of_lt h1_1z; have h1_1n := Nat.ne_of_gt h1_1z; clear h1_1))))
    | fail
    all_goals (clear HK; go_wp2_with fail; go_meet)
    all_goals
      refine ⟨?_, ?_, ?_⟩
      · refine PutW.mk (sg := gp) (A := Ap) (c := cp) (L := Lp) ?_ ?_ ?_ ?_ ?_ ?_ (p.kept ?_) ?_
        · (first | exact Nat.le_refl _ | omega | (simp only [World.size_alloc, World.size_drew]; omega) | (simp; omega))
        · (with_reducible repeat' first | assumption | apply IsBox.set_ | (apply IsBox.new; (first | rfl | simp); done) | apply IsBox.alloc_ | apply IsBox.drew_ | refine IsBox.ext ?_ ‹Ext _ _›)
        · go_simp
        · go_simp
        · go_simp
        · go_simp
        · (repeat' (first | with_reducible exact Kept.refl _ | with_reducible apply Kept.alloc_r | with_reducible apply Kept.drew_r | (with_reducible apply Kept.setZ; (case hb => ((with_reducible repeat' first | assumption | apply IsBox.set_ | (apply IsBox.new; (first | rfl | simp); done) | apply IsBox.alloc_ | apply IsBox.drew_ | refine IsBox.ext ?_ ‹Ext _ _›); done))) | (with_reducible apply Kept.setI; (case hb => ((with_reducible repeat' first | assumption | apply IsBox.set_ | (apply IsBox.new; (first | rfl | simp); done) | apply IsBox.alloc_ | apply IsBox.drew_ | refine IsBox.ext ?_ ‹Ext _ _›); done))) | with_reducible refine Kept.trans ?_ (Ext.kept ‹Ext _ _›)))
        · (repeat' first | (with_reducible first | exact Ext.refl _ | assumption | apply Ext.alloc_r | apply Ext.drew_r | apply Ext.drewN_r | apply Ext.set_r | exact Nat.le_refl _) | omega | with_reducible refine Ext.trans ?_ ‹Ext _ _›)
      · refine PutW.mk (sg := gq) (A := Aq) (c := cq) (L := Lq) ?_ ?_ ?_ ?_ ?_ ?_ (q.kept ?_) ?_
        · (first | exact Nat.le_refl _ | omega | (simp only [World.size_alloc, World.size_drew]; omega) | (simp; omega))
        · (with_reducible repeat' first | assumption | apply IsBox.set_ | (apply IsBox.new; (first | rfl | simp); done) | apply IsBox.alloc_ | apply IsBox.drew_ | refine IsBox.ext ?_ ‹Ext _ _›)
        · go_simp
        · go_simp
        · go_simp
        · go_simp
        · (repeat' (first | with_reducible exact Kept.refl _ | with_reducible apply Kept.alloc_r | with_reducible apply Kept.drew_r | (with_reducible apply Kept.setZ; (case hb => ((with_reducible repeat' first | assumption | apply IsBox.set_ | (apply IsBox.new; (first | rfl | simp); done) | apply IsBox.alloc_ | apply IsBox.drew_ | refine IsBox.ext ?_ ‹Ext _ _›); done))) | (with_reducible apply Kept.setI; (case hb => ((with_reducible repeat' first | assumption | apply IsBox.set_ | (apply IsBox.new; (first | rfl | simp); done) | apply IsBox.alloc_ | apply IsBox.drew_ | refine IsBox.ext ?_ ‹Ext _ _›); done))) | with_reducible refine Kept.trans ?_ (Ext.kept ‹Ext _ _›)))
        · (repeat' first | (with_reducible first | exact Ext.refl _ | assumption | apply Ext.alloc_r | apply Ext.drew_r | apply Ext.drewN_r | apply Ext.set_r | exact Nat.le_refl _) | omega | with_reducible refine Ext.trans ?_ ‹Ext _ _›)
      · (first | (simp; done) | (simp; omega) | (simp_all; done))
  case rest =>
    obtain ⟨hc0, hc1, hne⟩ := hcut
    obtain ⟨b5, gp, Ap, cp, Lp, rfl, hb5, hw5, hr5, hxc⟩ := hc0
    obtain ⟨b6, gq, Aq, cq, Lq, rfl, hb6, hw6, hr6, hxc2⟩ := hc1
    clear hxc2
    have hnb : b5 ≠ b6 := fun h => hne (by rw [h])
    have HR5 := Lib.hid hr5
    have HR6 := Lib.hid hr6
    have HW5 := Lib.hid hw5
    have HW6 := Lib.hid hw6
    have HB := Lib.hid (And.intro hb5 hb6)
    clear hne hr5 hr6 hw5 hw6 hb5 hb6 h1 h2 e0_0 e0_1 e1_0 e1_1
    obtain ⟨w1, rfl⟩ : ∃ z : World, z = wc := ⟨_, rfl⟩
    go_wp2_with fail
    go_loopg [] y.natAbs (fun kk wr => ∃ (X Y : Nat) (g5 g6 : Int) (A5 A6 : Option Addr) (c5 L5 c6 L6 : Nat), BW wr b5 34 (.int .i64 g5) (.slice A5 L5 c5) ∧ BW wr b6 34 (.int .i64 g6) (.slice A6 L6 c6) ∧ Hid (RZ wr g5 A5 c5 L5 (X : Int)) ∧ Hid (RZ wr g6 A6 c6 L6 (Y : Int)) ∧ Hid (Nat.gcd X Y = Nat.gcd x.natAbs y.natAbs) ∧ Hid (bl X ≤ 2199023255552 ∧ bl Y ≤ 2199023255552) ∧ Hid (Y ≤ kk) ∧ Ext w0 wr)
    case atStart => exact ⟨x.natAbs, y.natAbs, gp, gq, Ap, Aq, cp, Lp, cq, Lq, HW5.out, HW6.out, HR5.out, HR6.out, rfl, ⟨hs1, hs2⟩, Nat.le_refl _, hxc⟩
    case round =>
      clear HR5 HR6 HW5 HW6 hxc
      obtain ⟨X, Y, g5, g6, A5, A6, c5, L5, c6, L6, hw5, hw6, HR5, HR6, HG, HS, HK, hx⟩ := hrel
      have a0 := hw5.c0
      have a1 := hw5.c1
      have a2 := hw6.c0
      have a3 := hw6.c1
      have d1 := hx.cell q2_0
      have d2 := hx.cell q2_1
      have f1 := hx.frozen q2_0 f2_0
      have f2 := hx.frozen q2_1 f2_1
      by_cases hY : Y = 0
      · have hg6 : g6 = 0 := by rw [HR6.out.sign, hY]; rfl
        have HXG : Hid (Nat.gcd x.natAbs y.natAbs = X) := by show _ = _; rw [← HG.out, hY, Nat.gcd_zero_right]
        subst hg6
        obtain ⟨r5, r6, hz', hxx⟩ := fin_rz (Nat.le_trans (Nat.le_succ _) (Nat.le_succ _)) (x0.trans hx) HR5.out d1 d2
        have HZ := Lib.hid hz'
        clear hz' HG HS HK hY
        go_wp2_with fail
        refine bodyPost_ret (v := .agg #[.int .i64 g5, .slice A5 L5 c5]) (by simp [results, Tryz.results92, go_sem, r5, r6]) rfl ?_
        show RetRZ w _ _ _
        rw [HXG.out]
        exact ⟨_, _, _, _, rfl, HZ.out, hxx⟩
      · have hg6 : (g6 != 0) = true := by
          have := HR6.out.sign
          rw [Int.sign_eq_one_of_pos (by omega)] at this
          rw [this]; rfl
        have HQ : Hid (Calls Tryz.prog 93 #[.agg #[.int .i64 g5, .slice A5 L5 c5], .agg #[.int .i64 g6, .slice A6 L6 c6]] wr (RetRR wr ((X / Y : Nat) : Int) ((X % Y : Nat) : Int))) := by
          have h5 := rquo_rz HR5.out HR6.out (by omega) (by rw [Int.natAbs_natCast]; exact HS.out.1) (by rw [Int.natAbs_natCast]; exact HS.out.2)
          exact h5
        have HLT : Hid (X % Y < Y) := Nat.mod_lt _ (by omega)
        have HG2 : Hid (Nat.gcd Y (X % Y) = Nat.gcd x.natAbs y.natAbs) := by
          show _ = _
          rw [← HG.out, Nat.gcd_comm Y, ← Nat.gcd_rec, Nat.gcd_comm]
        have HS2 : Hid (bl Y ≤ 2199023255552 ∧ bl (X % Y) ≤ 2199023255552) := ⟨HS.out.2, Nat.le_trans (bl_mono (Nat.le_of_lt HLT.out)) HS.out.2⟩
        generalize X % Y = R at *
        generalize X / Y = Qn at *
        clear HR5 HG HS hY
        go_wp2_with fail
        refine HQ.out.mono ?_
        rintro e w9 ⟨ga, Aa, ca, La, gb, Ab, cb, Lb, rfl, ha, hb, x9⟩
        have HA := Lib.hid hb
        clear ha hb HQ
        have v5 := hw5.ext x9
        have v6 := hw6.ext x9
        clear a0 a1 a2 a3
        have a0 := fun o p => (Ext.alloc (w9.alloc o) p).cell ((Ext.alloc w9 o).cell v5.c0)
        have a1 := fun o p => (Ext.alloc (w9.alloc o) p).cell ((Ext.alloc w9 o).cell v5.c1)
        have a2 := fun o p => (Ext.alloc (w9.alloc o) p).cell ((Ext.alloc w9 o).cell v6.c0)
        have a3 := fun o p => (Ext.alloc (w9.alloc o) p).cell ((Ext.alloc w9 o).cell v6.c1)
        have b0 := fun o p => (v5.ext ((Ext.alloc w9 o).trans (Ext.alloc (w9.alloc o) p))).f0
        have b1 := fun o p => (v5.ext ((Ext.alloc w9 o).trans (Ext.alloc (w9.alloc o) p))).f1
        have b2 := fun o p => (v6.ext ((Ext.alloc w9 o).trans (Ext.alloc (w9.alloc o) p))).f0
        have b3 := fun o p => (v6.ext ((Ext.alloc w9 o).trans (Ext.alloc (w9.alloc o) p))).f1
        have l5 := v5.lt
        have l6 := v6.lt
        have m1 : w9.heap.size ≠ b5 := by omega
        have m2 : w9.heap.size + 1 ≠ b5 := by omega
        have m3 : w9.heap.size + 1 ≠ b6 := by omega
        have m4 : b5 ≠ w9.heap.size + 1 := by omega
        have m5 : b6 ≠ w9.heap.size + 1 := by omega
        clear l5 l6
        go_wp2_with fail
        clear a0 a1 a2 a3 b0 b1 b2 b3 m1 m2 m3 m4 m5
        obtain ⟨wa, hwa⟩ : ∃ z : World, z = (w9.alloc (.cells #[.int .i64 ga, .slice Aa La ca] 34)).alloc (.cells #[.int .i64 gb, .slice Ab Lb cb] 34) := ⟨_, rfl⟩
        have xa : Ext w9 wa := by rw [hwa]; exact (Ext.alloc _ _).trans (Ext.alloc _ _)
        rw [← hwa]
        clear hwa
        have v5 := v5.ext xa
        have v6 := v6.ext xa
        obtain ⟨ww, hww⟩ : ∃ z : World, z = (((wa.setCell ⟨b5, 0, none⟩ (.int .i64 g6)).setCell ⟨b5, 1, none⟩ (.slice A6 L6 c6)).setCell ⟨b6, 0, none⟩ (.int .i64 gb)).setCell ⟨b6, 1, none⟩ (.slice Ab Lb cb) := ⟨_, rfl⟩
        rw [← hww]
        have hk : Kept wa ww := by
          rw [hww]
          exact Kept.set_ (Kept.set_ (Kept.set_ (Kept.set_ (Kept.refl _) v5.box plain_Z) v5.box.set_ plain_Z) v6.box.set_.set_ plain_Z) v6.box.set_.set_.set_ plain_Z
        have z5 : BW ww b5 34 (.int .i64 g6) (.slice A6 L6 c6) := by rw [hww]; exact ((BW.set2 v5).far hnb.symm).far hnb.symm
        have z6 : BW ww b6 34 (.int .i64 gb) (.slice Ab Lb cb) := by rw [hww]; exact BW.set2 ((v6.far hnb).far hnb)
        have hxx : Ext w0 ww := by
          rw [hww]
          exact ((((((hx.trans x9).trans xa).set_ HB.out.1).set_ HB.out.1).set_ HB.out.2).set_ HB.out.2)
        have HZ5 : Hid (RZ ww g6 A6 c6 L6 (Y : Int)) := (HR6.out.ext (x9.trans xa)).kept hk
        have HZ6 : Hid (RZ ww gb Ab cb Lb (R : Int)) := (HA.out.ext xa).kept hk
        clear hww v5 v6 hk HR6 HA hw5 hw6 hx
        go_roundg R
        case measure => have h5 := HLT.out; have h6 : Y ≤ gk := HK.out; omega
        case rel => exact ⟨Y, R, g6, gb, A6, Ab, c6, L6, cb, Lb, z5, z6, HZ5, HZ6, HG2.out, HS2.out, Nat.le_refl _, hxx⟩
theorem bl_of_lt {n k : Nat} (h : n < 2 ^ k) : bl n ≤ k := digs_len_le (by omega) h
/-- A fraction of the reference, its parts of at most K bits. -/
structure QR (w : World) (g : Int) (A : Option Addr) (c L : Nat) (h : Int) (B : Option Addr) (d M K : Nat) (q : Rat) : Prop where
  ex : ∃ (x : Int) (y : Nat), RZ w g A c L x ∧ RZ w h B d M (y : Int) ∧ 0 < y ∧ q = mkRat x y ∧ bl x.natAbs ≤ K ∧ bl y ≤ K
section
variable {w w' : World} {g h : Int} {A B : Option Addr} {c d L M K : Nat} {q : Rat}
theorem QR.ext (z : QR w g A c L h B d M K q) (hx : Ext w w') : QR w' g A c L h B d M K q := by
  obtain ⟨x, y, h1, h2, h3⟩ := z.ex
  exact ⟨x, y, h1.ext hx, h2.ext hx, h3⟩
theorem QR.kept (z : QR w g A c L h B d M K q) (hk : Kept w w') : QR w' g A c L h B d M K q := by
  obtain ⟨x, y, h1, h2, h3⟩ := z.ex
  exact ⟨x, y, h1.kept hk, h2.kept hk, h3⟩
theorem QR.sign (z : QR w g A c L h B d M K q) : g = q.num.sign := by
  obtain ⟨x, y, h1, h2, h3, h4, h5, h6⟩ := z.ex
  rw [h1.sign, h4, rat_sign h3]
end
/-- The call returns the fraction q of the reference. -/
def RetQ (w : World) (K : Nat) (q : Rat) (e : Ending) (w' : World) : Prop := ∃ g A c L h B d M, e = .returned (.agg #[.int .i64 g, .slice A L c, .int .i64 h, .slice B M d]) ∧ QR w' g A c L h B d M K q ∧ Ext w w'
theorem Bx.mk4 {w : World} {g : Nat} {v0 v1 v2 v3 : Value} (c0 : w.cell? ⟨g, 0, none⟩ = some v0) (c1 : w.cell? ⟨g, 1, none⟩ = some v1) (c2 : w.cell? ⟨g, 2, none⟩ = some v2) (c3 : w.cell? ⟨g, 3, none⟩ = some v3) : Bx w (.pointer (some ⟨g, 0, none⟩)) #[v0, v1, v2, v3] := by
  refine ⟨g, rfl, fun i v hv => ?_⟩
  match i, hv with
  | 0, hv => simp at hv; subst hv; exact c0
  | 1, hv => simp at hv; subst hv; exact c1
  | 2, hv => simp at hv; subst hv; exact c2
  | 3, hv => simp at hv; subst hv; exact c3
  | i + 4, hv => simp at hv
/-- A fraction of the reference in a box. -/
def PutQ (w w' : World) (K : Nat) (q : Rat) (s : Value) : Prop := ∃ g A c L h B d M, Bx w' s #[.int .i64 g, .slice A L c, .int .i64 h, .slice B M d] ∧ QR w' g A c L h B d M K q ∧ Ext w w'
theorem PutQ.mk {w w' : World} {g h : Int} {A B : Option Addr} {c L d M K : Nat} {q : Rat} {s : Value} (hb : Bx w' s #[.int .i64 g, .slice A L c, .int .i64 h, .slice B M d]) (hz : QR w' g A c L h B d M K q) (hx : Ext w w') : PutQ w w' K q s := ⟨g, A, c, L, h, B, d, M, hb, hz, hx⟩
theorem plain_Q : ¬ Plain 36 := by unfold Plain; decide
theorem Kept.setQ {a w : World} {g i : Nat} {s : Option Nat} {u : Value} (hb : IsBox w g 36) (h : Kept a w) : Kept a (w.setCell ⟨g, i, s⟩ u) := h.set_ hb plain_Q
set_option maxHeartbeats 4000000 in
set_option maxRecDepth 100000 in
theorem qadd_r {w : World} {g1 h1 : Int} {A1 B1 : Option Addr} {c1 d1 L1 M1 K1 : Nat} {q1 : Rat} {g2 h2 : Int} {A2 B2 : Option Addr} {c2 d2 L2 M2 K2 : Nat} {q2 : Rat} (z1 : QR w g1 A1 c1 L1 h1 B1 d1 M1 K1 q1) (z2 : QR w g2 A2 c2 L2 h2 B2 d2 M2 K2 q2) (hs1 : K1 ≤ 1000000000) (hs2 : K2 ≤ 1000000000) :
    Calls Tryz.prog 32 #[Value.agg #[.int .i64 g1, .slice A1 L1 c1, .int .i64 h1, .slice B1 M1 d1], Value.agg #[.int .i64 g2, .slice A2 L2 c2, .int .i64 h2, .slice B2 M2 d2]] w (RetQ w (K1 + K2 + 1) (q1 + q2)) := by
  obtain ⟨x1, y1, a1, b1, p1, e1, m1, n1⟩ := z1.ex
  obtain ⟨x2, y2, a2, b2, p2, e2, m2, n2⟩ := z2.ex
  have HQ : Hid (q1 + q2 = mkRat (x1 * (y2 : Int) + x2 * (y1 : Int)) (y1 * y2)) := by show _ = _; rw [e1, e2]; exact Rat.mkRat_add_mkRat _ _ (by omega) (by omega)
  have hb1 := bl_mul x1.natAbs y2
  have hb3 := bl_mul x2.natAbs y1
  have hb2 := bl_mul y1 y2
  have hb4 := bl_mono (Int.natAbs_add_le (x1 * (y2 : Int)) (x2 * (y1 : Int)))
  have hb5 := bl_add (x1 * (y2 : Int)).natAbs (x2 * (y1 : Int)).natAbs
  have k1 : bl (x1 * (y2 : Int)).natAbs = bl (x1.natAbs * y2) := by rw [Int.natAbs_mul, Int.natAbs_natCast]
  have k2 : bl (x2 * (y1 : Int)).natAbs = bl (x2.natAbs * y1) := by rw [Int.natAbs_mul, Int.natAbs_natCast]
  have hp : 0 < y1 * y2 := Nat.mul_pos p1 p2
  have j1 : bl ((y1 : Int)).natAbs = bl y1 := by rw [Int.natAbs_natCast]
  have j2 : bl ((y2 : Int)).natAbs = bl y2 := by rw [Int.natAbs_natCast]
  clear z1 z2 e1 e2
  go_enter Tryz.func32, Tryz.ntmps32
  go_wp2_with fail
  obtain ⟨w0, hw0⟩ : ∃ z : World, z = (((w.alloc (.cells #[.int .i64 g1, .slice A1 L1 c1, .int .i64 h1, .slice B1 M1 d1] 36)).alloc (.cells #[.int .i64 g2, .slice A2 L2 c2, .int .i64 h2, .slice B2 M2 d2] 36)).alloc (.cells #[.int .i64 0, .slice none 0 0, .int .i64 0, .slice none 0 0] 36)) := ⟨_, rfl⟩
  rw [← hw0]
  have bxa : BK w0 (w.heap.size) 36 #[.int .i64 g1, .slice A1 L1 c1, .int .i64 h1, .slice B1 M1 d1] := by rw [hw0]; have h5 := (BK.ext (BK.ext (BK.new w #[.int .i64 g1, .slice A1 L1 c1, .int .i64 h1, .slice B1 M1 d1] 36) (Ext.alloc _ (.cells #[.int .i64 g2, .slice A2 L2 c2, .int .i64 h2, .slice B2 M2 d2] 36))) (Ext.alloc _ (.cells #[.int .i64 0, .slice none 0 0, .int .i64 0, .slice none 0 0] 36))); simpa only [World.size_alloc] using h5
  have bxb : BK w0 (w.heap.size + 1) 36 #[.int .i64 g2, .slice A2 L2 c2, .int .i64 h2, .slice B2 M2 d2] := by rw [hw0]; have h5 := (BK.ext (BK.new (w.alloc (.cells #[.int .i64 g1, .slice A1 L1 c1, .int .i64 h1, .slice B1 M1 d1] 36)) #[.int .i64 g2, .slice A2 L2 c2, .int .i64 h2, .slice B2 M2 d2] 36) (Ext.alloc _ (.cells #[.int .i64 0, .slice none 0 0, .int .i64 0, .slice none 0 0] 36))); simpa only [World.size_alloc] using h5
  have bxr : BK w0 (w.heap.size + 1 + 1) 36 #[.int .i64 0, .slice none 0 0, .int .i64 0, .slice none 0 0] := by rw [hw0]; have h5 := (BK.new ((w.alloc (.cells #[.int .i64 g1, .slice A1 L1 c1, .int .i64 h1, .slice B1 M1 d1] 36)).alloc (.cells #[.int .i64 g2, .slice A2 L2 c2, .int .i64 h2, .slice B2 M2 d2] 36)) #[.int .i64 0, .slice none 0 0, .int .i64 0, .slice none 0 0] 36); simpa only [World.size_alloc] using h5
  have hszw0 : w0.heap.size = w.heap.size + 1 + 1 + 1 := by rw [hw0]; simp only [World.size_alloc]
  have xw0 : Ext w w0 := by rw [hw0]; exact (((Ext.alloc _ _).trans (Ext.alloc _ _)).trans (Ext.alloc _ _))
  clear hw0
  have ka_0 := bxa.c 0 (.int .i64 g1) rfl
  have ka_1 := bxa.c 1 (.slice A1 L1 c1) rfl
  have ka_2 := bxa.c 2 (.int .i64 h1) rfl
  have ka_3 := bxa.c 3 (.slice B1 M1 d1) rfl
  have kb_0 := bxb.c 0 (.int .i64 g2) rfl
  have kb_1 := bxb.c 1 (.slice A2 L2 c2) rfl
  have kb_2 := bxb.c 2 (.int .i64 h2) rfl
  have kb_3 := bxb.c 3 (.slice B2 M2 d2) rfl
  have kr_0 := bxr.c 0 (.int .i64 0) rfl
  have kr_1 := bxr.c 1 (.slice none 0 0) rfl
  have kr_2 := bxr.c 2 (.int .i64 0) rfl
  have kr_3 := bxr.c 3 (.slice none 0 0) rfl
  have HSZ := Lib.hid (And.intro True.intro hszw0)
  clear hszw0
  go_wp2_with fail
  go_cut [5] (fun s5 wx => PutW w0 wx (x1 * (y2 : Int) + x2 * (y1 : Int)) s5)
  case first =>
    have HK : Hid (∀ w', Ext w0 w' → Ext w0 w' ∧ w'.cell? ⟨w.heap.size, 0, none⟩ = some (.int .i64 g1) ∧ w'.cell? ⟨w.heap.size, 1, none⟩ = some (.slice A1 L1 c1) ∧ w'.cell? ⟨w.heap.size, 2, none⟩ = some (.int .i64 h1) ∧ w'.cell? ⟨w.heap.size, 3, none⟩ = some (.slice B1 M1 d1) ∧ w'.cell? ⟨w.heap.size + 1, 0, none⟩ = some (.int .i64 g2) ∧ w'.cell? ⟨w.heap.size + 1, 1, none⟩ = some (.slice A2 L2 c2) ∧ w'.cell? ⟨w.heap.size + 1, 2, none⟩ = some (.int .i64 h2) ∧ w'.cell? ⟨w.heap.size + 1, 3, none⟩ = some (.slice B2 M2 d2) ∧ w'.cell? ⟨w.heap.size + 1 + 1, 0, none⟩ = some (.int .i64 0) ∧ w'.cell? ⟨w.heap.size + 1 + 1, 1, none⟩ = some (.slice none 0 0) ∧ w'.cell? ⟨w.heap.size + 1 + 1, 2, none⟩ = some (.int .i64 0) ∧ w'.cell? ⟨w.heap.size + 1 + 1, 3, none⟩ = some (.slice none 0 0)) := fun w' hk => ⟨hk, hk.cell ka_0, hk.cell ka_1, hk.cell ka_2, hk.cell ka_3, hk.cell kb_0, hk.cell kb_1, hk.cell kb_2, hk.cell kb_3, hk.cell kr_0, hk.cell kr_1, hk.cell kr_2, hk.cell kr_3⟩
    first
    | go_region_held3 (fun w' => Ext w0 w' ∧ w'.cell? ⟨w.heap.size, 0, none⟩ = some (.int .i64 g1) ∧ w'.cell? ⟨w.heap.size, 1, none⟩ = some (.slice A1 L1 c1) ∧ w'.cell? ⟨w.heap.size, 2, none⟩ = some (.int .i64 h1) ∧ w'.cell? ⟨w.heap.size, 3, none⟩ = some (.slice B1 M1 d1) ∧ w'.cell? ⟨w.heap.size + 1, 0, none⟩ = some (.int .i64 g2) ∧ w'.cell? ⟨w.heap.size + 1, 1, none⟩ = some (.slice A2 L2 c2) ∧ w'.cell? ⟨w.heap.size + 1, 2, none⟩ = some (.int .i64 h2) ∧ w'.cell? ⟨w.heap.size + 1, 3, none⟩ = some (.slice B2 M2 d2) ∧ w'.cell? ⟨w.heap.size + 1 + 1, 0, none⟩ = some (.int .i64 0) ∧ w'.cell? ⟨w.heap.size + 1 + 1, 1, none⟩ = some (.slice none 0 0) ∧ w'.cell? ⟨w.heap.size + 1 + 1, 2, none⟩ = some (.int .i64 0) ∧ w'.cell? ⟨w.heap.size + 1 + 1, 3, none⟩ = some (.slice none 0 0))
        ((with_reducible refine HK.out _ ?_; (repeat' first | (with_reducible first | exact Ext.refl _ | assumption | apply Ext.alloc_r | apply Ext.drew_r | apply Ext.drewN_r | apply Ext.set_r | exact Nat.le_refl _) | omega | with_reducible refine Ext.trans ?_ ‹Ext _ _›)))
        (first
          | (go_at_call 63; have hgd := v; clear hgd; refine (add_rz (u.ext (by with_reducible repeat' first | exact Ext.refl _ | assumption | apply Ext.alloc_r | apply Ext.drew_r | apply Ext.drewN_r | refine Ext.trans ?_ ‹Ext _ _›)) (v.ext (by with_reducible repeat' first | exact Ext.refl _ | assumption | apply Ext.alloc_r | apply Ext.drew_r | apply Ext.drewN_r | refine Ext.trans ?_ ‹Ext _ _›)) (by omega) (by omega)).mono ?_; rintro e w3 ⟨gt, At, ct, Lt, rfl, t, x3⟩; (have zs3 := x3.size); (try simp only [World.size_alloc] at zs3); (try ((with_reducible have h3_0 := box_ext (vs := #[.int .i64 0, .slice none 0 0]) x3); have h3_0c0 := (h3_0.1 0 (.int .i64 0) rfl).1; have h3_0f0 := (h3_0.1 0 (.int .i64 0) rfl).2; have h3_0c1 := (h3_0.1 1 (.slice none 0 0) rfl).1; have h3_0f1 := (h3_0.1 1 (.slice none 0 0) rfl).2; have h3_0b := h3_0.2.1; have h3_0z := h3_0.2.2; (try simp only [World.size_alloc] at h3_0b h3_0z h3_0c0 h3_0f0 h3_0c1 h3_0f1); have h3_0m := Nat.ne_of_lt h3_0z; have h3_0n := Nat.ne_of_gt h3_0z; clear h3_0)); (try (have hh : Ext w1 w3 := ?g300; (case g300 => ((with_reducible repeat' first | exact Ext.refl _ | assumption | apply Ext.alloc_r | apply Ext.drew_r | apply Ext.drewN_r | refine Ext.trans ?_ ‹Ext _ _›); done)); replace h1_0f0 := hh.frozen h1_0c0 h1_0f0; replace h1_0c0 := hh.cell h1_0c0; replace h1_0f1 := hh.frozen h1_0c1 h1_0f1; replace h1_0c1 := hh.cell h1_0c1; replace h1_0b := h1_0b.ext hh; have h1_0z2 := Nat.lt_of_lt_of_le h1_0z hh.size; have h1_0m2 := Nat.ne_of_lt h1_0z2; have h1_0n2 := Nat.ne_of_gt h1_0z2; clear hh)); (try (have hh : Ext w2 w3 := ?g310; (case g310 => ((with_reducible repeat' first | exact Ext.refl _ | assumption | apply Ext.alloc_r | apply Ext.drew_r | apply Ext.drewN_r | refine Ext.trans ?_ ‹Ext _ _›); done)); replace h2_0f0 := hh.frozen h2_0c0 h2_0f0; replace h2_0c0 := hh.cell h2_0c0; replace h2_0f1 := hh.frozen h2_0c1 h2_0f1; replace h2_0c1 := hh.cell h2_0c1; replace h2_0b := h2_0b.ext hh; have h2_0z2 := Nat.lt_of_lt_of_le h2_0z hh.size; have h2_0m2 := Nat.ne_of_lt h2_0z2; have h2_0n2 := Nat.ne_of_gt h2_0z2; clear hh)))
          | (go_at_call_of 64 (#[Value.agg #[.int .i64 g2, .slice A2 L2 c2], Value.agg #[.int .i64 h1, .slice B1 M1 d1]]); have hgd := u; clear hgd; refine (mul_rz (a2.ext (by with_reducible repeat' first | exact Ext.refl _ | assumption | apply Ext.alloc_r | apply Ext.drew_r | apply Ext.drewN_r | refine Ext.trans ?_ ‹Ext _ _›)) (b1.ext (by with_reducible repeat' first | exact Ext.refl _ | assumption | apply Ext.alloc_r | apply Ext.drew_r | apply Ext.drewN_r | refine Ext.trans ?_ ‹Ext _ _›)) (by omega) (by omega)).mono ?_; rintro e w2 ⟨gv, Av, cv, Lv, rfl, v, x2⟩; (have zs2 := x2.size); (try simp only [World.size_alloc] at zs2); (try ((with_reducible have h2_0 := box_ext (vs := #[.int .i64 0, .slice none 0 0]) x2); have h2_0c0 := (h2_0.1 0 (.int .i64 0) rfl).1; have h2_0f0 := (h2_0.1 0 (.int .i64 0) rfl).2; have h2_0c1 := (h2_0.1 1 (.slice none 0 0) rfl).1; have h2_0f1 := (h2_0.1 1 (.slice none 0 0) rfl).2; have h2_0b := h2_0.2.1; have h2_0z := h2_0.2.2; (try simp only [World.size_alloc] at h2_0b h2_0z h2_0c0 h2_0f0 h2_0c1 h2_0f1); have h2_0m := Nat.ne_of_lt h2_0z; have h2_0n := Nat.ne_of_gt h2_0z; clear h2_0)))
          | (go_at_call_of 64 (#[Value.agg #[.int .i64 g1, .slice A1 L1 c1], Value.agg #[.int .i64 h2, .slice B2 M2 d2]]); refine (mul_rz (a1.ext (by with_reducible repeat' first | exact Ext.refl _ | assumption | apply Ext.alloc_r | apply Ext.drew_r | apply Ext.drewN_r | refine Ext.trans ?_ ‹Ext _ _›)) (b2.ext (by with_reducible repeat' first | exact Ext.refl _ | assumption | apply Ext.alloc_r | apply Ext.drew_r | apply Ext.drewN_r | refine Ext.trans ?_ ‹Ext _ _›)) (by omega) (by omega)).mono ?_; rintro e w1 ⟨gu, Au, cu, Lu, rfl, u, x1⟩; (have zs1 := x1.size); (try simp only [World.size_alloc, World.size_drew] at zs1); (try ((with_reducible have h1_0 := box_ext (vs := #[.int .i64 0, .slice none 0 0]) ((Ext.drew _).trans x1)); have h1_0c0 := (h1_0.1 0 (.int .i64 0) rfl).1; have h1_0f0 := (h1_0.1 0 (.int .i64 0) rfl).2; have h1_0c1 := (h1_0.1 1 (.slice none 0 0) rfl).1; have h1_0f1 := (h1_0.1 1 (.slice none 0 0) rfl).2; have h1_0b := h1_0.2.1; have h1_0z := h1_0.2.2; (try simp only [World.size_alloc] at h1_0b h1_0z h1_0c0 h1_0f0 h1_0c1 h1_0f1); have h1_0m := Nat.ne_of_lt h1_0z; have h1_0n := Nat.ne_of_gt h1_0z; clear h1_0))))
    | fail
    all_goals (clear HK; go_wp2_with fail; go_meet)
    all_goals
      refine PutW.mk (sg := gt) (A := At) (c := ct) (L := Lt) ?_ ?_ ?_ ?_ ?_ ?_ (t.kept ?_) ?_
      · (first | exact Nat.le_refl _ | omega | (simp only [World.size_alloc, World.size_drew]; omega) | (simp; omega))
      · (with_reducible repeat' first | assumption | apply IsBox.set_ | (apply IsBox.new; (first | rfl | simp); done) | apply IsBox.alloc_ | apply IsBox.drew_ | refine IsBox.ext ?_ ‹Ext _ _›)
      · go_simp
      · go_simp
      · go_simp
      · go_simp
      · (repeat' (first | with_reducible exact Kept.refl _ | with_reducible apply Kept.alloc_r | with_reducible apply Kept.drew_r | (with_reducible apply Kept.setZ; (case hb => ((with_reducible repeat' first | assumption | apply IsBox.set_ | (apply IsBox.new; (first | rfl | simp); done) | apply IsBox.alloc_ | apply IsBox.drew_ | refine IsBox.ext ?_ ‹Ext _ _›); done))) | (with_reducible apply Kept.setI; (case hb => ((with_reducible repeat' first | assumption | apply IsBox.set_ | (apply IsBox.new; (first | rfl | simp); done) | apply IsBox.alloc_ | apply IsBox.drew_ | refine IsBox.ext ?_ ‹Ext _ _›); done))) | with_reducible refine Kept.trans ?_ (Ext.kept ‹Ext _ _›)))
      · (repeat' first | (with_reducible first | exact Ext.refl _ | assumption | apply Ext.alloc_r | apply Ext.drew_r | apply Ext.drewN_r | apply Ext.set_r | exact Nat.le_refl _) | omega | with_reducible refine Ext.trans ?_ ‹Ext _ _›)
  case rest =>
    have hszw0 := HSZ.out.2
    clear ka_0 ka_1 ka_2 ka_3 kb_0 kb_1 kb_2 kb_3 kr_0 kr_1 kr_2 kr_3
    have hc_0 := hcut
    obtain ⟨bkn, gn, An, cn, Ln, rfl, hbn, hwn, n, xxn⟩ := hc_0
    have x4 := xxn
    clear xxn
    obtain ⟨w4, rfl⟩ : ∃ z : World, z = wc := ⟨_, rfl⟩
    have szw4 : w0.heap.size ≤ w4.heap.size := x4.size
    replace bxa := bxa.ext x4
    replace bxb := bxb.ext x4
    replace bxr := bxr.ext x4
    have ln_0 := hwn.c0
    have ln_1 := hwn.c1
    clear hwn
    have ka_0 := bxa.c 0 (.int .i64 g1) rfl
    have ka_1 := bxa.c 1 (.slice A1 L1 c1) rfl
    have ka_2 := bxa.c 2 (.int .i64 h1) rfl
    have ka_3 := bxa.c 3 (.slice B1 M1 d1) rfl
    have kb_0 := bxb.c 0 (.int .i64 g2) rfl
    have kb_1 := bxb.c 1 (.slice A2 L2 c2) rfl
    have kb_2 := bxb.c 2 (.int .i64 h2) rfl
    have kb_3 := bxb.c 3 (.slice B2 M2 d2) rfl
    have kr_0 := bxr.c 0 (.int .i64 0) rfl
    have fr_0 := bxr.f 0
    have kr_1 := bxr.c 1 (.slice none 0 0) rfl
    have fr_1 := bxr.f 1
    have kr_2 := bxr.c 2 (.int .i64 0) rfl
    have fr_2 := bxr.f 2
    have kr_3 := bxr.c 3 (.slice none 0 0) rfl
    have fr_3 := bxr.f 3
    go_wp2_with fail
    have HK : Hid (∀ w', Ext w4 w' → (w'.cell? ⟨w.heap.size, 0, none⟩ = some (.int .i64 g1) ∧ w'.cell? ⟨w.heap.size, 1, none⟩ = some (.slice A1 L1 c1) ∧ w'.cell? ⟨w.heap.size, 2, none⟩ = some (.int .i64 h1) ∧ w'.cell? ⟨w.heap.size, 3, none⟩ = some (.slice B1 M1 d1) ∧ w'.cell? ⟨w.heap.size + 1, 0, none⟩ = some (.int .i64 g2) ∧ w'.cell? ⟨w.heap.size + 1, 1, none⟩ = some (.slice A2 L2 c2) ∧ w'.cell? ⟨w.heap.size + 1, 2, none⟩ = some (.int .i64 h2) ∧ w'.cell? ⟨w.heap.size + 1, 3, none⟩ = some (.slice B2 M2 d2) ∧ w'.cell? ⟨bkn, 0, none⟩ = some (.int .i64 gn) ∧ w'.cell? ⟨bkn, 1, none⟩ = some (.slice An Ln cn))) := fun w' hk => ⟨hk.cell ka_0, hk.cell ka_1, hk.cell ka_2, hk.cell ka_3, hk.cell kb_0, hk.cell kb_1, hk.cell kb_2, hk.cell kb_3, hk.cell ln_0, hk.cell ln_1⟩
    have nera : w.heap.size + 1 + 1 ≠ w.heap.size := by omega
    have nerb : w.heap.size + 1 + 1 ≠ w.heap.size + 1 := by omega
    have nerln : w.heap.size + 1 + 1 ≠ bkn := by omega
    have HSr : Hid (∀ (w' : World) (i : Nat) (u : Value), (w'.cell? ⟨w.heap.size, 0, none⟩ = some (.int .i64 g1) ∧ w'.cell? ⟨w.heap.size, 1, none⟩ = some (.slice A1 L1 c1) ∧ w'.cell? ⟨w.heap.size, 2, none⟩ = some (.int .i64 h1) ∧ w'.cell? ⟨w.heap.size, 3, none⟩ = some (.slice B1 M1 d1) ∧ w'.cell? ⟨w.heap.size + 1, 0, none⟩ = some (.int .i64 g2) ∧ w'.cell? ⟨w.heap.size + 1, 1, none⟩ = some (.slice A2 L2 c2) ∧ w'.cell? ⟨w.heap.size + 1, 2, none⟩ = some (.int .i64 h2) ∧ w'.cell? ⟨w.heap.size + 1, 3, none⟩ = some (.slice B2 M2 d2) ∧ w'.cell? ⟨bkn, 0, none⟩ = some (.int .i64 gn) ∧ w'.cell? ⟨bkn, 1, none⟩ = some (.slice An Ln cn)) → ((fun (w' : World) => (w'.cell? ⟨w.heap.size, 0, none⟩ = some (.int .i64 g1) ∧ w'.cell? ⟨w.heap.size, 1, none⟩ = some (.slice A1 L1 c1) ∧ w'.cell? ⟨w.heap.size, 2, none⟩ = some (.int .i64 h1) ∧ w'.cell? ⟨w.heap.size, 3, none⟩ = some (.slice B1 M1 d1) ∧ w'.cell? ⟨w.heap.size + 1, 0, none⟩ = some (.int .i64 g2) ∧ w'.cell? ⟨w.heap.size + 1, 1, none⟩ = some (.slice A2 L2 c2) ∧ w'.cell? ⟨w.heap.size + 1, 2, none⟩ = some (.int .i64 h2) ∧ w'.cell? ⟨w.heap.size + 1, 3, none⟩ = some (.slice B2 M2 d2) ∧ w'.cell? ⟨bkn, 0, none⟩ = some (.int .i64 gn) ∧ w'.cell? ⟨bkn, 1, none⟩ = some (.slice An Ln cn))) (w'.setCell ⟨w.heap.size + 1 + 1, i, none⟩ u))) := fun w' i u hs => ⟨cell_far nera hs.1, cell_far nera hs.2.1, cell_far nera hs.2.2.1, cell_far nera hs.2.2.2.1, cell_far nerb hs.2.2.2.2.1, cell_far nerb hs.2.2.2.2.2.1, cell_far nerb hs.2.2.2.2.2.2.1, cell_far nerb hs.2.2.2.2.2.2.2.1, cell_far nerln hs.2.2.2.2.2.2.2.2.1, cell_far nerln hs.2.2.2.2.2.2.2.2.2⟩
    go_region_held3 (fun w' => w'.cell? ⟨w.heap.size, 0, none⟩ = some (.int .i64 g1) ∧ w'.cell? ⟨w.heap.size, 1, none⟩ = some (.slice A1 L1 c1) ∧ w'.cell? ⟨w.heap.size, 2, none⟩ = some (.int .i64 h1) ∧ w'.cell? ⟨w.heap.size, 3, none⟩ = some (.slice B1 M1 d1) ∧ w'.cell? ⟨w.heap.size + 1, 0, none⟩ = some (.int .i64 g2) ∧ w'.cell? ⟨w.heap.size + 1, 1, none⟩ = some (.slice A2 L2 c2) ∧ w'.cell? ⟨w.heap.size + 1, 2, none⟩ = some (.int .i64 h2) ∧ w'.cell? ⟨w.heap.size + 1, 3, none⟩ = some (.slice B2 M2 d2) ∧ w'.cell? ⟨bkn, 0, none⟩ = some (.int .i64 gn) ∧ w'.cell? ⟨bkn, 1, none⟩ = some (.slice An Ln cn))
      (((repeat (first | (with_reducible refine HSr.out _ _ _ ?_))); (with_reducible refine HK.out _ ?_; (with_reducible repeat' first | exact Ext.refl _ | assumption | apply Ext.alloc_r | apply Ext.drew_r | apply Ext.drewN_r | refine Ext.trans ?_ ‹Ext _ _›))))
      (first
        | (go_at_call 64; refine (mul_rz (b1.ext (by with_reducible repeat' first | exact Ext.refl _ | assumption | apply Ext.alloc_r | apply Ext.drew_r | apply Ext.drewN_r | refine Ext.trans ?_ ‹Ext _ _›)) (b2.ext (by with_reducible repeat' first | exact Ext.refl _ | assumption | apply Ext.alloc_r | apply Ext.drew_r | apply Ext.drewN_r | refine Ext.trans ?_ ‹Ext _ _›)) (by omega) (by omega)).mono ?_; rintro e w5 ⟨go, Ao, co, Lo, rfl, o, x5⟩; have yl : Ext w4 w5 := (by with_reducible repeat' first | exact Ext.refl _ | assumption | apply Ext.alloc_r | apply Ext.drew_r | apply Ext.drewN_r | refine Ext.trans ?_ ‹Ext _ _›); have cr_0 := (bxr.ext yl).c 0 (.int .i64 0) rfl; have gr_0 := (bxr.ext yl).f 0; have cr_1 := (bxr.ext yl).c 1 (.slice none 0 0) rfl; have gr_1 := (bxr.ext yl).f 1; have cr_2 := (bxr.ext yl).c 2 (.int .i64 0) rfl; have gr_2 := (bxr.ext yl).f 2; have cr_3 := (bxr.ext yl).c 3 (.slice none 0 0) rfl; have gr_3 := (bxr.ext yl).f 3))
    clear ka_0 ka_1 ka_2 ka_3 kb_0 kb_1 kb_2 kb_3 kr_0 fr_0 kr_1 fr_1 kr_2 fr_2 kr_3 fr_3
    clear HK HSr nera nerb nerln
    clear cr_0 gr_0
    clear cr_1 gr_1
    clear cr_2 gr_2
    clear cr_3 gr_3
    clear yl
    have xhw5 : Ext w4 w5 := (by with_reducible repeat' first | exact Ext.refl _ | assumption | apply Ext.alloc_r | apply Ext.drew_r | apply Ext.drewN_r | refine Ext.trans ?_ ‹Ext _ _›)
    have szw5 : w4.heap.size ≤ w5.heap.size := xhw5.size
    replace bxa := bxa.ext xhw5
    replace bxb := bxb.ext xhw5
    replace bxr := bxr.ext xhw5
    replace ln_0 := xhw5.cell ln_0
    replace ln_1 := xhw5.cell ln_1
    obtain ⟨w6, hw⟩ : ∃ z : World, z = ((((w5.setCell ⟨w.heap.size + 1 + 1, 0, none⟩ (.int .i64 gn)).setCell ⟨w.heap.size + 1 + 1, 1, none⟩ (.slice An Ln cn)).setCell ⟨w.heap.size + 1 + 1, 2, none⟩ (.int .i64 go)).setCell ⟨w.heap.size + 1 + 1, 3, none⟩ (.slice Ao Lo co)) := ⟨_, rfl⟩
    rw [← hw]
    have kw6 : Kept w5 w6 := by rw [hw]; exact (Kept.set_ (Kept.set_ (Kept.set_ (Kept.set_ (Kept.refl _) bxr.isBox plain_Q) (IsBox.set_ bxr.isBox) plain_Q) (IsBox.set_ (IsBox.set_ bxr.isBox)) plain_Q) (IsBox.set_ (IsBox.set_ (IsBox.set_ bxr.isBox))) plain_Q)
    have nba : BK w6 (w.heap.size) 36 #[.int .i64 g1, .slice A1 L1 c1, .int .i64 h1, .slice B1 M1 d1] := by rw [hw]; exact (BK.far (BK.far (BK.far (BK.far bxa (show w.heap.size ≠ w.heap.size + 1 + 1 by omega) 0 _) (show w.heap.size ≠ w.heap.size + 1 + 1 by omega) 1 _) (show w.heap.size ≠ w.heap.size + 1 + 1 by omega) 2 _) (show w.heap.size ≠ w.heap.size + 1 + 1 by omega) 3 _)
    have nbb : BK w6 (w.heap.size + 1) 36 #[.int .i64 g2, .slice A2 L2 c2, .int .i64 h2, .slice B2 M2 d2] := by rw [hw]; exact (BK.far (BK.far (BK.far (BK.far bxb (show w.heap.size + 1 ≠ w.heap.size + 1 + 1 by omega) 0 _) (show w.heap.size + 1 ≠ w.heap.size + 1 + 1 by omega) 1 _) (show w.heap.size + 1 ≠ w.heap.size + 1 + 1 by omega) 2 _) (show w.heap.size + 1 ≠ w.heap.size + 1 + 1 by omega) 3 _)
    have nbr : BK w6 (w.heap.size + 1 + 1) 36 #[.int .i64 gn, .slice An Ln cn, .int .i64 go, .slice Ao Lo co] := by rw [hw]; exact (BK.set (i := 3) (u := .slice Ao Lo co) (vs' := #[.int .i64 gn, .slice An Ln cn, .int .i64 go, .slice Ao Lo co]) (BK.set (i := 2) (u := .int .i64 go) (vs' := #[.int .i64 gn, .slice An Ln cn, .int .i64 go, .slice none 0 0]) (BK.set (i := 1) (u := .slice An Ln cn) (vs' := #[.int .i64 gn, .slice An Ln cn, .int .i64 0, .slice none 0 0]) (BK.set (i := 0) (u := .int .i64 gn) (vs' := #[.int .i64 gn, .slice none 0 0, .int .i64 0, .slice none 0 0]) bxr rfl) rfl) rfl) rfl)
    have x6 : Ext w w6 := by rw [hw]; have hxp : Ext w w5 := (by with_reducible repeat' first | exact Ext.refl _ | assumption | apply Ext.alloc_r | apply Ext.drew_r | apply Ext.drewN_r | refine Ext.trans ?_ ‹Ext _ _›); exact (Ext.set_ (Ext.set_ (Ext.set_ (Ext.set_ hxp (show _ ≤ w.heap.size + 1 + 1 by omega)) (show _ ≤ w.heap.size + 1 + 1 by omega)) (show _ ≤ w.heap.size + 1 + 1 by omega)) (show _ ≤ w.heap.size + 1 + 1 by omega))
    clear bxa
    clear bxb
    clear bxr
    have bxa := nba
    clear nba
    have bxb := nbb
    clear nbb
    have bxr := nbr
    clear nbr
    have szw6 : w6.heap.size = w5.heap.size := by rw [hw]; simp
    replace n := (n.ext (by with_reducible repeat' first | exact Ext.refl _ | assumption | apply Ext.alloc_r | apply Ext.drew_r | apply Ext.drewN_r | refine Ext.trans ?_ ‹Ext _ _›)).kept kw6
    replace o := (o.ext (by with_reducible repeat' first | exact Ext.refl _ | assumption | apply Ext.alloc_r | apply Ext.drew_r | apply Ext.drewN_r | refine Ext.trans ?_ ‹Ext _ _›)).kept kw6
    clear hw kw6
    have HQ2 : Hid (QR w6 gn An cn Ln go Ao co Lo (K1 + K2 + 1) (q1 + q2)) := ⟨_, y1 * y2, n, o, hp, HQ.out, by omega, by omega⟩
    clear n o
    have ka_0 := bxa.c 0 (.int .i64 g1) rfl
    have ka_1 := bxa.c 1 (.slice A1 L1 c1) rfl
    have ka_2 := bxa.c 2 (.int .i64 h1) rfl
    have ka_3 := bxa.c 3 (.slice B1 M1 d1) rfl
    have kb_0 := bxb.c 0 (.int .i64 g2) rfl
    have kb_1 := bxb.c 1 (.slice A2 L2 c2) rfl
    have kb_2 := bxb.c 2 (.int .i64 h2) rfl
    have kb_3 := bxb.c 3 (.slice B2 M2 d2) rfl
    have kr_0 := bxr.c 0 (.int .i64 gn) rfl
    have kr_1 := bxr.c 1 (.slice An Ln cn) rfl
    have kr_2 := bxr.c 2 (.int .i64 go) rfl
    have kr_3 := bxr.c 3 (.slice Ao Lo co) rfl
    go_wp2_with fail
    clear ka_0 ka_1 ka_2 ka_3 kb_0 kb_1 kb_2 kb_3 kr_0 kr_1 kr_2 kr_3
    have kr_0 := bxr.c 0 (.int .i64 gn) rfl
    have kr_1 := bxr.c 1 (.slice An Ln cn) rfl
    have kr_2 := bxr.c 2 (.int .i64 go) rfl
    have kr_3 := bxr.c 3 (.slice Ao Lo co) rfl
    refine bodyPost_ret (v := .agg #[.int .i64 gn, .slice An Ln cn, .int .i64 go, .slice Ao Lo co]) (by simp [results, Tryz.results32, go_sem, kr_0, kr_1, kr_2, kr_3]) rfl ?_
    exact ⟨_, _, _, _, _, _, _, _, rfl, HQ2.out, x6⟩
set_option maxHeartbeats 4000000 in
set_option maxRecDepth 100000 in
theorem qneg_r {w : World} {g1 h1 : Int} {A1 B1 : Option Addr} {c1 d1 L1 M1 K1 : Nat} {q1 : Rat} (z1 : QR w g1 A1 c1 L1 h1 B1 d1 M1 K1 q1) :
    Calls Tryz.prog 33 #[Value.agg #[.int .i64 g1, .slice A1 L1 c1, .int .i64 h1, .slice B1 M1 d1]] w (RetQ w K1 (-q1)) := by
  obtain ⟨x1, y1, a1, b1, p1, e1, m1, n1⟩ := z1.ex
  have HQ : Hid (-q1 = mkRat (-x1) y1) := by show _ = _; rw [e1]; exact Rat.neg_mkRat _ _
  clear z1 e1
  go_enter Tryz.func33, Tryz.ntmps33
  go_wp2_with fail
  obtain ⟨w0, hw0⟩ : ∃ z : World, z = ((w.alloc (.cells #[.int .i64 g1, .slice A1 L1 c1, .int .i64 h1, .slice B1 M1 d1] 36)).alloc (.cells #[.int .i64 0, .slice none 0 0, .int .i64 0, .slice none 0 0] 36)) := ⟨_, rfl⟩
  rw [← hw0]
  have bxa : BK w0 (w.heap.size) 36 #[.int .i64 g1, .slice A1 L1 c1, .int .i64 h1, .slice B1 M1 d1] := by rw [hw0]; have h5 := (BK.ext (BK.new w #[.int .i64 g1, .slice A1 L1 c1, .int .i64 h1, .slice B1 M1 d1] 36) (Ext.alloc _ (.cells #[.int .i64 0, .slice none 0 0, .int .i64 0, .slice none 0 0] 36))); simpa only [World.size_alloc] using h5
  have bxr : BK w0 (w.heap.size + 1) 36 #[.int .i64 0, .slice none 0 0, .int .i64 0, .slice none 0 0] := by rw [hw0]; have h5 := (BK.new (w.alloc (.cells #[.int .i64 g1, .slice A1 L1 c1, .int .i64 h1, .slice B1 M1 d1] 36)) #[.int .i64 0, .slice none 0 0, .int .i64 0, .slice none 0 0] 36); simpa only [World.size_alloc] using h5
  have hszw0 : w0.heap.size = w.heap.size + 1 + 1 := by rw [hw0]; simp only [World.size_alloc]
  have xw0 : Ext w w0 := by rw [hw0]; exact ((Ext.alloc _ _).trans (Ext.alloc _ _))
  clear hw0
  have ka_0 := bxa.c 0 (.int .i64 g1) rfl
  have ka_1 := bxa.c 1 (.slice A1 L1 c1) rfl
  have ka_2 := bxa.c 2 (.int .i64 h1) rfl
  have ka_3 := bxa.c 3 (.slice B1 M1 d1) rfl
  have kr_0 := bxr.c 0 (.int .i64 0) rfl
  have fr_0 := bxr.f 0
  have kr_1 := bxr.c 1 (.slice none 0 0) rfl
  have fr_1 := bxr.f 1
  have kr_2 := bxr.c 2 (.int .i64 0) rfl
  have fr_2 := bxr.f 2
  have kr_3 := bxr.c 3 (.slice none 0 0) rfl
  have fr_3 := bxr.f 3
  go_wp2_with fail
  have HK : Hid (∀ w', Ext w0 w' → (w'.cell? ⟨w.heap.size, 0, none⟩ = some (.int .i64 g1) ∧ w'.cell? ⟨w.heap.size, 1, none⟩ = some (.slice A1 L1 c1) ∧ w'.cell? ⟨w.heap.size, 2, none⟩ = some (.int .i64 h1) ∧ w'.cell? ⟨w.heap.size, 3, none⟩ = some (.slice B1 M1 d1))) := fun w' hk => ⟨hk.cell ka_0, hk.cell ka_1, hk.cell ka_2, hk.cell ka_3⟩
  have nera : w.heap.size + 1 ≠ w.heap.size := by omega
  have HSr : Hid (∀ (w' : World) (i : Nat) (u : Value), (w'.cell? ⟨w.heap.size, 0, none⟩ = some (.int .i64 g1) ∧ w'.cell? ⟨w.heap.size, 1, none⟩ = some (.slice A1 L1 c1) ∧ w'.cell? ⟨w.heap.size, 2, none⟩ = some (.int .i64 h1) ∧ w'.cell? ⟨w.heap.size, 3, none⟩ = some (.slice B1 M1 d1)) → ((fun (w' : World) => (w'.cell? ⟨w.heap.size, 0, none⟩ = some (.int .i64 g1) ∧ w'.cell? ⟨w.heap.size, 1, none⟩ = some (.slice A1 L1 c1) ∧ w'.cell? ⟨w.heap.size, 2, none⟩ = some (.int .i64 h1) ∧ w'.cell? ⟨w.heap.size, 3, none⟩ = some (.slice B1 M1 d1))) (w'.setCell ⟨w.heap.size + 1, i, none⟩ u))) := fun w' i u hs => ⟨cell_far nera hs.1, cell_far nera hs.2.1, cell_far nera hs.2.2.1, cell_far nera hs.2.2.2⟩
  go_region_held3 (fun w' => w'.cell? ⟨w.heap.size, 0, none⟩ = some (.int .i64 g1) ∧ w'.cell? ⟨w.heap.size, 1, none⟩ = some (.slice A1 L1 c1) ∧ w'.cell? ⟨w.heap.size, 2, none⟩ = some (.int .i64 h1) ∧ w'.cell? ⟨w.heap.size, 3, none⟩ = some (.slice B1 M1 d1))
    (((repeat (first | (with_reducible refine HSr.out _ _ _ ?_))); (with_reducible refine HK.out _ ?_; (with_reducible repeat' first | exact Ext.refl _ | assumption | apply Ext.alloc_r | apply Ext.drew_r | apply Ext.drewN_r | refine Ext.trans ?_ ‹Ext _ _›))))
    (first
      | (go_at_call 65; refine (neg_rz (a1.ext (by with_reducible repeat' first | exact Ext.refl _ | assumption | apply Ext.alloc_r | apply Ext.drew_r | apply Ext.drewN_r | refine Ext.trans ?_ ‹Ext _ _›))).mono ?_; rintro e w1 ⟨gu, Au, cu, Lu, rfl, u, x1⟩; have yl : Ext w0 w1 := (by with_reducible repeat' first | exact Ext.refl _ | assumption | apply Ext.alloc_r | apply Ext.drew_r | apply Ext.drewN_r | refine Ext.trans ?_ ‹Ext _ _›); have cr_0 := (bxr.ext yl).c 0 (.int .i64 0) rfl; have gr_0 := (bxr.ext yl).f 0; have cr_1 := (bxr.ext yl).c 1 (.slice none 0 0) rfl; have gr_1 := (bxr.ext yl).f 1; have cr_2 := (bxr.ext yl).c 2 (.int .i64 0) rfl; have gr_2 := (bxr.ext yl).f 2; have cr_3 := (bxr.ext yl).c 3 (.slice none 0 0) rfl; have gr_3 := (bxr.ext yl).f 3))
  clear ka_0 ka_1 ka_2 ka_3 kr_0 fr_0 kr_1 fr_1 kr_2 fr_2 kr_3 fr_3
  clear HK HSr nera
  clear cr_0 gr_0
  clear cr_1 gr_1
  clear cr_2 gr_2
  clear cr_3 gr_3
  clear yl
  have xhw1 : Ext w0 w1 := (by with_reducible repeat' first | exact Ext.refl _ | assumption | apply Ext.alloc_r | apply Ext.drew_r | apply Ext.drewN_r | refine Ext.trans ?_ ‹Ext _ _›)
  have szw1 : w0.heap.size ≤ w1.heap.size := xhw1.size
  replace bxa := bxa.ext xhw1
  replace bxr := bxr.ext xhw1
  have o := b1.ext (by with_reducible repeat' first | exact Ext.refl _ | assumption | apply Ext.alloc_r | apply Ext.drew_r | apply Ext.drewN_r | refine Ext.trans ?_ ‹Ext _ _›)
  clear b1
  obtain ⟨w2, hw⟩ : ∃ z : World, z = ((((w1.setCell ⟨w.heap.size + 1, 0, none⟩ (.int .i64 gu)).setCell ⟨w.heap.size + 1, 1, none⟩ (.slice Au Lu cu)).setCell ⟨w.heap.size + 1, 2, none⟩ (.int .i64 h1)).setCell ⟨w.heap.size + 1, 3, none⟩ (.slice B1 M1 d1)) := ⟨_, rfl⟩
  rw [← hw]
  have kw2 : Kept w1 w2 := by rw [hw]; exact (Kept.set_ (Kept.set_ (Kept.set_ (Kept.set_ (Kept.refl _) bxr.isBox plain_Q) (IsBox.set_ bxr.isBox) plain_Q) (IsBox.set_ (IsBox.set_ bxr.isBox)) plain_Q) (IsBox.set_ (IsBox.set_ (IsBox.set_ bxr.isBox))) plain_Q)
  have nba : BK w2 (w.heap.size) 36 #[.int .i64 g1, .slice A1 L1 c1, .int .i64 h1, .slice B1 M1 d1] := by rw [hw]; exact (BK.far (BK.far (BK.far (BK.far bxa (show w.heap.size ≠ w.heap.size + 1 by omega) 0 _) (show w.heap.size ≠ w.heap.size + 1 by omega) 1 _) (show w.heap.size ≠ w.heap.size + 1 by omega) 2 _) (show w.heap.size ≠ w.heap.size + 1 by omega) 3 _)
  have nbr : BK w2 (w.heap.size + 1) 36 #[.int .i64 gu, .slice Au Lu cu, .int .i64 h1, .slice B1 M1 d1] := by rw [hw]; exact (BK.set (i := 3) (u := .slice B1 M1 d1) (vs' := #[.int .i64 gu, .slice Au Lu cu, .int .i64 h1, .slice B1 M1 d1]) (BK.set (i := 2) (u := .int .i64 h1) (vs' := #[.int .i64 gu, .slice Au Lu cu, .int .i64 h1, .slice none 0 0]) (BK.set (i := 1) (u := .slice Au Lu cu) (vs' := #[.int .i64 gu, .slice Au Lu cu, .int .i64 0, .slice none 0 0]) (BK.set (i := 0) (u := .int .i64 gu) (vs' := #[.int .i64 gu, .slice none 0 0, .int .i64 0, .slice none 0 0]) bxr rfl) rfl) rfl) rfl)
  have x2 : Ext w w2 := by rw [hw]; have hxp : Ext w w1 := (by with_reducible repeat' first | exact Ext.refl _ | assumption | apply Ext.alloc_r | apply Ext.drew_r | apply Ext.drewN_r | refine Ext.trans ?_ ‹Ext _ _›); exact (Ext.set_ (Ext.set_ (Ext.set_ (Ext.set_ hxp (show _ ≤ w.heap.size + 1 by omega)) (show _ ≤ w.heap.size + 1 by omega)) (show _ ≤ w.heap.size + 1 by omega)) (show _ ≤ w.heap.size + 1 by omega))
  clear bxa
  clear bxr
  have bxa := nba
  clear nba
  have bxr := nbr
  clear nbr
  have szw2 : w2.heap.size = w1.heap.size := by rw [hw]; simp
  replace u := (u.ext (by with_reducible repeat' first | exact Ext.refl _ | assumption | apply Ext.alloc_r | apply Ext.drew_r | apply Ext.drewN_r | refine Ext.trans ?_ ‹Ext _ _›)).kept kw2
  replace o := (o.ext (by with_reducible repeat' first | exact Ext.refl _ | assumption | apply Ext.alloc_r | apply Ext.drew_r | apply Ext.drewN_r | refine Ext.trans ?_ ‹Ext _ _›)).kept kw2
  clear hw kw2
  have HQ2 : Hid (QR w2 gu Au cu Lu h1 B1 d1 M1 K1 (-q1)) := ⟨_, y1, u, o, p1, HQ.out, by rw [Int.natAbs_neg]; exact m1, n1⟩
  clear u o
  have ka_0 := bxa.c 0 (.int .i64 g1) rfl
  have ka_1 := bxa.c 1 (.slice A1 L1 c1) rfl
  have ka_2 := bxa.c 2 (.int .i64 h1) rfl
  have ka_3 := bxa.c 3 (.slice B1 M1 d1) rfl
  have kr_0 := bxr.c 0 (.int .i64 gu) rfl
  have kr_1 := bxr.c 1 (.slice Au Lu cu) rfl
  have kr_2 := bxr.c 2 (.int .i64 h1) rfl
  have kr_3 := bxr.c 3 (.slice B1 M1 d1) rfl
  go_wp2_with fail
  clear ka_0 ka_1 ka_2 ka_3 kr_0 kr_1 kr_2 kr_3
  have kr_0 := bxr.c 0 (.int .i64 gu) rfl
  have kr_1 := bxr.c 1 (.slice Au Lu cu) rfl
  have kr_2 := bxr.c 2 (.int .i64 h1) rfl
  have kr_3 := bxr.c 3 (.slice B1 M1 d1) rfl
  refine bodyPost_ret (v := .agg #[.int .i64 gu, .slice Au Lu cu, .int .i64 h1, .slice B1 M1 d1]) (by simp [results, Tryz.results33, go_sem, kr_0, kr_1, kr_2, kr_3]) rfl ?_
  exact ⟨_, _, _, _, _, _, _, _, rfl, HQ2.out, x2⟩
set_option maxHeartbeats 4000000 in
set_option maxRecDepth 100000 in
theorem qcmp_r {w : World} {g1 h1 : Int} {A1 B1 : Option Addr} {c1 d1 L1 M1 K1 : Nat} {q1 : Rat} {g2 h2 : Int} {A2 B2 : Option Addr} {c2 d2 L2 M2 K2 : Nat} {q2 : Rat} (z1 : QR w g1 A1 c1 L1 h1 B1 d1 M1 K1 q1) (z2 : QR w g2 A2 c2 L2 h2 B2 d2 M2 K2 q2) (hs1 : K1 ≤ 1000000000) (hs2 : K2 ≤ 1000000000) :
    Calls Tryz.prog 42 #[Value.agg #[.int .i64 g1, .slice A1 L1 c1, .int .i64 h1, .slice B1 M1 d1], Value.agg #[.int .i64 g2, .slice A2 L2 c2, .int .i64 h2, .slice B2 M2 d2]] w fun e w' => e = .returned (.int .i64 (cmpQ q1 q2)) ∧ Ext w w' := by
  obtain ⟨x1, y1, a1, b1, p1, e1, m1, n1⟩ := z1.ex
  obtain ⟨x2, y2, a2, b2, p2, e2, m2, n2⟩ := z2.ex
  have HQ : Hid (cmpZ (x1 * (y2 : Int)) (x2 * (y1 : Int)) = cmpQ q1 q2) := by show _ = _; rw [e1, e2]; exact cmpQ_mk p1 p2
  have hb1 := bl_mul x1.natAbs y2
  have hb3 := bl_mul x2.natAbs y1
  have k1 : bl (x1 * (y2 : Int)).natAbs = bl (x1.natAbs * y2) := by rw [Int.natAbs_mul, Int.natAbs_natCast]
  have k2 : bl (x2 * (y1 : Int)).natAbs = bl (x2.natAbs * y1) := by rw [Int.natAbs_mul, Int.natAbs_natCast]
  have j1 : bl ((y1 : Int)).natAbs = bl y1 := by rw [Int.natAbs_natCast]
  have j2 : bl ((y2 : Int)).natAbs = bl y2 := by rw [Int.natAbs_natCast]
  have HC : Hid (∀ w' u A c L v B d M, RZ w' u A c L (x1 * (y2 : Int)) → RZ w' v B d M (x2 * (y1 : Int)) → Calls Tryz.prog 69 #[.agg #[.int .i64 u, .slice A L c], .agg #[.int .i64 v, .slice B M d]] w' fun e w'' => e = .returned (.int .i64 (cmpQ q1 q2)) ∧ Ext w' w'') := fun w' u A c L v B d M hu hv => by
    have h5 := rzcmp_z hu hv (by omega) (by omega)
    rw [HQ.out] at h5
    exact h5
  clear z1 z2 e1 e2 HQ
  go_enter Tryz.func42, Tryz.ntmps42
  go_wp2_with fail
  obtain ⟨w0, hw0⟩ : ∃ z : World, z = ((w.alloc (.cells #[.int .i64 g1, .slice A1 L1 c1, .int .i64 h1, .slice B1 M1 d1] 36)).alloc (.cells #[.int .i64 g2, .slice A2 L2 c2, .int .i64 h2, .slice B2 M2 d2] 36)) := ⟨_, rfl⟩
  rw [← hw0]
  have bxa : BK w0 (w.heap.size) 36 #[.int .i64 g1, .slice A1 L1 c1, .int .i64 h1, .slice B1 M1 d1] := by rw [hw0]; have h5 := (BK.ext (BK.new w #[.int .i64 g1, .slice A1 L1 c1, .int .i64 h1, .slice B1 M1 d1] 36) (Ext.alloc _ (.cells #[.int .i64 g2, .slice A2 L2 c2, .int .i64 h2, .slice B2 M2 d2] 36))); simpa only [World.size_alloc] using h5
  have bxb : BK w0 (w.heap.size + 1) 36 #[.int .i64 g2, .slice A2 L2 c2, .int .i64 h2, .slice B2 M2 d2] := by rw [hw0]; have h5 := (BK.new (w.alloc (.cells #[.int .i64 g1, .slice A1 L1 c1, .int .i64 h1, .slice B1 M1 d1] 36)) #[.int .i64 g2, .slice A2 L2 c2, .int .i64 h2, .slice B2 M2 d2] 36); simpa only [World.size_alloc] using h5
  have hszw0 : w0.heap.size = w.heap.size + 1 + 1 := by rw [hw0]; simp only [World.size_alloc]
  have xw0 : Ext w w0 := by rw [hw0]; exact ((Ext.alloc _ _).trans (Ext.alloc _ _))
  clear hw0
  have ka_0 := bxa.c 0 (.int .i64 g1) rfl
  have ka_1 := bxa.c 1 (.slice A1 L1 c1) rfl
  have ka_2 := bxa.c 2 (.int .i64 h1) rfl
  have ka_3 := bxa.c 3 (.slice B1 M1 d1) rfl
  have kb_0 := bxb.c 0 (.int .i64 g2) rfl
  have kb_1 := bxb.c 1 (.slice A2 L2 c2) rfl
  have kb_2 := bxb.c 2 (.int .i64 h2) rfl
  have kb_3 := bxb.c 3 (.slice B2 M2 d2) rfl
  go_wp2_with fail
  have HK : Hid (∀ w', Ext w0 w' → (w'.cell? ⟨w.heap.size, 0, none⟩ = some (.int .i64 g1) ∧ w'.cell? ⟨w.heap.size, 1, none⟩ = some (.slice A1 L1 c1) ∧ w'.cell? ⟨w.heap.size, 2, none⟩ = some (.int .i64 h1) ∧ w'.cell? ⟨w.heap.size, 3, none⟩ = some (.slice B1 M1 d1) ∧ w'.cell? ⟨w.heap.size + 1, 0, none⟩ = some (.int .i64 g2) ∧ w'.cell? ⟨w.heap.size + 1, 1, none⟩ = some (.slice A2 L2 c2) ∧ w'.cell? ⟨w.heap.size + 1, 2, none⟩ = some (.int .i64 h2) ∧ w'.cell? ⟨w.heap.size + 1, 3, none⟩ = some (.slice B2 M2 d2))) := fun w' hk => ⟨hk.cell ka_0, hk.cell ka_1, hk.cell ka_2, hk.cell ka_3, hk.cell kb_0, hk.cell kb_1, hk.cell kb_2, hk.cell kb_3⟩
  go_region_held3 (fun w' => w'.cell? ⟨w.heap.size, 0, none⟩ = some (.int .i64 g1) ∧ w'.cell? ⟨w.heap.size, 1, none⟩ = some (.slice A1 L1 c1) ∧ w'.cell? ⟨w.heap.size, 2, none⟩ = some (.int .i64 h1) ∧ w'.cell? ⟨w.heap.size, 3, none⟩ = some (.slice B1 M1 d1) ∧ w'.cell? ⟨w.heap.size + 1, 0, none⟩ = some (.int .i64 g2) ∧ w'.cell? ⟨w.heap.size + 1, 1, none⟩ = some (.slice A2 L2 c2) ∧ w'.cell? ⟨w.heap.size + 1, 2, none⟩ = some (.int .i64 h2) ∧ w'.cell? ⟨w.heap.size + 1, 3, none⟩ = some (.slice B2 M2 d2))
    ((with_reducible refine HK.out _ ?_; (with_reducible repeat' first | exact Ext.refl _ | assumption | apply Ext.alloc_r | apply Ext.drew_r | apply Ext.drewN_r | refine Ext.trans ?_ ‹Ext _ _›)))
    (first
      | (go_at_call 69; have hgd := v; clear hgd; refine (HC.out _ _ _ _ _ _ _ _ _ (u.ext (by with_reducible repeat' first | exact Ext.refl _ | assumption | apply Ext.alloc_r | apply Ext.drew_r | apply Ext.drewN_r | refine Ext.trans ?_ ‹Ext _ _›)) (v)).mono ?_; rintro e w3 ⟨rfl, x3⟩)
      | (go_at_call_of 64 (#[Value.agg #[.int .i64 g2, .slice A2 L2 c2], Value.agg #[.int .i64 h1, .slice B1 M1 d1]]); have hgd := u; clear hgd; refine (mul_rz (a2.ext (by with_reducible repeat' first | exact Ext.refl _ | assumption | apply Ext.alloc_r | apply Ext.drew_r | apply Ext.drewN_r | refine Ext.trans ?_ ‹Ext _ _›)) (b1.ext (by with_reducible repeat' first | exact Ext.refl _ | assumption | apply Ext.alloc_r | apply Ext.drew_r | apply Ext.drewN_r | refine Ext.trans ?_ ‹Ext _ _›)) (by omega) (by omega)).mono ?_; rintro e w2 ⟨gv, Av, cv, Lv, rfl, v, x2⟩)
      | (go_at_call_of 64 (#[Value.agg #[.int .i64 g1, .slice A1 L1 c1], Value.agg #[.int .i64 h2, .slice B2 M2 d2]]); refine (mul_rz (a1.ext (by with_reducible repeat' first | exact Ext.refl _ | assumption | apply Ext.alloc_r | apply Ext.drew_r | apply Ext.drewN_r | refine Ext.trans ?_ ‹Ext _ _›)) (b2.ext (by with_reducible repeat' first | exact Ext.refl _ | assumption | apply Ext.alloc_r | apply Ext.drew_r | apply Ext.drewN_r | refine Ext.trans ?_ ‹Ext _ _›)) (by omega) (by omega)).mono ?_; rintro e w1 ⟨gu, Au, cu, Lu, rfl, u, x1⟩))
  clear ka_0 ka_1 ka_2 ka_3 kb_0 kb_1 kb_2 kb_3
  clear HK
  have szw1 : w0.heap.size ≤ w1.heap.size := (show Ext w0 w1 from (by with_reducible repeat' first | exact Ext.refl _ | assumption | apply Ext.alloc_r | apply Ext.drew_r | apply Ext.drewN_r | refine Ext.trans ?_ ‹Ext _ _›)).size
  have szw2 : w0.heap.size ≤ w2.heap.size := (show Ext w0 w2 from (by with_reducible repeat' first | exact Ext.refl _ | assumption | apply Ext.alloc_r | apply Ext.drew_r | apply Ext.drewN_r | refine Ext.trans ?_ ‹Ext _ _›)).size
  have xhw3 : Ext w0 w3 := (by with_reducible repeat' first | exact Ext.refl _ | assumption | apply Ext.alloc_r | apply Ext.drew_r | apply Ext.drewN_r | refine Ext.trans ?_ ‹Ext _ _›)
  have szw3 : w0.heap.size ≤ w3.heap.size := xhw3.size
  replace bxa := bxa.ext xhw3
  replace bxb := bxb.ext xhw3
  have x0w : Ext w w3 := (by with_reducible repeat' first | exact Ext.refl _ | assumption | apply Ext.alloc_r | apply Ext.drew_r | apply Ext.drewN_r | refine Ext.trans ?_ ‹Ext _ _›)
  clear u v HC
  have ka_0 := bxa.c 0 (.int .i64 g1) rfl
  have ka_1 := bxa.c 1 (.slice A1 L1 c1) rfl
  have ka_2 := bxa.c 2 (.int .i64 h1) rfl
  have ka_3 := bxa.c 3 (.slice B1 M1 d1) rfl
  have kb_0 := bxb.c 0 (.int .i64 g2) rfl
  have kb_1 := bxb.c 1 (.slice A2 L2 c2) rfl
  have kb_2 := bxb.c 2 (.int .i64 h2) rfl
  have kb_3 := bxb.c 3 (.slice B2 M2 d2) rfl
  go_wp2_with fail
  clear ka_0 ka_1 ka_2 ka_3 kb_0 kb_1 kb_2 kb_3
  go_ret
  exact ⟨rfl, x0w⟩
set_option maxHeartbeats 4000000 in
set_option maxRecDepth 100000 in
theorem qof_r {w : World} {s : Bool} {A B : Option Addr} {c d L M K : Nat} {x : Int} {y : Nat} (h1 : ZV w s A c L x) (h2 : NV w B d M y) (hL : 32 * L ≤ K) (hM : 32 * M ≤ K) (hK : K ≤ 1000000000) (hK1 : 1 ≤ K) :
    Calls Tryz.prog 54 #[.bool s, .slice A L c, .slice B M d] w (RetQ w K (mkRat x y)) := by
  have b1 := h1.nv.bl
  have b2 := h2.bl
  have HD : Hid (∀ w', Ext w w' → Calls Tryz.prog 81 #[.bool false, .slice B M d] w' (RetRZ w' (y : Int))) := fun w' hx => of_rz ⟨by rw [Int.natAbs_natCast]; exact h2.ext hx, (fun e => by cases e), fun _ => Int.natCast_nonneg _⟩ (by omega)
  have HN : Hid (∀ w', Ext w w' → Calls Tryz.prog 81 #[.bool s, .slice A L c] w' (RetRZ w' x)) := fun w' hx => of_rz (h1.ext hx) (by omega)
  clear h1 h2
  by_cases hy : y = 0
  · subst hy
    have HQ : Hid (mkRat x 0 = mkRat 0 1) := by show _ = _; rw [Rat.mkRat_zero, Rat.zero_mkRat]
    have hb1 : bl 1 ≤ 1 := by have := bl_of_lt (n := 1) (k := 1) (by omega); omega
    have hb0 : bl (0 : Int).natAbs ≤ K := by have := bl_of_lt (n := 0) (k := 1) (by omega); show bl 0 ≤ K; omega
    go_enter Tryz.func54, Tryz.ntmps54
    go_wp2_with fail
    obtain ⟨w0, hw0⟩ : ∃ z : World, z = (w.alloc (.cells #[.int .i64 0, .slice none 0 0, .int .i64 0, .slice none 0 0] 36)) := ⟨_, rfl⟩
    rw [← hw0]
    have bxr : BK w0 (w.heap.size) 36 #[.int .i64 0, .slice none 0 0, .int .i64 0, .slice none 0 0] := by rw [hw0]; have h5 := (BK.new w #[.int .i64 0, .slice none 0 0, .int .i64 0, .slice none 0 0] 36); simpa only [World.size_alloc] using h5
    have hszw0 : w0.heap.size = w.heap.size + 1 := by rw [hw0]; simp only [World.size_alloc]
    have xw0 : Ext w w0 := by rw [hw0]; exact (Ext.alloc _ _)
    clear hw0
    refine (HD.out _ (by with_reducible repeat' first | exact Ext.refl _ | assumption | apply Ext.alloc_r | apply Ext.drew_r | apply Ext.drewN_r | refine Ext.trans ?_ ‹Ext _ _›)).mono ?_
    rintro e w1 ⟨gd, Ad, cd, Ld, rfl, d, x1⟩
    have szw1 : w0.heap.size ≤ w1.heap.size := x1.size
    replace bxr := bxr.ext x1
    obtain rfl : gd = 0 := by rw [d.sign]; rfl
    clear d
    have kr_0 := bxr.c 0 (.int .i64 0) rfl
    have kr_1 := bxr.c 1 (.slice none 0 0) rfl
    have kr_2 := bxr.c 2 (.int .i64 0) rfl
    have kr_3 := bxr.c 3 (.slice none 0 0) rfl
    have t1r_0 := fun (o0 : Obj) => ((Ext.alloc w1 o0).cell (bxr.c 0 (.int .i64 0) rfl))
    have t1r_1 := fun (o0 : Obj) => ((Ext.alloc w1 o0).cell (bxr.c 1 (.slice none 0 0) rfl))
    have t1r_2 := fun (o0 : Obj) => ((Ext.alloc w1 o0).cell (bxr.c 2 (.int .i64 0) rfl))
    have t1r_3 := fun (o0 : Obj) => ((Ext.alloc w1 o0).cell (bxr.c 3 (.slice none 0 0) rfl))
    go_wp2_with fail
    clear kr_0 kr_1 kr_2 kr_3 t1r_0 t1r_1 t1r_2 t1r_3
    obtain ⟨w2, hw⟩ : ∃ z : World, z = (w1.alloc (.cells #[.int .i64 0, .slice Ad Ld cd] 34)) := ⟨_, rfl⟩
    rw [← hw]
    have x2 : Ext w1 w2 := by rw [hw]; exact (Ext.alloc _ _)
    replace bxr := bxr.ext x2
    have bxd : BK w2 (w1.heap.size) 34 #[.int .i64 0, .slice Ad Ld cd] := by rw [hw]; have h5 := (BK.new w1 #[.int .i64 0, .slice Ad Ld cd] 34); simpa only [World.size_alloc] using h5
    have szw2 : w2.heap.size = w1.heap.size + 1 := by rw [hw]; simp only [World.size_alloc]
    clear hw
    refine (small_rz (n := 1) (by omega)).mono ?_
    rintro e w3 ⟨go, Ao, co, Lo, rfl, o, x3⟩
    have szw3 : w2.heap.size ≤ w3.heap.size := x3.size
    replace bxr := bxr.ext x3
    replace bxd := bxd.ext x3
    have HO := Lib.hid o
    clear o HD HN
    have kr_0 := bxr.c 0 (.int .i64 0) rfl
    have fr_0 := bxr.f 0
    have kr_1 := bxr.c 1 (.slice none 0 0) rfl
    have fr_1 := bxr.f 1
    have kr_2 := bxr.c 2 (.int .i64 0) rfl
    have fr_2 := bxr.f 2
    have kr_3 := bxr.c 3 (.slice none 0 0) rfl
    have fr_3 := bxr.f 3
    have kd_0 := bxd.c 0 (.int .i64 0) rfl
    have kd_1 := bxd.c 1 (.slice Ad Ld cd) rfl
    go_wp2_with fail
    clear kr_0 fr_0 kr_1 fr_1 kr_2 fr_2 kr_3 fr_3 kd_0 kd_1
    have o := HO.out
    clear HO
    obtain ⟨w4, hw⟩ : ∃ z : World, z = ((((w3.setCell ⟨w.heap.size, 0, none⟩ (.int .i64 0)).setCell ⟨w.heap.size, 1, none⟩ (.slice none 0 0)).setCell ⟨w.heap.size, 2, none⟩ (.int .i64 go)).setCell ⟨w.heap.size, 3, none⟩ (.slice Ao Lo co)) := ⟨_, rfl⟩
    rw [← hw]
    have kw4 : Kept w3 w4 := by rw [hw]; exact (Kept.set_ (Kept.set_ (Kept.set_ (Kept.set_ (Kept.refl _) bxr.isBox plain_Q) (IsBox.set_ bxr.isBox) plain_Q) (IsBox.set_ (IsBox.set_ bxr.isBox)) plain_Q) (IsBox.set_ (IsBox.set_ (IsBox.set_ bxr.isBox))) plain_Q)
    have nbr : BK w4 (w.heap.size) 36 #[.int .i64 0, .slice none 0 0, .int .i64 go, .slice Ao Lo co] := by rw [hw]; exact (BK.set (i := 3) (u := .slice Ao Lo co) (vs' := #[.int .i64 0, .slice none 0 0, .int .i64 go, .slice Ao Lo co]) (BK.set (i := 2) (u := .int .i64 go) (vs' := #[.int .i64 0, .slice none 0 0, .int .i64 go, .slice none 0 0]) (BK.set (i := 1) (u := .slice none 0 0) (vs' := #[.int .i64 0, .slice none 0 0, .int .i64 0, .slice none 0 0]) (BK.set (i := 0) (u := .int .i64 0) (vs' := #[.int .i64 0, .slice none 0 0, .int .i64 0, .slice none 0 0]) bxr rfl) rfl) rfl) rfl)
    have nbd : BK w4 (w1.heap.size) 34 #[.int .i64 0, .slice Ad Ld cd] := by rw [hw]; exact (BK.far (BK.far (BK.far (BK.far bxd (show w1.heap.size ≠ w.heap.size by omega) 0 _) (show w1.heap.size ≠ w.heap.size by omega) 1 _) (show w1.heap.size ≠ w.heap.size by omega) 2 _) (show w1.heap.size ≠ w.heap.size by omega) 3 _)
    have x4 : Ext w w4 := by rw [hw]; have hxp : Ext w w3 := (by with_reducible repeat' first | exact Ext.refl _ | assumption | apply Ext.alloc_r | apply Ext.drew_r | apply Ext.drewN_r | refine Ext.trans ?_ ‹Ext _ _›); exact (Ext.set_ (Ext.set_ (Ext.set_ (Ext.set_ hxp (show _ ≤ w.heap.size by omega)) (show _ ≤ w.heap.size by omega)) (show _ ≤ w.heap.size by omega)) (show _ ≤ w.heap.size by omega))
    clear bxr
    clear bxd
    have bxr := nbr
    clear nbr
    have bxd := nbd
    clear nbd
    have szw4 : w4.heap.size = w3.heap.size := by rw [hw]; simp
    replace o := (o.ext (by with_reducible repeat' first | exact Ext.refl _ | assumption | apply Ext.alloc_r | apply Ext.drew_r | apply Ext.drewN_r | refine Ext.trans ?_ ‹Ext _ _›)).kept kw4
    clear hw kw4
    have HQ2 : Hid (QR w4 0 none 0 0 go Ao co Lo K (mkRat x 0)) := ⟨0, 1, ⟨Own.bn (n := 0) (Own.none_ _ 0 _ _), rfl, rfl⟩, o, by omega, HQ.out, hb0, by omega⟩
    clear o
    have kr_0 := bxr.c 0 (.int .i64 0) rfl
    have kr_1 := bxr.c 1 (.slice none 0 0) rfl
    have kr_2 := bxr.c 2 (.int .i64 go) rfl
    have kr_3 := bxr.c 3 (.slice Ao Lo co) rfl
    have kd_0 := bxd.c 0 (.int .i64 0) rfl
    have kd_1 := bxd.c 1 (.slice Ad Ld cd) rfl
    go_wp2_with fail
    clear kr_0 kr_1 kr_2 kr_3 kd_0 kd_1
    have kr_0 := bxr.c 0 (.int .i64 0) rfl
    have kr_1 := bxr.c 1 (.slice none 0 0) rfl
    have kr_2 := bxr.c 2 (.int .i64 go) rfl
    have kr_3 := bxr.c 3 (.slice Ao Lo co) rfl
    refine bodyPost_ret (v := .agg #[.int .i64 0, .slice none 0 0, .int .i64 go, .slice Ao Lo co]) (by simp [results, Tryz.results54, go_sem, kr_0, kr_1, kr_2, kr_3]) rfl ?_
    exact ⟨_, _, _, _, _, _, _, _, rfl, HQ2.out, x4⟩
  · have hyp : 0 < y := by omega
    go_enter Tryz.func54, Tryz.ntmps54
    go_wp2_with fail
    obtain ⟨w0, hw0⟩ : ∃ z : World, z = (w.alloc (.cells #[.int .i64 0, .slice none 0 0, .int .i64 0, .slice none 0 0] 36)) := ⟨_, rfl⟩
    rw [← hw0]
    have bxr : BK w0 (w.heap.size) 36 #[.int .i64 0, .slice none 0 0, .int .i64 0, .slice none 0 0] := by rw [hw0]; have h5 := (BK.new w #[.int .i64 0, .slice none 0 0, .int .i64 0, .slice none 0 0] 36); simpa only [World.size_alloc] using h5
    have hszw0 : w0.heap.size = w.heap.size + 1 := by rw [hw0]; simp only [World.size_alloc]
    have xw0 : Ext w w0 := by rw [hw0]; exact (Ext.alloc _ _)
    clear hw0
    refine (HD.out _ (by with_reducible repeat' first | exact Ext.refl _ | assumption | apply Ext.alloc_r | apply Ext.drew_r | apply Ext.drewN_r | refine Ext.trans ?_ ‹Ext _ _›)).mono ?_
    rintro e w1 ⟨gd, Ad, cd, Ld, rfl, d, x1⟩
    have szw1 : w0.heap.size ≤ w1.heap.size := x1.size
    replace bxr := bxr.ext x1
    obtain rfl : gd = 1 := by rw [d.sign]; exact Int.sign_eq_one_of_pos (by omega)
    have HDD := Lib.hid d
    clear d
    have kr_0 := bxr.c 0 (.int .i64 0) rfl
    have kr_1 := bxr.c 1 (.slice none 0 0) rfl
    have kr_2 := bxr.c 2 (.int .i64 0) rfl
    have kr_3 := bxr.c 3 (.slice none 0 0) rfl
    have tr_0 := fun o => (Ext.alloc w1 o).cell kr_0
    have tr_1 := fun o => (Ext.alloc w1 o).cell kr_1
    have tr_2 := fun o => (Ext.alloc w1 o).cell kr_2
    have tr_3 := fun o => (Ext.alloc w1 o).cell kr_3
    go_wp2_with fail
    clear kr_0 kr_1 kr_2 kr_3 tr_0 tr_1 tr_2 tr_3
    obtain ⟨w2, hw⟩ : ∃ z : World, z = w1.alloc (.cells #[.int .i64 1, .slice Ad Ld cd] 34) := ⟨_, rfl⟩
    rw [← hw]
    have x2 : Ext w1 w2 := by rw [hw]; exact Ext.alloc _ _
    have bxd : BK w2 w1.heap.size 34 #[.int .i64 1, .slice Ad Ld cd] := by rw [hw]; exact BK.new _ _ _
    have szw2 : w2.heap.size = w1.heap.size + 1 := by rw [hw]; simp only [World.size_alloc]
    clear hw
    replace bxr := bxr.ext x2
    have kr_0 := bxr.c 0 (.int .i64 0) rfl
    have fr_0 := bxr.f 0
    have kr_1 := bxr.c 1 (.slice none 0 0) rfl
    have fr_1 := bxr.f 1
    have kr_2 := bxr.c 2 (.int .i64 0) rfl
    have fr_2 := bxr.f 2
    have kr_3 := bxr.c 3 (.slice none 0 0) rfl
    have fr_3 := bxr.f 3
    have kd_0 := bxd.c 0 (.int .i64 1) rfl
    have kd_1 := bxd.c 1 (.slice Ad Ld cd) rfl
    go_wp2_with fail
    have HK : Hid (∀ w', Ext w2 w' → (w'.cell? ⟨w1.heap.size, 0, none⟩ = some (.int .i64 1) ∧ w'.cell? ⟨w1.heap.size, 1, none⟩ = some (.slice Ad Ld cd))) := fun w' hk => ⟨hk.cell kd_0, hk.cell kd_1⟩
    have nerd : w.heap.size ≠ w1.heap.size := by omega
    have HSr : Hid (∀ (w' : World) (i : Nat) (u : Value), (w'.cell? ⟨w1.heap.size, 0, none⟩ = some (.int .i64 1) ∧ w'.cell? ⟨w1.heap.size, 1, none⟩ = some (.slice Ad Ld cd)) → ((fun (w' : World) => (w'.cell? ⟨w1.heap.size, 0, none⟩ = some (.int .i64 1) ∧ w'.cell? ⟨w1.heap.size, 1, none⟩ = some (.slice Ad Ld cd))) (w'.setCell ⟨w.heap.size, i, none⟩ u))) := fun w' i u hs => ⟨cell_far nerd hs.1, cell_far nerd hs.2⟩
    go_region_held3 (fun w' => w'.cell? ⟨w1.heap.size, 0, none⟩ = some (.int .i64 1) ∧ w'.cell? ⟨w1.heap.size, 1, none⟩ = some (.slice Ad Ld cd))
      (((repeat (first | (with_reducible refine HSr.out _ _ _ ?_))); (with_reducible refine HK.out _ ?_; (with_reducible repeat' first | exact Ext.refl _ | assumption | apply Ext.alloc_r | apply Ext.drew_r | apply Ext.drewN_r | refine Ext.trans ?_ ‹Ext _ _›))))
      (first
        | (go_at_call 81; refine (HN.out _ (by with_reducible repeat' first | exact Ext.refl _ | assumption | apply Ext.alloc_r | apply Ext.drew_r | apply Ext.drewN_r | refine Ext.trans ?_ ‹Ext _ _›)).mono ?_; rintro e w3 ⟨gu, Au, cu, Lu, rfl, u, x3⟩; have yl : Ext w2 w3 := (by with_reducible repeat' first | exact Ext.refl _ | assumption | apply Ext.alloc_r | apply Ext.drew_r | apply Ext.drewN_r | refine Ext.trans ?_ ‹Ext _ _›); have cr_0 := (bxr.ext yl).c 0 (.int .i64 0) rfl; have gr_0 := (bxr.ext yl).f 0; have cr_1 := (bxr.ext yl).c 1 (.slice none 0 0) rfl; have gr_1 := (bxr.ext yl).f 1; have cr_2 := (bxr.ext yl).c 2 (.int .i64 0) rfl; have gr_2 := (bxr.ext yl).f 2; have cr_3 := (bxr.ext yl).c 3 (.slice none 0 0) rfl; have gr_3 := (bxr.ext yl).f 3))
    clear kr_0 fr_0 kr_1 fr_1 kr_2 fr_2 kr_3 fr_3 kd_0 kd_1
    clear HK HSr nerd
    clear cr_0 gr_0
    clear cr_1 gr_1
    clear cr_2 gr_2
    clear cr_3 gr_3
    clear yl
    have xhw3 : Ext w2 w3 := (by with_reducible repeat' first | exact Ext.refl _ | assumption | apply Ext.alloc_r | apply Ext.drew_r | apply Ext.drewN_r | refine Ext.trans ?_ ‹Ext _ _›)
    have szw3 : w2.heap.size ≤ w3.heap.size := xhw3.size
    replace bxr := bxr.ext xhw3
    replace bxd := bxd.ext xhw3
    have d := HDD.out.ext (show Ext w1 w3 from (by with_reducible repeat' first | exact Ext.refl _ | assumption | apply Ext.alloc_r | apply Ext.drew_r | apply Ext.drewN_r | refine Ext.trans ?_ ‹Ext _ _›))
    clear HDD
    obtain ⟨w4, hw⟩ : ∃ z : World, z = ((((w3.setCell ⟨w.heap.size, 0, none⟩ (.int .i64 gu)).setCell ⟨w.heap.size, 1, none⟩ (.slice Au Lu cu)).setCell ⟨w.heap.size, 2, none⟩ (.int .i64 1)).setCell ⟨w.heap.size, 3, none⟩ (.slice Ad Ld cd)) := ⟨_, rfl⟩
    rw [← hw]
    have kw4 : Kept w3 w4 := by rw [hw]; exact (Kept.set_ (Kept.set_ (Kept.set_ (Kept.set_ (Kept.refl _) bxr.isBox plain_Q) (IsBox.set_ bxr.isBox) plain_Q) (IsBox.set_ (IsBox.set_ bxr.isBox)) plain_Q) (IsBox.set_ (IsBox.set_ (IsBox.set_ bxr.isBox))) plain_Q)
    have nbr : BK w4 (w.heap.size) 36 #[.int .i64 gu, .slice Au Lu cu, .int .i64 1, .slice Ad Ld cd] := by rw [hw]; exact (BK.set (i := 3) (u := .slice Ad Ld cd) (vs' := #[.int .i64 gu, .slice Au Lu cu, .int .i64 1, .slice Ad Ld cd]) (BK.set (i := 2) (u := .int .i64 1) (vs' := #[.int .i64 gu, .slice Au Lu cu, .int .i64 1, .slice none 0 0]) (BK.set (i := 1) (u := .slice Au Lu cu) (vs' := #[.int .i64 gu, .slice Au Lu cu, .int .i64 0, .slice none 0 0]) (BK.set (i := 0) (u := .int .i64 gu) (vs' := #[.int .i64 gu, .slice none 0 0, .int .i64 0, .slice none 0 0]) bxr rfl) rfl) rfl) rfl)
    have nbd : BK w4 (w1.heap.size) 34 #[.int .i64 1, .slice Ad Ld cd] := by rw [hw]; exact (BK.far (BK.far (BK.far (BK.far bxd (show w1.heap.size ≠ w.heap.size by omega) 0 _) (show w1.heap.size ≠ w.heap.size by omega) 1 _) (show w1.heap.size ≠ w.heap.size by omega) 2 _) (show w1.heap.size ≠ w.heap.size by omega) 3 _)
    have x4 : Ext w w4 := by rw [hw]; have hxp : Ext w w3 := (by with_reducible repeat' first | exact Ext.refl _ | assumption | apply Ext.alloc_r | apply Ext.drew_r | apply Ext.drewN_r | refine Ext.trans ?_ ‹Ext _ _›); exact (Ext.set_ (Ext.set_ (Ext.set_ (Ext.set_ hxp (show _ ≤ w.heap.size by omega)) (show _ ≤ w.heap.size by omega)) (show _ ≤ w.heap.size by omega)) (show _ ≤ w.heap.size by omega))
    clear bxr
    clear bxd
    have bxr := nbr
    clear nbr
    have bxd := nbd
    clear nbd
    have szw4 : w4.heap.size = w3.heap.size := by rw [hw]; simp
    replace u := (u.ext (by with_reducible repeat' first | exact Ext.refl _ | assumption | apply Ext.alloc_r | apply Ext.drew_r | apply Ext.drewN_r | refine Ext.trans ?_ ‹Ext _ _›)).kept kw4
    replace d := (d.ext (by with_reducible repeat' first | exact Ext.refl _ | assumption | apply Ext.alloc_r | apply Ext.drew_r | apply Ext.drewN_r | refine Ext.trans ?_ ‹Ext _ _›)).kept kw4
    clear hw kw4
    have HQ2 : Hid (QR w4 gu Au cu Lu 1 Ad cd Ld K (mkRat x y)) := ⟨x, y, u, d, hyp, rfl, by omega, by omega⟩
    clear u d
    have kr_0 := bxr.c 0 (.int .i64 gu) rfl
    have kr_1 := bxr.c 1 (.slice Au Lu cu) rfl
    have kr_2 := bxr.c 2 (.int .i64 1) rfl
    have kr_3 := bxr.c 3 (.slice Ad Ld cd) rfl
    have kd_0 := bxd.c 0 (.int .i64 1) rfl
    have kd_1 := bxd.c 1 (.slice Ad Ld cd) rfl
    go_wp2_with fail
    clear kr_0 kr_1 kr_2 kr_3 kd_0 kd_1
    have kr_0 := bxr.c 0 (.int .i64 gu) rfl
    have kr_1 := bxr.c 1 (.slice Au Lu cu) rfl
    have kr_2 := bxr.c 2 (.int .i64 1) rfl
    have kr_3 := bxr.c 3 (.slice Ad Ld cd) rfl
    refine bodyPost_ret (v := .agg #[.int .i64 gu, .slice Au Lu cu, .int .i64 1, .slice Ad Ld cd]) (by simp [results, Tryz.results54, go_sem, kr_0, kr_1, kr_2, kr_3]) rfl ?_
    exact ⟨_, _, _, _, _, _, _, _, rfl, HQ2.out, x4⟩
/-- The call returns the fraction q of the reference in lowest terms. -/
def RetQC (w : World) (q : Rat) (e : Ending) (w' : World) : Prop := ∃ g A c L h B d M, e = .returned (.agg #[.int .i64 g, .slice A L c, .int .i64 h, .slice B M d]) ∧ RZ w' g A c L q.num ∧ RZ w' h B d M (q.den : Int) ∧ Ext w w'
set_option maxHeartbeats 4000000 in
set_option maxRecDepth 100000 in
theorem reduced_r {w : World} {g1 h1 : Int} {A1 B1 : Option Addr} {c1 d1 L1 M1 K1 : Nat} {q1 : Rat} (z1 : QR w g1 A1 c1 L1 h1 B1 d1 M1 K1 q1) (hs1 : K1 ≤ 1000000000) :
    Calls Tryz.prog 67 #[Value.agg #[.int .i64 g1, .slice A1 L1 c1, .int .i64 h1, .slice B1 M1 d1]] w (RetQC w q1) := by
  obtain ⟨x1, y1, a1, b1, p1, e1, m1, n1⟩ := z1.ex
  obtain ⟨G, hG⟩ : ∃ G, G = Nat.gcd x1.natAbs y1 := ⟨_, rfl⟩
  have hG0 : 0 < G := by rw [hG]; exact Nat.gcd_pos_of_pos_right _ p1
  have hGb : bl G ≤ K1 := Nat.le_trans (bl_mono (by rw [hG]; exact Nat.gcd_le_right _ p1)) n1
  have j1 : bl ((y1 : Int)).natAbs = bl y1 := by rw [Int.natAbs_natCast]
  have j2 : bl ((G : Int)).natAbs = bl G := by rw [Int.natAbs_natCast]
  have HGC : Hid (∀ w', Ext w w' → Calls Tryz.prog 92 #[Value.agg #[.int .i64 g1, .slice A1 L1 c1], Value.agg #[.int .i64 h1, .slice B1 M1 d1]] w' (RetRZ w' (G : Int))) := fun w' hx => by
    have h5 := rgcd_rz (a1.ext hx) (b1.ext hx) (by omega) (by omega)
    rw [Int.natAbs_natCast, ← hG] at h5
    exact h5
  have HQ1 : Hid (∀ w' g A c L, RZ w' g A c L (G : Int) → Ext w w' → Calls Tryz.prog 93 #[Value.agg #[.int .i64 g1, .slice A1 L1 c1], .agg #[.int .i64 g, .slice A L c]] w' (RetRR w' q1.num (x1.tmod (G : Int)))) := fun w' g A c L hz hx => by
    have h5 := rquo_rz (a1.ext hx) hz (by omega) (by omega) (by omega)
    rw [hG, ← rat_num_mk p1, ← e1, ← hG] at h5
    exact h5
  have HQ2 : Hid (∀ w' g A c L, RZ w' g A c L (G : Int) → Ext w w' → Calls Tryz.prog 93 #[Value.agg #[.int .i64 h1, .slice B1 M1 d1], .agg #[.int .i64 g, .slice A L c]] w' (RetRR w' (q1.den : Int) ((y1 : Int).tmod (G : Int)))) := fun w' g A c L hz hx => by
    have h5 := rquo_rz (b1.ext hx) hz (by omega) (by omega) (by omega)
    have h6 : (y1 : Int).tdiv (G : Int) = (q1.den : Int) := by rw [e1, rat_den_mk p1, hG]; rfl
    rw [h6] at h5
    exact h5
  clear z1 a1 b1 e1 hG hG0 hGb j1 j2
  generalize x1.tmod (G : Int) = t1 at *
  generalize (y1 : Int).tmod (G : Int) = t2 at *
  go_enter Tryz.func67, Tryz.ntmps67
  go_wp2_with fail
  obtain ⟨w0, hw0⟩ : ∃ z : World, z = ((w.alloc (.cells #[.int .i64 g1, .slice A1 L1 c1, .int .i64 h1, .slice B1 M1 d1] 36)).alloc (.cells #[.int .i64 0, .slice none 0 0, .int .i64 0, .slice none 0 0] 36)) := ⟨_, rfl⟩
  rw [← hw0]
  have bxa : BK w0 (w.heap.size) 36 #[.int .i64 g1, .slice A1 L1 c1, .int .i64 h1, .slice B1 M1 d1] := by rw [hw0]; have h5 := (BK.ext (BK.new w #[.int .i64 g1, .slice A1 L1 c1, .int .i64 h1, .slice B1 M1 d1] 36) (Ext.alloc _ (.cells #[.int .i64 0, .slice none 0 0, .int .i64 0, .slice none 0 0] 36))); simpa only [World.size_alloc] using h5
  have bxr : BK w0 (w.heap.size + 1) 36 #[.int .i64 0, .slice none 0 0, .int .i64 0, .slice none 0 0] := by rw [hw0]; have h5 := (BK.new (w.alloc (.cells #[.int .i64 g1, .slice A1 L1 c1, .int .i64 h1, .slice B1 M1 d1] 36)) #[.int .i64 0, .slice none 0 0, .int .i64 0, .slice none 0 0] 36); simpa only [World.size_alloc] using h5
  have hszw0 : w0.heap.size = w.heap.size + 1 + 1 := by rw [hw0]; simp only [World.size_alloc]
  have xw0 : Ext w w0 := by rw [hw0]; exact ((Ext.alloc _ _).trans (Ext.alloc _ _))
  clear hw0
  refine (HGC.out _ (by with_reducible repeat' first | exact Ext.refl _ | assumption | apply Ext.alloc_r | apply Ext.drew_r | apply Ext.drewN_r | refine Ext.trans ?_ ‹Ext _ _›)).mono ?_
  rintro e w1 ⟨gi, Ai, ci, Li, rfl, i, x1⟩
  have szw1 : w0.heap.size ≤ w1.heap.size := x1.size
  replace bxa := bxa.ext x1
  replace bxr := bxr.ext x1
  have HI := Lib.hid i
  clear i
  have ka_0 := bxa.c 0 (.int .i64 g1) rfl
  have ka_1 := bxa.c 1 (.slice A1 L1 c1) rfl
  have ka_2 := bxa.c 2 (.int .i64 h1) rfl
  have ka_3 := bxa.c 3 (.slice B1 M1 d1) rfl
  have kr_0 := bxr.c 0 (.int .i64 0) rfl
  have kr_1 := bxr.c 1 (.slice none 0 0) rfl
  have kr_2 := bxr.c 2 (.int .i64 0) rfl
  have kr_3 := bxr.c 3 (.slice none 0 0) rfl
  have t1a_0 := fun (o0 : Obj) => ((Ext.alloc w1 o0).cell (bxa.c 0 (.int .i64 g1) rfl))
  have t1a_1 := fun (o0 : Obj) => ((Ext.alloc w1 o0).cell (bxa.c 1 (.slice A1 L1 c1) rfl))
  have t1a_2 := fun (o0 : Obj) => ((Ext.alloc w1 o0).cell (bxa.c 2 (.int .i64 h1) rfl))
  have t1a_3 := fun (o0 : Obj) => ((Ext.alloc w1 o0).cell (bxa.c 3 (.slice B1 M1 d1) rfl))
  have t1r_0 := fun (o0 : Obj) => ((Ext.alloc w1 o0).cell (bxr.c 0 (.int .i64 0) rfl))
  have t1r_1 := fun (o0 : Obj) => ((Ext.alloc w1 o0).cell (bxr.c 1 (.slice none 0 0) rfl))
  have t1r_2 := fun (o0 : Obj) => ((Ext.alloc w1 o0).cell (bxr.c 2 (.int .i64 0) rfl))
  have t1r_3 := fun (o0 : Obj) => ((Ext.alloc w1 o0).cell (bxr.c 3 (.slice none 0 0) rfl))
  go_wp2_with fail
  clear ka_0 ka_1 ka_2 ka_3 kr_0 kr_1 kr_2 kr_3 t1a_0 t1a_1 t1a_2 t1a_3 t1r_0 t1r_1 t1r_2 t1r_3
  obtain ⟨w2, hw⟩ : ∃ z : World, z = (w1.alloc (.cells #[.int .i64 gi, .slice Ai Li ci] 34)) := ⟨_, rfl⟩
  rw [← hw]
  have x2 : Ext w1 w2 := by rw [hw]; exact (Ext.alloc _ _)
  replace bxa := bxa.ext x2
  replace bxr := bxr.ext x2
  have bxg : BK w2 (w1.heap.size) 34 #[.int .i64 gi, .slice Ai Li ci] := by rw [hw]; have h5 := (BK.new w1 #[.int .i64 gi, .slice Ai Li ci] 34); simpa only [World.size_alloc] using h5
  have szw2 : w2.heap.size = w1.heap.size + 1 := by rw [hw]; simp only [World.size_alloc]
  clear hw
  refine (HQ1.out _ _ _ _ _ (HI.out.ext (by with_reducible repeat' first | exact Ext.refl _ | assumption | apply Ext.alloc_r | apply Ext.drew_r | apply Ext.drewN_r | refine Ext.trans ?_ ‹Ext _ _›)) (by with_reducible repeat' first | exact Ext.refl _ | assumption | apply Ext.alloc_r | apply Ext.drew_r | apply Ext.drewN_r | refine Ext.trans ?_ ‹Ext _ _›)).mono ?_
  rintro e w3 ⟨gaj, Aaj, caj, Laj, gbj, Abj, cbj, Lbj, rfl, ja, jb, x3⟩
  have szw3 : w2.heap.size ≤ w3.heap.size := x3.size
  replace bxa := bxa.ext x3
  replace bxr := bxr.ext x3
  replace bxg := bxg.ext x3
  have HJ := Lib.hid ja
  clear ja jb
  have ka_0 := bxa.c 0 (.int .i64 g1) rfl
  have ka_1 := bxa.c 1 (.slice A1 L1 c1) rfl
  have ka_2 := bxa.c 2 (.int .i64 h1) rfl
  have ka_3 := bxa.c 3 (.slice B1 M1 d1) rfl
  have kr_0 := bxr.c 0 (.int .i64 0) rfl
  have kr_1 := bxr.c 1 (.slice none 0 0) rfl
  have kr_2 := bxr.c 2 (.int .i64 0) rfl
  have kr_3 := bxr.c 3 (.slice none 0 0) rfl
  have kg_0 := bxg.c 0 (.int .i64 gi) rfl
  have kg_1 := bxg.c 1 (.slice Ai Li ci) rfl
  have t1a_0 := fun (o0 : Obj) => ((Ext.alloc w3 o0).cell (bxa.c 0 (.int .i64 g1) rfl))
  have t2a_0 := fun (o0 : Obj) (o1 : Obj) => ((Ext.alloc (w3.alloc o0) o1).cell ((Ext.alloc w3 o0).cell (bxa.c 0 (.int .i64 g1) rfl)))
  have t1a_1 := fun (o0 : Obj) => ((Ext.alloc w3 o0).cell (bxa.c 1 (.slice A1 L1 c1) rfl))
  have t2a_1 := fun (o0 : Obj) (o1 : Obj) => ((Ext.alloc (w3.alloc o0) o1).cell ((Ext.alloc w3 o0).cell (bxa.c 1 (.slice A1 L1 c1) rfl)))
  have t1a_2 := fun (o0 : Obj) => ((Ext.alloc w3 o0).cell (bxa.c 2 (.int .i64 h1) rfl))
  have t2a_2 := fun (o0 : Obj) (o1 : Obj) => ((Ext.alloc (w3.alloc o0) o1).cell ((Ext.alloc w3 o0).cell (bxa.c 2 (.int .i64 h1) rfl)))
  have t1a_3 := fun (o0 : Obj) => ((Ext.alloc w3 o0).cell (bxa.c 3 (.slice B1 M1 d1) rfl))
  have t2a_3 := fun (o0 : Obj) (o1 : Obj) => ((Ext.alloc (w3.alloc o0) o1).cell ((Ext.alloc w3 o0).cell (bxa.c 3 (.slice B1 M1 d1) rfl)))
  have t1r_0 := fun (o0 : Obj) => ((Ext.alloc w3 o0).cell (bxr.c 0 (.int .i64 0) rfl))
  have t2r_0 := fun (o0 : Obj) (o1 : Obj) => ((Ext.alloc (w3.alloc o0) o1).cell ((Ext.alloc w3 o0).cell (bxr.c 0 (.int .i64 0) rfl)))
  have t1r_1 := fun (o0 : Obj) => ((Ext.alloc w3 o0).cell (bxr.c 1 (.slice none 0 0) rfl))
  have t2r_1 := fun (o0 : Obj) (o1 : Obj) => ((Ext.alloc (w3.alloc o0) o1).cell ((Ext.alloc w3 o0).cell (bxr.c 1 (.slice none 0 0) rfl)))
  have t1r_2 := fun (o0 : Obj) => ((Ext.alloc w3 o0).cell (bxr.c 2 (.int .i64 0) rfl))
  have t2r_2 := fun (o0 : Obj) (o1 : Obj) => ((Ext.alloc (w3.alloc o0) o1).cell ((Ext.alloc w3 o0).cell (bxr.c 2 (.int .i64 0) rfl)))
  have t1r_3 := fun (o0 : Obj) => ((Ext.alloc w3 o0).cell (bxr.c 3 (.slice none 0 0) rfl))
  have t2r_3 := fun (o0 : Obj) (o1 : Obj) => ((Ext.alloc (w3.alloc o0) o1).cell ((Ext.alloc w3 o0).cell (bxr.c 3 (.slice none 0 0) rfl)))
  have t1g_0 := fun (o0 : Obj) => ((Ext.alloc w3 o0).cell (bxg.c 0 (.int .i64 gi) rfl))
  have t2g_0 := fun (o0 : Obj) (o1 : Obj) => ((Ext.alloc (w3.alloc o0) o1).cell ((Ext.alloc w3 o0).cell (bxg.c 0 (.int .i64 gi) rfl)))
  have t1g_1 := fun (o0 : Obj) => ((Ext.alloc w3 o0).cell (bxg.c 1 (.slice Ai Li ci) rfl))
  have t2g_1 := fun (o0 : Obj) (o1 : Obj) => ((Ext.alloc (w3.alloc o0) o1).cell ((Ext.alloc w3 o0).cell (bxg.c 1 (.slice Ai Li ci) rfl)))
  go_wp2_with fail
  clear ka_0 ka_1 ka_2 ka_3 kr_0 kr_1 kr_2 kr_3 kg_0 kg_1 t1a_0 t2a_0 t1a_1 t2a_1 t1a_2 t2a_2 t1a_3 t2a_3 t1r_0 t2r_0 t1r_1 t2r_1 t1r_2 t2r_2 t1r_3 t2r_3 t1g_0 t2g_0 t1g_1 t2g_1
  obtain ⟨w4, hw⟩ : ∃ z : World, z = ((w3.alloc (.cells #[.int .i64 gaj, .slice Aaj Laj caj] 34)).alloc (.cells #[.int .i64 gbj, .slice Abj Lbj cbj] 34)) := ⟨_, rfl⟩
  rw [← hw]
  have x4 : Ext w3 w4 := by rw [hw]; exact ((Ext.alloc _ _).trans (Ext.alloc _ _))
  replace bxa := bxa.ext x4
  replace bxr := bxr.ext x4
  replace bxg := bxg.ext x4
  have bxn : BK w4 (w3.heap.size) 34 #[.int .i64 gaj, .slice Aaj Laj caj] := by rw [hw]; have h5 := (BK.ext (BK.new w3 #[.int .i64 gaj, .slice Aaj Laj caj] 34) (Ext.alloc _ (.cells #[.int .i64 gbj, .slice Abj Lbj cbj] 34))); simpa only [World.size_alloc] using h5
  have bxo : BK w4 (w3.heap.size + 1) 34 #[.int .i64 gbj, .slice Abj Lbj cbj] := by rw [hw]; have h5 := (BK.new (w3.alloc (.cells #[.int .i64 gaj, .slice Aaj Laj caj] 34)) #[.int .i64 gbj, .slice Abj Lbj cbj] 34); simpa only [World.size_alloc] using h5
  have szw4 : w4.heap.size = w3.heap.size + 1 + 1 := by rw [hw]; simp only [World.size_alloc]
  clear hw
  refine (HQ2.out _ _ _ _ _ (HI.out.ext (by with_reducible repeat' first | exact Ext.refl _ | assumption | apply Ext.alloc_r | apply Ext.drew_r | apply Ext.drewN_r | refine Ext.trans ?_ ‹Ext _ _›)) (by with_reducible repeat' first | exact Ext.refl _ | assumption | apply Ext.alloc_r | apply Ext.drew_r | apply Ext.drewN_r | refine Ext.trans ?_ ‹Ext _ _›)).mono ?_
  rintro e w5 ⟨gak, Aak, cak, Lak, gbk, Abk, cbk, Lbk, rfl, ka, kb, x5⟩
  have szw5 : w4.heap.size ≤ w5.heap.size := x5.size
  replace bxa := bxa.ext x5
  replace bxr := bxr.ext x5
  replace bxg := bxg.ext x5
  replace bxn := bxn.ext x5
  replace bxo := bxo.ext x5
  have HK := Lib.hid ka
  clear ka kb
  have ka_0 := bxa.c 0 (.int .i64 g1) rfl
  have ka_1 := bxa.c 1 (.slice A1 L1 c1) rfl
  have ka_2 := bxa.c 2 (.int .i64 h1) rfl
  have ka_3 := bxa.c 3 (.slice B1 M1 d1) rfl
  have kr_0 := bxr.c 0 (.int .i64 0) rfl
  have fr_0 := bxr.f 0
  have kr_1 := bxr.c 1 (.slice none 0 0) rfl
  have fr_1 := bxr.f 1
  have kr_2 := bxr.c 2 (.int .i64 0) rfl
  have fr_2 := bxr.f 2
  have kr_3 := bxr.c 3 (.slice none 0 0) rfl
  have fr_3 := bxr.f 3
  have kg_0 := bxg.c 0 (.int .i64 gi) rfl
  have kg_1 := bxg.c 1 (.slice Ai Li ci) rfl
  have kn_0 := bxn.c 0 (.int .i64 gaj) rfl
  have kn_1 := bxn.c 1 (.slice Aaj Laj caj) rfl
  have ko_0 := bxo.c 0 (.int .i64 gbj) rfl
  have ko_1 := bxo.c 1 (.slice Abj Lbj cbj) rfl
  have t1a_0 := fun (o0 : Obj) => ((Ext.alloc w5 o0).cell (bxa.c 0 (.int .i64 g1) rfl))
  have t2a_0 := fun (o0 : Obj) (o1 : Obj) => ((Ext.alloc (w5.alloc o0) o1).cell ((Ext.alloc w5 o0).cell (bxa.c 0 (.int .i64 g1) rfl)))
  have t1a_1 := fun (o0 : Obj) => ((Ext.alloc w5 o0).cell (bxa.c 1 (.slice A1 L1 c1) rfl))
  have t2a_1 := fun (o0 : Obj) (o1 : Obj) => ((Ext.alloc (w5.alloc o0) o1).cell ((Ext.alloc w5 o0).cell (bxa.c 1 (.slice A1 L1 c1) rfl)))
  have t1a_2 := fun (o0 : Obj) => ((Ext.alloc w5 o0).cell (bxa.c 2 (.int .i64 h1) rfl))
  have t2a_2 := fun (o0 : Obj) (o1 : Obj) => ((Ext.alloc (w5.alloc o0) o1).cell ((Ext.alloc w5 o0).cell (bxa.c 2 (.int .i64 h1) rfl)))
  have t1a_3 := fun (o0 : Obj) => ((Ext.alloc w5 o0).cell (bxa.c 3 (.slice B1 M1 d1) rfl))
  have t2a_3 := fun (o0 : Obj) (o1 : Obj) => ((Ext.alloc (w5.alloc o0) o1).cell ((Ext.alloc w5 o0).cell (bxa.c 3 (.slice B1 M1 d1) rfl)))
  have t1r_0 := fun (o0 : Obj) => ((Ext.alloc w5 o0).cell (bxr.c 0 (.int .i64 0) rfl))
  have z1r_0 := fun (o0 : Obj) => (Ext.frozen (Ext.alloc w5 o0) (bxr.c 0 (.int .i64 0) rfl) (bxr.f 0))
  have t2r_0 := fun (o0 : Obj) (o1 : Obj) => ((Ext.alloc (w5.alloc o0) o1).cell ((Ext.alloc w5 o0).cell (bxr.c 0 (.int .i64 0) rfl)))
  have z2r_0 := fun (o0 : Obj) (o1 : Obj) => (Ext.frozen (Ext.alloc (w5.alloc o0) o1) ((Ext.alloc w5 o0).cell (bxr.c 0 (.int .i64 0) rfl)) (Ext.frozen (Ext.alloc w5 o0) (bxr.c 0 (.int .i64 0) rfl) (bxr.f 0)))
  have t1r_1 := fun (o0 : Obj) => ((Ext.alloc w5 o0).cell (bxr.c 1 (.slice none 0 0) rfl))
  have z1r_1 := fun (o0 : Obj) => (Ext.frozen (Ext.alloc w5 o0) (bxr.c 1 (.slice none 0 0) rfl) (bxr.f 1))
  have t2r_1 := fun (o0 : Obj) (o1 : Obj) => ((Ext.alloc (w5.alloc o0) o1).cell ((Ext.alloc w5 o0).cell (bxr.c 1 (.slice none 0 0) rfl)))
  have z2r_1 := fun (o0 : Obj) (o1 : Obj) => (Ext.frozen (Ext.alloc (w5.alloc o0) o1) ((Ext.alloc w5 o0).cell (bxr.c 1 (.slice none 0 0) rfl)) (Ext.frozen (Ext.alloc w5 o0) (bxr.c 1 (.slice none 0 0) rfl) (bxr.f 1)))
  have t1r_2 := fun (o0 : Obj) => ((Ext.alloc w5 o0).cell (bxr.c 2 (.int .i64 0) rfl))
  have z1r_2 := fun (o0 : Obj) => (Ext.frozen (Ext.alloc w5 o0) (bxr.c 2 (.int .i64 0) rfl) (bxr.f 2))
  have t2r_2 := fun (o0 : Obj) (o1 : Obj) => ((Ext.alloc (w5.alloc o0) o1).cell ((Ext.alloc w5 o0).cell (bxr.c 2 (.int .i64 0) rfl)))
  have z2r_2 := fun (o0 : Obj) (o1 : Obj) => (Ext.frozen (Ext.alloc (w5.alloc o0) o1) ((Ext.alloc w5 o0).cell (bxr.c 2 (.int .i64 0) rfl)) (Ext.frozen (Ext.alloc w5 o0) (bxr.c 2 (.int .i64 0) rfl) (bxr.f 2)))
  have t1r_3 := fun (o0 : Obj) => ((Ext.alloc w5 o0).cell (bxr.c 3 (.slice none 0 0) rfl))
  have z1r_3 := fun (o0 : Obj) => (Ext.frozen (Ext.alloc w5 o0) (bxr.c 3 (.slice none 0 0) rfl) (bxr.f 3))
  have t2r_3 := fun (o0 : Obj) (o1 : Obj) => ((Ext.alloc (w5.alloc o0) o1).cell ((Ext.alloc w5 o0).cell (bxr.c 3 (.slice none 0 0) rfl)))
  have z2r_3 := fun (o0 : Obj) (o1 : Obj) => (Ext.frozen (Ext.alloc (w5.alloc o0) o1) ((Ext.alloc w5 o0).cell (bxr.c 3 (.slice none 0 0) rfl)) (Ext.frozen (Ext.alloc w5 o0) (bxr.c 3 (.slice none 0 0) rfl) (bxr.f 3)))
  have t1g_0 := fun (o0 : Obj) => ((Ext.alloc w5 o0).cell (bxg.c 0 (.int .i64 gi) rfl))
  have t2g_0 := fun (o0 : Obj) (o1 : Obj) => ((Ext.alloc (w5.alloc o0) o1).cell ((Ext.alloc w5 o0).cell (bxg.c 0 (.int .i64 gi) rfl)))
  have t1g_1 := fun (o0 : Obj) => ((Ext.alloc w5 o0).cell (bxg.c 1 (.slice Ai Li ci) rfl))
  have t2g_1 := fun (o0 : Obj) (o1 : Obj) => ((Ext.alloc (w5.alloc o0) o1).cell ((Ext.alloc w5 o0).cell (bxg.c 1 (.slice Ai Li ci) rfl)))
  have t1n_0 := fun (o0 : Obj) => ((Ext.alloc w5 o0).cell (bxn.c 0 (.int .i64 gaj) rfl))
  have t2n_0 := fun (o0 : Obj) (o1 : Obj) => ((Ext.alloc (w5.alloc o0) o1).cell ((Ext.alloc w5 o0).cell (bxn.c 0 (.int .i64 gaj) rfl)))
  have t1n_1 := fun (o0 : Obj) => ((Ext.alloc w5 o0).cell (bxn.c 1 (.slice Aaj Laj caj) rfl))
  have t2n_1 := fun (o0 : Obj) (o1 : Obj) => ((Ext.alloc (w5.alloc o0) o1).cell ((Ext.alloc w5 o0).cell (bxn.c 1 (.slice Aaj Laj caj) rfl)))
  have t1o_0 := fun (o0 : Obj) => ((Ext.alloc w5 o0).cell (bxo.c 0 (.int .i64 gbj) rfl))
  have t2o_0 := fun (o0 : Obj) (o1 : Obj) => ((Ext.alloc (w5.alloc o0) o1).cell ((Ext.alloc w5 o0).cell (bxo.c 0 (.int .i64 gbj) rfl)))
  have t1o_1 := fun (o0 : Obj) => ((Ext.alloc w5 o0).cell (bxo.c 1 (.slice Abj Lbj cbj) rfl))
  have t2o_1 := fun (o0 : Obj) (o1 : Obj) => ((Ext.alloc (w5.alloc o0) o1).cell ((Ext.alloc w5 o0).cell (bxo.c 1 (.slice Abj Lbj cbj) rfl)))
  go_wp2_with fail
  clear ka_0 ka_1 ka_2 ka_3 kr_0 fr_0 kr_1 fr_1 kr_2 fr_2 kr_3 fr_3 kg_0 kg_1 kn_0 kn_1 ko_0 ko_1 t1a_0 t2a_0 t1a_1 t2a_1 t1a_2 t2a_2 t1a_3 t2a_3 t1r_0 z1r_0 t2r_0 z2r_0 t1r_1 z1r_1 t2r_1 z2r_1 t1r_2 z1r_2 t2r_2 z2r_2 t1r_3 z1r_3 t2r_3 z2r_3 t1g_0 t2g_0 t1g_1 t2g_1 t1n_0 t2n_0 t1n_1 t2n_1 t1o_0 t2o_0 t1o_1 t2o_1
  obtain ⟨w6, hw⟩ : ∃ z : World, z = ((w5.alloc (.cells #[.int .i64 gak, .slice Aak Lak cak] 34)).alloc (.cells #[.int .i64 gbk, .slice Abk Lbk cbk] 34)) := ⟨_, rfl⟩
  rw [← hw]
  have x6 : Ext w5 w6 := by rw [hw]; exact ((Ext.alloc _ _).trans (Ext.alloc _ _))
  replace bxa := bxa.ext x6
  replace bxr := bxr.ext x6
  replace bxg := bxg.ext x6
  replace bxn := bxn.ext x6
  replace bxo := bxo.ext x6
  have bxm : BK w6 (w5.heap.size) 34 #[.int .i64 gak, .slice Aak Lak cak] := by rw [hw]; have h5 := (BK.ext (BK.new w5 #[.int .i64 gak, .slice Aak Lak cak] 34) (Ext.alloc _ (.cells #[.int .i64 gbk, .slice Abk Lbk cbk] 34))); simpa only [World.size_alloc] using h5
  have bxp : BK w6 (w5.heap.size + 1) 34 #[.int .i64 gbk, .slice Abk Lbk cbk] := by rw [hw]; have h5 := (BK.new (w5.alloc (.cells #[.int .i64 gak, .slice Aak Lak cak] 34)) #[.int .i64 gbk, .slice Abk Lbk cbk] 34); simpa only [World.size_alloc] using h5
  have szw6 : w6.heap.size = w5.heap.size + 1 + 1 := by rw [hw]; simp only [World.size_alloc]
  clear hw
  have ja := HJ.out.ext (show Ext w3 w6 from (by with_reducible repeat' first | exact Ext.refl _ | assumption | apply Ext.alloc_r | apply Ext.drew_r | apply Ext.drewN_r | refine Ext.trans ?_ ‹Ext _ _›))
  have ka := HK.out.ext (show Ext w5 w6 from (by with_reducible repeat' first | exact Ext.refl _ | assumption | apply Ext.alloc_r | apply Ext.drew_r | apply Ext.drewN_r | refine Ext.trans ?_ ‹Ext _ _›))
  clear HJ HK HI HGC HQ1 HQ2
  obtain ⟨w7, hw⟩ : ∃ z : World, z = ((((w6.setCell ⟨w.heap.size + 1, 0, none⟩ (.int .i64 gaj)).setCell ⟨w.heap.size + 1, 1, none⟩ (.slice Aaj Laj caj)).setCell ⟨w.heap.size + 1, 2, none⟩ (.int .i64 gak)).setCell ⟨w.heap.size + 1, 3, none⟩ (.slice Aak Lak cak)) := ⟨_, rfl⟩
  rw [← hw]
  have kw7 : Kept w6 w7 := by rw [hw]; exact (Kept.set_ (Kept.set_ (Kept.set_ (Kept.set_ (Kept.refl _) bxr.isBox plain_Q) (IsBox.set_ bxr.isBox) plain_Q) (IsBox.set_ (IsBox.set_ bxr.isBox)) plain_Q) (IsBox.set_ (IsBox.set_ (IsBox.set_ bxr.isBox))) plain_Q)
  have nba : BK w7 (w.heap.size) 36 #[.int .i64 g1, .slice A1 L1 c1, .int .i64 h1, .slice B1 M1 d1] := by rw [hw]; exact (BK.far (BK.far (BK.far (BK.far bxa (show w.heap.size ≠ w.heap.size + 1 by omega) 0 _) (show w.heap.size ≠ w.heap.size + 1 by omega) 1 _) (show w.heap.size ≠ w.heap.size + 1 by omega) 2 _) (show w.heap.size ≠ w.heap.size + 1 by omega) 3 _)
  have nbr : BK w7 (w.heap.size + 1) 36 #[.int .i64 gaj, .slice Aaj Laj caj, .int .i64 gak, .slice Aak Lak cak] := by rw [hw]; exact (BK.set (i := 3) (u := .slice Aak Lak cak) (vs' := #[.int .i64 gaj, .slice Aaj Laj caj, .int .i64 gak, .slice Aak Lak cak]) (BK.set (i := 2) (u := .int .i64 gak) (vs' := #[.int .i64 gaj, .slice Aaj Laj caj, .int .i64 gak, .slice none 0 0]) (BK.set (i := 1) (u := .slice Aaj Laj caj) (vs' := #[.int .i64 gaj, .slice Aaj Laj caj, .int .i64 0, .slice none 0 0]) (BK.set (i := 0) (u := .int .i64 gaj) (vs' := #[.int .i64 gaj, .slice none 0 0, .int .i64 0, .slice none 0 0]) bxr rfl) rfl) rfl) rfl)
  have nbg : BK w7 (w1.heap.size) 34 #[.int .i64 gi, .slice Ai Li ci] := by rw [hw]; exact (BK.far (BK.far (BK.far (BK.far bxg (show w1.heap.size ≠ w.heap.size + 1 by omega) 0 _) (show w1.heap.size ≠ w.heap.size + 1 by omega) 1 _) (show w1.heap.size ≠ w.heap.size + 1 by omega) 2 _) (show w1.heap.size ≠ w.heap.size + 1 by omega) 3 _)
  have nbn : BK w7 (w3.heap.size) 34 #[.int .i64 gaj, .slice Aaj Laj caj] := by rw [hw]; exact (BK.far (BK.far (BK.far (BK.far bxn (show w3.heap.size ≠ w.heap.size + 1 by omega) 0 _) (show w3.heap.size ≠ w.heap.size + 1 by omega) 1 _) (show w3.heap.size ≠ w.heap.size + 1 by omega) 2 _) (show w3.heap.size ≠ w.heap.size + 1 by omega) 3 _)
  have nbo : BK w7 (w3.heap.size + 1) 34 #[.int .i64 gbj, .slice Abj Lbj cbj] := by rw [hw]; exact (BK.far (BK.far (BK.far (BK.far bxo (show w3.heap.size + 1 ≠ w.heap.size + 1 by omega) 0 _) (show w3.heap.size + 1 ≠ w.heap.size + 1 by omega) 1 _) (show w3.heap.size + 1 ≠ w.heap.size + 1 by omega) 2 _) (show w3.heap.size + 1 ≠ w.heap.size + 1 by omega) 3 _)
  have nbm : BK w7 (w5.heap.size) 34 #[.int .i64 gak, .slice Aak Lak cak] := by rw [hw]; exact (BK.far (BK.far (BK.far (BK.far bxm (show w5.heap.size ≠ w.heap.size + 1 by omega) 0 _) (show w5.heap.size ≠ w.heap.size + 1 by omega) 1 _) (show w5.heap.size ≠ w.heap.size + 1 by omega) 2 _) (show w5.heap.size ≠ w.heap.size + 1 by omega) 3 _)
  have nbp : BK w7 (w5.heap.size + 1) 34 #[.int .i64 gbk, .slice Abk Lbk cbk] := by rw [hw]; exact (BK.far (BK.far (BK.far (BK.far bxp (show w5.heap.size + 1 ≠ w.heap.size + 1 by omega) 0 _) (show w5.heap.size + 1 ≠ w.heap.size + 1 by omega) 1 _) (show w5.heap.size + 1 ≠ w.heap.size + 1 by omega) 2 _) (show w5.heap.size + 1 ≠ w.heap.size + 1 by omega) 3 _)
  have x7 : Ext w w7 := by rw [hw]; have hxp : Ext w w6 := (by with_reducible repeat' first | exact Ext.refl _ | assumption | apply Ext.alloc_r | apply Ext.drew_r | apply Ext.drewN_r | refine Ext.trans ?_ ‹Ext _ _›); exact (Ext.set_ (Ext.set_ (Ext.set_ (Ext.set_ hxp (show _ ≤ w.heap.size + 1 by omega)) (show _ ≤ w.heap.size + 1 by omega)) (show _ ≤ w.heap.size + 1 by omega)) (show _ ≤ w.heap.size + 1 by omega))
  clear bxa
  clear bxr
  clear bxg
  clear bxn
  clear bxo
  clear bxm
  clear bxp
  have bxa := nba
  clear nba
  have bxr := nbr
  clear nbr
  have bxg := nbg
  clear nbg
  have bxn := nbn
  clear nbn
  have bxo := nbo
  clear nbo
  have bxm := nbm
  clear nbm
  have bxp := nbp
  clear nbp
  have szw7 : w7.heap.size = w6.heap.size := by rw [hw]; simp
  replace ja := (ja.ext (by with_reducible repeat' first | exact Ext.refl _ | assumption | apply Ext.alloc_r | apply Ext.drew_r | apply Ext.drewN_r | refine Ext.trans ?_ ‹Ext _ _›)).kept kw7
  replace ka := (ka.ext (by with_reducible repeat' first | exact Ext.refl _ | assumption | apply Ext.alloc_r | apply Ext.drew_r | apply Ext.drewN_r | refine Ext.trans ?_ ‹Ext _ _›)).kept kw7
  clear hw kw7
  have H1 := Lib.hid ja
  have H2 := Lib.hid ka
  clear ja ka
  have kr_0 := bxr.c 0 (.int .i64 gaj) rfl
  have kr_1 := bxr.c 1 (.slice Aaj Laj caj) rfl
  have kr_2 := bxr.c 2 (.int .i64 gak) rfl
  have kr_3 := bxr.c 3 (.slice Aak Lak cak) rfl
  refine bodyPost_ret (v := .agg #[.int .i64 gaj, .slice Aaj Laj caj, .int .i64 gak, .slice Aak Lak cak]) (by simp [results, Tryz.results67, go_sem, kr_0, kr_1, kr_2, kr_3]) rfl ?_
  exact ⟨_, _, _, _, _, _, _, _, rfl, H1.out, H2.out, x7⟩
set_option maxHeartbeats 4000000 in
set_option maxRecDepth 100000 in
theorem qis_r {w : World} {s : Bool} {A B : Option Addr} {c L d M N g : Nat} {q : Rat} {g1 h1 : Int} {A1 B1 : Option Addr} {c1 d1 L1 M1 K1 : Nat} {q1 : Rat} (h : RO w g s A c L B d M N q) (z1 : QR w g1 A1 c1 L1 h1 B1 d1 M1 K1 q1) (hq : q1 = q) (hs1 : K1 ≤ 1000000000) :
    Calls Tryz.prog 37 #[.bool s, .slice A L c, .slice B M d, Value.agg #[.int .i64 g1, .slice A1 L1 c1, .int .i64 h1, .slice B1 M1 d1]] w fun e w' => e = .returned (.bool true) ∧ Ext w w' := by
  subst hq
  have hk : bl q1.num.natAbs ≤ 8796093022208 ∧ bl q1.den ≤ 8796093022208 := by
    obtain ⟨x1, y1, a1, b1, p1, e1, m1, n1⟩ := z1.ex
    have h1 := bl_mono (rat_num_le (x := x1) p1)
    have h2 := bl_mono (rat_den_le (x := x1) p1)
    rw [e1]
    omega
  have HR : Hid (∀ w', Ext w w' → Calls Tryz.prog 67 #[Value.agg #[.int .i64 g1, .slice A1 L1 c1, .int .i64 h1, .slice B1 M1 d1]] w' (RetQC w' q1)) := fun w' hx => reduced_r (z1.ext hx) hs1
  have H1 : Hid (∀ w' g A2 c2 L2, Ext w w' → RZ w' g A2 c2 L2 q1.num → Calls Tryz.prog 68 #[.bool s, .slice A L c, .agg #[.int .i64 g, .slice A2 L2 c2]] w' fun e w'' => e = .returned (.bool true) ∧ Ext w' w'') := fun w' g A2 c2 L2 hx hz => is_rz (h.num.ext hx) hz hk.1
  have H2 : Hid (∀ w' g A2 c2 L2, Ext w w' → RZ w' g A2 c2 L2 (q1.den : Int) → Calls Tryz.prog 68 #[.bool false, .slice B M d, .agg #[.int .i64 g, .slice A2 L2 c2]] w' fun e w'' => e = .returned (.bool true) ∧ Ext w' w'') := fun w' g A2 c2 L2 hx hz => is_rz ⟨by rw [Int.natAbs_natCast]; exact h.den.ext hx, by simp, by rw [h.len, Int.natAbs_natCast]⟩ hz (by rw [Int.natAbs_natCast]; exact hk.2)
  clear h z1 hk
  go_enter Tryz.func37, Tryz.ntmps37
  go_wp2_with fail
  obtain ⟨w0, hw0⟩ : ∃ z : World, z = (w.alloc (.cells #[.int .i64 g1, .slice A1 L1 c1, .int .i64 h1, .slice B1 M1 d1] 36)) := ⟨_, rfl⟩
  rw [← hw0]
  have bxa : BK w0 (w.heap.size) 36 #[.int .i64 g1, .slice A1 L1 c1, .int .i64 h1, .slice B1 M1 d1] := by rw [hw0]; have h5 := (BK.new w #[.int .i64 g1, .slice A1 L1 c1, .int .i64 h1, .slice B1 M1 d1] 36); simpa only [World.size_alloc] using h5
  have hszw0 : w0.heap.size = w.heap.size + 1 := by rw [hw0]; simp only [World.size_alloc]
  have xw0 : Ext w w0 := by rw [hw0]; exact (Ext.alloc _ _)
  clear hw0
  refine (HR.out _ (by with_reducible repeat' first | exact Ext.refl _ | assumption | apply Ext.alloc_r | apply Ext.drew_r | apply Ext.drewN_r | refine Ext.trans ?_ ‹Ext _ _›)).mono ?_
  rintro e w1 ⟨gr, Ar, cr, Lr, hr, Br, dr, Mr, rfl, r1, r2, x1⟩
  replace bxa := bxa.ext x1
  have szw1 : w0.heap.size ≤ w1.heap.size := x1.size
  have R1 := Lib.hid r1
  have R2 := Lib.hid r2
  clear r1 r2 HR
  have ka_0 := bxa.c 0 (.int .i64 g1) rfl
  have ka_1 := bxa.c 1 (.slice A1 L1 c1) rfl
  have ka_2 := bxa.c 2 (.int .i64 h1) rfl
  have ka_3 := bxa.c 3 (.slice B1 M1 d1) rfl
  have t1a_0 := fun (o0 : Obj) => ((Ext.alloc w1 o0).cell (bxa.c 0 (.int .i64 g1) rfl))
  have t1a_1 := fun (o0 : Obj) => ((Ext.alloc w1 o0).cell (bxa.c 1 (.slice A1 L1 c1) rfl))
  have t1a_2 := fun (o0 : Obj) => ((Ext.alloc w1 o0).cell (bxa.c 2 (.int .i64 h1) rfl))
  have t1a_3 := fun (o0 : Obj) => ((Ext.alloc w1 o0).cell (bxa.c 3 (.slice B1 M1 d1) rfl))
  go_wp2_with fail
  clear ka_0 ka_1 ka_2 ka_3 t1a_0 t1a_1 t1a_2 t1a_3
  obtain ⟨w2, hw⟩ : ∃ z : World, z = (w1.alloc (.cells #[.int .i64 gr, .slice Ar Lr cr, .int .i64 hr, .slice Br Mr dr] 36)) := ⟨_, rfl⟩
  rw [← hw]
  have x2 : Ext w1 w2 := by rw [hw]; exact (Ext.alloc _ _)
  replace bxa := bxa.ext x2
  have bxb : BK w2 (w1.heap.size) 36 #[.int .i64 gr, .slice Ar Lr cr, .int .i64 hr, .slice Br Mr dr] := by rw [hw]; have h5 := (BK.new w1 #[.int .i64 gr, .slice Ar Lr cr, .int .i64 hr, .slice Br Mr dr] 36); simpa only [World.size_alloc] using h5
  have szw2 : w2.heap.size = w1.heap.size + 1 := by rw [hw]; simp only [World.size_alloc]
  clear hw
  refine (H1.out _ _ _ _ _ (by with_reducible repeat' first | exact Ext.refl _ | assumption | apply Ext.alloc_r | apply Ext.drew_r | apply Ext.drewN_r | refine Ext.trans ?_ ‹Ext _ _›) (R1.out.ext (by with_reducible repeat' first | exact Ext.refl _ | assumption | apply Ext.alloc_r | apply Ext.drew_r | apply Ext.drewN_r | refine Ext.trans ?_ ‹Ext _ _›))).mono ?_
  rintro e w3 ⟨rfl, x3⟩
  have szw3 : w2.heap.size ≤ w3.heap.size := x3.size
  replace bxa := bxa.ext x3
  replace bxb := bxb.ext x3
  clear R1 H1
  have ka_0 := bxa.c 0 (.int .i64 g1) rfl
  have ka_1 := bxa.c 1 (.slice A1 L1 c1) rfl
  have ka_2 := bxa.c 2 (.int .i64 h1) rfl
  have ka_3 := bxa.c 3 (.slice B1 M1 d1) rfl
  have kb_0 := bxb.c 0 (.int .i64 gr) rfl
  have kb_1 := bxb.c 1 (.slice Ar Lr cr) rfl
  have kb_2 := bxb.c 2 (.int .i64 hr) rfl
  have kb_3 := bxb.c 3 (.slice Br Mr dr) rfl
  go_wp2_with fail
  clear ka_0 ka_1 ka_2 ka_3 kb_0 kb_1 kb_2 kb_3
  refine (H2.out _ _ _ _ _ (by with_reducible repeat' first | exact Ext.refl _ | assumption | apply Ext.alloc_r | apply Ext.drew_r | apply Ext.drewN_r | refine Ext.trans ?_ ‹Ext _ _›) (R2.out.ext (by with_reducible repeat' first | exact Ext.refl _ | assumption | apply Ext.alloc_r | apply Ext.drew_r | apply Ext.drewN_r | refine Ext.trans ?_ ‹Ext _ _›))).mono ?_
  rintro e w4 ⟨rfl, x4⟩
  have szw4 : w3.heap.size ≤ w4.heap.size := x4.size
  replace bxa := bxa.ext x4
  replace bxb := bxb.ext x4
  have x0w : Ext w w4 := (by with_reducible repeat' first | exact Ext.refl _ | assumption | apply Ext.alloc_r | apply Ext.drew_r | apply Ext.drewN_r | refine Ext.trans ?_ ‹Ext _ _›)
  clear R2 H2
  have ka_0 := bxa.c 0 (.int .i64 g1) rfl
  have ka_1 := bxa.c 1 (.slice A1 L1 c1) rfl
  have ka_2 := bxa.c 2 (.int .i64 h1) rfl
  have ka_3 := bxa.c 3 (.slice B1 M1 d1) rfl
  have kb_0 := bxb.c 0 (.int .i64 gr) rfl
  have kb_1 := bxb.c 1 (.slice Ar Lr cr) rfl
  have kb_2 := bxb.c 2 (.int .i64 hr) rfl
  have kb_3 := bxb.c 3 (.slice Br Mr dr) rfl
  go_wp2_with fail
  clear ka_0 ka_1 ka_2 ka_3 kb_0 kb_1 kb_2 kb_3
  go_ret
  exact ⟨rfl, x0w⟩
end Go.Proofs.YtehhkeenjlpikaaGreat
