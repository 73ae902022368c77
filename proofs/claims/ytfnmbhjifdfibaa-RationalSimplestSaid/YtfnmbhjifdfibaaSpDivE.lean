/- Contracts of package division: Exact, Floor; plain laws of the floor of a fraction. -/
import Derived.Test.YtfnmbhjifdfibaaSpRatX
import Derived.Deep.RegionHeldLaw
import Derived.Deep.LoopGhost
import Derived.Deep.QuietTactic
import Derived.BigQuiet
namespace Go.Proofs.Ytfnmbhjifdfibaa
open Go.RowKit
theorem fdiv_cases {x y : Int} (hy : 0 < y) : (¬ (x.tmod y).sign < 0 → x / y = x.tdiv y ∧ x % y = x.tmod y) ∧ ((x.tmod y).sign < 0 → x / y = x.tdiv y - 1 ∧ x % y = x.tmod y + y) := by
  have h1 := Int.mul_tdiv_add_tmod x y
  have h2 : (x.tmod y).natAbs < y.natAbs := by rw [Int.natAbs_tmod]; exact Nat.mod_lt _ (by omega)
  constructor
  · intro h
    have h3 : 0 ≤ x.tmod y := by
      rcases Int.lt_or_le (x.tmod y) 0 with h4 | h4
      · rw [Int.sign_eq_neg_one_of_neg h4] at h; omega
      · exact h4
    have h5 : x.tmod y < y := by omega
    have h6 : x.tmod y + y * x.tdiv y = x := by rw [Int.add_comm]; exact h1
    exact (Int.ediv_emod_unique hy).2 ⟨h6, h3, h5⟩
  · intro h
    have h3 : x.tmod y < 0 := by
      rcases Int.lt_or_le (x.tmod y) 0 with h4 | h4
      · exact h4
      · have := Int.sign_nonneg_iff.2 h4; omega
    have h4 : x.tmod y + y + y * (x.tdiv y - 1) = x := by rw [Int.mul_sub, Int.mul_one]; omega
    exact (Int.ediv_emod_unique hy).2 ⟨h4, by omega, by omega⟩
/-- The greatest integer that is not greater. -/
def floorQ (q : Rat) : Int := q.num / (q.den : Int)
theorem floorQ_mk {x : Int} {y : Nat} (hy : 0 < y) : floorQ (mkRat x y) = x / (y : Int) := by
  have hg : 0 < Nat.gcd x.natAbs y := Nat.gcd_pos_of_pos_right _ hy
  have hd : ((Nat.gcd x.natAbs y : Nat) : Int) ∣ x := Int.ofNat_dvd_left.2 (Nat.gcd_dvd_left _ _)
  have hd2 : ((Nat.gcd x.natAbs y : Nat) : Int) ∣ (y : Int) := Int.natCast_dvd_natCast.2 (Nat.gcd_dvd_right _ _)
  unfold floorQ
  rw [rat_num_mk hy, rat_den_mk hy, Int.tdiv_eq_ediv_of_dvd hd, Int.natCast_ediv]
  obtain ⟨k, hk⟩ := hd
  obtain ⟨l, hl⟩ := hd2
  have hg0 : (0 : Int) < ((Nat.gcd x.natAbs y : Nat) : Int) := by omega
  generalize ((Nat.gcd x.natAbs y : Nat) : Int) = g at *
  conv => lhs; rw [hk, hl, Int.mul_ediv_cancel_left _ (by omega), Int.mul_ediv_cancel_left _ (by omega)]
  rw [hk, hl, Int.mul_ediv_mul_of_pos _ _ hg0]
theorem set_same {w : World} {p q : Addr} {v u : Value} (hp : w.cell? p = some v) (hq : w.cell? q = some u) : (w.setCell p v).cell? q = some u := by
  by_cases h : p = q
  · subst h
    rw [hp] at hq
    injection hq with hq
    subst hq
    exact World.cell?_setCell_same _ _ _ hp
  · exact (World.cell?_setCell_other _ _ _ _ h).trans hq
set_option maxHeartbeats 4000000 in
set_option maxRecDepth 100000 in
theorem floor_lt {w : World} {s1 s2 : Bool} {A1 A2 : Option Addr} {c1 c2 L1 L2 : Nat} {x y : Int} (h1 : ZV w s1 A1 c1 L1 x) (h2 : ZV w s2 A2 c2 L2 y) (hy : 0 < y) (hs1 : dl x.natAbs ≤ 1000000000) (hs2 : dl y.natAbs ≤ 1000000000) (hlt : (x.tmod y).sign < 0) :
    Calls Try.prog 62 #[.agg #[.bool s1, .slice A1 L1 c1], .agg #[.bool s2, .slice A2 L2 c2]] w (RetQR w (x / y) (x % y)) := by
  have hyb : (y == 0) = false := by rw [beq_eq_false_iff_ne]; omega
  obtain ⟨f1, f2⟩ := fdiv_cases (x := x) hy
  have hd1 : dl (x.tdiv y).natAbs ≤ dl x.natAbs := dl_mono (by rw [Int.natAbs_tdiv]; exact Nat.div_le_self _ _)
  have hd2 : dl (x.tmod y).natAbs ≤ dl x.natAbs := dl_mono (by rw [Int.natAbs_tmod]; exact Nat.mod_le _ _)
  have hS2 : y.sign = 1 := Int.sign_eq_one_of_pos hy
  have hb := sign_bd (x.tmod y)
  obtain ⟨S, hS⟩ : ∃ S : Int, S = (x.tmod y).sign := ⟨_, rfl⟩
  rw [← hS] at f1 f2 hb hlt
  have hw1 : IntKind.i64.wrap S = S := IntWalk.i64_in _ (by omega)
  have hw2 : IntKind.i64.wrap (S * 1) = S := by rw [Int.mul_one]; exact hw1
  have HS := Lib.hid hS
  have HS2 := Lib.hid hS2
  clear hS hS2
  obtain ⟨hA, hB⟩ := f2 hlt
  have HA := Lib.hid hA
  have HB := Lib.hid hB
  clear f1 f2 hA hB
  go_enter Try.func62, Try.ntmps62
  go_wp2_with fail
  obtain ⟨w0, hw0⟩ : ∃ z : World, z = ((((w.alloc (.cells #[.bool s1, .slice A1 L1 c1] 25)).alloc (.cells #[.bool s2, .slice A2 L2 c2] 25)).alloc (.cells #[.bool false, .slice none 0 0] 25)).alloc (.cells #[.bool false, .slice none 0 0] 25)) := ⟨_, rfl⟩
  rw [← hw0]
  have bxa : BK w0 (w.heap.size) 25 #[.bool s1, .slice A1 L1 c1] := by rw [hw0]; have h5 := (BK.ext (BK.ext (BK.ext (BK.new w #[.bool s1, .slice A1 L1 c1] 25) (Ext.alloc _ (.cells #[.bool s2, .slice A2 L2 c2] 25))) (Ext.alloc _ (.cells #[.bool false, .slice none 0 0] 25))) (Ext.alloc _ (.cells #[.bool false, .slice none 0 0] 25))); simpa only [World.size_alloc] using h5
  have bxb : BK w0 (w.heap.size + 1) 25 #[.bool s2, .slice A2 L2 c2] := by rw [hw0]; have h5 := (BK.ext (BK.ext (BK.new (w.alloc (.cells #[.bool s1, .slice A1 L1 c1] 25)) #[.bool s2, .slice A2 L2 c2] 25) (Ext.alloc _ (.cells #[.bool false, .slice none 0 0] 25))) (Ext.alloc _ (.cells #[.bool false, .slice none 0 0] 25))); simpa only [World.size_alloc] using h5
  have bxq : BK w0 (w.heap.size + 1 + 1) 25 #[.bool false, .slice none 0 0] := by rw [hw0]; have h5 := (BK.ext (BK.new ((w.alloc (.cells #[.bool s1, .slice A1 L1 c1] 25)).alloc (.cells #[.bool s2, .slice A2 L2 c2] 25)) #[.bool false, .slice none 0 0] 25) (Ext.alloc _ (.cells #[.bool false, .slice none 0 0] 25))); simpa only [World.size_alloc] using h5
  have bxr : BK w0 (w.heap.size + 1 + 1 + 1) 25 #[.bool false, .slice none 0 0] := by rw [hw0]; have h5 := (BK.new (((w.alloc (.cells #[.bool s1, .slice A1 L1 c1] 25)).alloc (.cells #[.bool s2, .slice A2 L2 c2] 25)).alloc (.cells #[.bool false, .slice none 0 0] 25)) #[.bool false, .slice none 0 0] 25); simpa only [World.size_alloc] using h5
  have hszw0 : w0.heap.size = w.heap.size + 1 + 1 + 1 + 1 := by rw [hw0]; simp only [World.size_alloc]
  have xw0 : Ext w w0 := by rw [hw0]; exact ((((Ext.alloc _ _).trans (Ext.alloc _ _)).trans (Ext.alloc _ _)).trans (Ext.alloc _ _))
  clear hw0
  refine (quo_z (h1.ext (by with_reducible repeat' first | exact Ext.refl _ | assumption | apply Ext.alloc_r | apply Ext.drew_r | apply Ext.drewN_r | refine Ext.trans ?_ ‹Ext _ _›)) (h2.ext (by with_reducible repeat' first | exact Ext.refl _ | assumption | apply Ext.alloc_r | apply Ext.drew_r | apply Ext.drewN_r | refine Ext.trans ?_ ‹Ext _ _›)) hyb hs1 hs2).mono ?_
  rintro e w1 ⟨saj, Aaj, caj, Laj, sbj, Abj, cbj, Lbj, rfl, ja, jb, x1⟩
  have szw1 : w0.heap.size ≤ w1.heap.size := x1.size
  replace bxa := bxa.ext x1
  replace bxb := bxb.ext x1
  replace bxq := bxq.ext x1
  replace bxr := bxr.ext x1
  have HJ := Lib.hid (And.intro ja jb)
  clear ja jb
  have ka_0 := bxa.c 0 (.bool s1) rfl
  have ka_1 := bxa.c 1 (.slice A1 L1 c1) rfl
  have kb_0 := bxb.c 0 (.bool s2) rfl
  have kb_1 := bxb.c 1 (.slice A2 L2 c2) rfl
  have kq_0 := bxq.c 0 (.bool false) rfl
  have fq_0 := bxq.f 0
  have kq_1 := bxq.c 1 (.slice none 0 0) rfl
  have fq_1 := bxq.f 1
  have kr_0 := bxr.c 0 (.bool false) rfl
  have fr_0 := bxr.f 0
  have kr_1 := bxr.c 1 (.slice none 0 0) rfl
  have fr_1 := bxr.f 1
  go_wp2_with fail
  clear ka_0 ka_1 kb_0 kb_1 kq_0 fq_0 kq_1 fq_1 kr_0 fr_0 kr_1 fr_1
  have ja := HJ.out.1
  have jb := HJ.out.2
  clear HJ
  obtain ⟨w2, hw⟩ : ∃ z : World, z = ((((w1.setCell ⟨w.heap.size + 1 + 1, 0, none⟩ (.bool saj)).setCell ⟨w.heap.size + 1 + 1, 1, none⟩ (.slice Aaj Laj caj)).setCell ⟨w.heap.size + 1 + 1 + 1, 0, none⟩ (.bool sbj)).setCell ⟨w.heap.size + 1 + 1 + 1, 1, none⟩ (.slice Abj Lbj cbj)) := ⟨_, rfl⟩
  rw [← hw]
  have kw2 : Kept w1 w2 := by rw [hw]; exact (Kept.set_ (Kept.set_ (Kept.set_ (Kept.set_ (Kept.refl _) bxq.isBox plain_int) (IsBox.set_ bxq.isBox) plain_int) (IsBox.set_ (IsBox.set_ bxr.isBox)) plain_int) (IsBox.set_ (IsBox.set_ (IsBox.set_ bxr.isBox))) plain_int)
  have nba : BK w2 (w.heap.size) 25 #[.bool s1, .slice A1 L1 c1] := by rw [hw]; exact (BK.far (BK.far (BK.far (BK.far bxa (show w.heap.size ≠ w.heap.size + 1 + 1 by omega) 0 _) (show w.heap.size ≠ w.heap.size + 1 + 1 by omega) 1 _) (show w.heap.size ≠ w.heap.size + 1 + 1 + 1 by omega) 0 _) (show w.heap.size ≠ w.heap.size + 1 + 1 + 1 by omega) 1 _)
  have nbb : BK w2 (w.heap.size + 1) 25 #[.bool s2, .slice A2 L2 c2] := by rw [hw]; exact (BK.far (BK.far (BK.far (BK.far bxb (show w.heap.size + 1 ≠ w.heap.size + 1 + 1 by omega) 0 _) (show w.heap.size + 1 ≠ w.heap.size + 1 + 1 by omega) 1 _) (show w.heap.size + 1 ≠ w.heap.size + 1 + 1 + 1 by omega) 0 _) (show w.heap.size + 1 ≠ w.heap.size + 1 + 1 + 1 by omega) 1 _)
  have nbq : BK w2 (w.heap.size + 1 + 1) 25 #[.bool saj, .slice Aaj Laj caj] := by rw [hw]; exact (BK.far (BK.far (BK.set (i := 1) (u := .slice Aaj Laj caj) (vs' := #[.bool saj, .slice Aaj Laj caj]) (BK.set (i := 0) (u := .bool saj) (vs' := #[.bool saj, .slice none 0 0]) bxq rfl) rfl) (show w.heap.size + 1 + 1 ≠ w.heap.size + 1 + 1 + 1 by omega) 0 _) (show w.heap.size + 1 + 1 ≠ w.heap.size + 1 + 1 + 1 by omega) 1 _)
  have nbr : BK w2 (w.heap.size + 1 + 1 + 1) 25 #[.bool sbj, .slice Abj Lbj cbj] := by rw [hw]; exact (BK.set (i := 1) (u := .slice Abj Lbj cbj) (vs' := #[.bool sbj, .slice Abj Lbj cbj]) (BK.set (i := 0) (u := .bool sbj) (vs' := #[.bool sbj, .slice none 0 0]) (BK.far (BK.far bxr (show w.heap.size + 1 + 1 + 1 ≠ w.heap.size + 1 + 1 by omega) 0 _) (show w.heap.size + 1 + 1 + 1 ≠ w.heap.size + 1 + 1 by omega) 1 _) rfl) rfl)
  have x2 : Ext w w2 := by rw [hw]; have hxp : Ext w w1 := (by with_reducible repeat' first | exact Ext.refl _ | assumption | apply Ext.alloc_r | apply Ext.drew_r | apply Ext.drewN_r | refine Ext.trans ?_ ‹Ext _ _›); exact (Ext.set_ (Ext.set_ (Ext.set_ (Ext.set_ hxp (show _ ≤ w.heap.size + 1 + 1 by omega)) (show _ ≤ w.heap.size + 1 + 1 by omega)) (show _ ≤ w.heap.size + 1 + 1 + 1 by omega)) (show _ ≤ w.heap.size + 1 + 1 + 1 by omega))
  clear bxa
  clear bxb
  clear bxq
  clear bxr
  have bxa := nba
  clear nba
  have bxb := nbb
  clear nbb
  have bxq := nbq
  clear nbq
  have bxr := nbr
  clear nbr
  have szw2 : w2.heap.size = w1.heap.size := by rw [hw]; simp
  replace ja := (ja.ext (by with_reducible repeat' first | exact Ext.refl _ | assumption | apply Ext.alloc_r | apply Ext.drew_r | apply Ext.drewN_r | refine Ext.trans ?_ ‹Ext _ _›)).kept kw2
  replace jb := (jb.ext (by with_reducible repeat' first | exact Ext.refl _ | assumption | apply Ext.alloc_r | apply Ext.drew_r | apply Ext.drewN_r | refine Ext.trans ?_ ‹Ext _ _›)).kept kw2
  clear hw kw2
  have ka_0 := bxa.c 0 (.bool s1) rfl
  have ka_1 := bxa.c 1 (.slice A1 L1 c1) rfl
  have kb_0 := bxb.c 0 (.bool s2) rfl
  have kb_1 := bxb.c 1 (.slice A2 L2 c2) rfl
  have kq_0 := bxq.c 0 (.bool saj) rfl
  have kq_1 := bxq.c 1 (.slice Aaj Laj caj) rfl
  have kr_0 := bxr.c 0 (.bool sbj) rfl
  have kr_1 := bxr.c 1 (.slice Abj Lbj cbj) rfl
  go_wp2_with fail
  have HK : Hid (∀ w', Ext w2 w' → (w'.cell? ⟨w.heap.size + 1 + 1 + 1, 0, none⟩ = some (.bool sbj) ∧ w'.cell? ⟨w.heap.size + 1 + 1 + 1, 1, none⟩ = some (.slice Abj Lbj cbj) ∧ w'.cell? ⟨w.heap.size + 1, 0, none⟩ = some (.bool s2) ∧ w'.cell? ⟨w.heap.size + 1, 1, none⟩ = some (.slice A2 L2 c2))) := fun w' hk => ⟨hk.cell kr_0, hk.cell kr_1, hk.cell kb_0, hk.cell kb_1⟩
  go_region_held3 (fun w' => w'.cell? ⟨w.heap.size + 1 + 1 + 1, 0, none⟩ = some (.bool sbj) ∧ w'.cell? ⟨w.heap.size + 1 + 1 + 1, 1, none⟩ = some (.slice Abj Lbj cbj) ∧ w'.cell? ⟨w.heap.size + 1, 0, none⟩ = some (.bool s2) ∧ w'.cell? ⟨w.heap.size + 1, 1, none⟩ = some (.slice A2 L2 c2))
    ((with_reducible refine HK.out _ ?_; (with_reducible repeat' first | exact Ext.refl _ | assumption | apply Ext.alloc_r | apply Ext.drew_r | apply Ext.drewN_r | refine Ext.trans ?_ ‹Ext _ _›)))
    (first
      | (go_at_call 33; refine (sign_is (h2.ext (by with_reducible repeat' first | exact Ext.refl _ | assumption | apply Ext.alloc_r | apply Ext.drew_r | apply Ext.drewN_r | refine Ext.trans ?_ ‹Ext _ _›)) HS2.out).mono ?_; rintro e w4 ⟨rfl, x4⟩)
      | (go_at_call_of 33 (#[Value.agg #[Value.bool sbj, Value.slice Abj Lbj cbj]]); refine (sign_is (jb.zv.ext (by with_reducible repeat' first | exact Ext.refl _ | assumption | apply Ext.alloc_r | apply Ext.drew_r | apply Ext.drewN_r | refine Ext.trans ?_ ‹Ext _ _›)) HS.out.symm).mono ?_; rintro e w3 ⟨rfl, x3⟩))
  clear ka_0 ka_1 kb_0 kb_1 kq_0 kq_1 kr_0 kr_1
  clear HK
  have szw3 : w2.heap.size ≤ w3.heap.size := (show Ext w2 w3 from (by with_reducible repeat' first | exact Ext.refl _ | assumption | apply Ext.alloc_r | apply Ext.drew_r | apply Ext.drewN_r | refine Ext.trans ?_ ‹Ext _ _›)).size
  have xhw4 : Ext w2 w4 := (by with_reducible repeat' first | exact Ext.refl _ | assumption | apply Ext.alloc_r | apply Ext.drew_r | apply Ext.drewN_r | refine Ext.trans ?_ ‹Ext _ _›)
  have szw4 : w2.heap.size ≤ w4.heap.size := xhw4.size
  replace bxa := bxa.ext xhw4
  replace bxb := bxb.ext xhw4
  replace bxq := bxq.ext xhw4
  replace bxr := bxr.ext xhw4
  have HJ := Lib.hid (And.intro (ja.ext (by with_reducible repeat' first | exact Ext.refl _ | assumption | apply Ext.alloc_r | apply Ext.drew_r | apply Ext.drewN_r | refine Ext.trans ?_ ‹Ext _ _›)) (jb.ext (by with_reducible repeat' first | exact Ext.refl _ | assumption | apply Ext.alloc_r | apply Ext.drew_r | apply Ext.drewN_r | refine Ext.trans ?_ ‹Ext _ _›)) : ZO w4 _ _ _ _ _ _ ∧ ZO w4 _ _ _ _ _ _)
  clear ja jb
  have kq_0 := bxq.c 0 (.bool saj) rfl
  have fq_0 := bxq.f 0
  have kq_1 := bxq.c 1 (.slice Aaj Laj caj) rfl
  have fq_1 := bxq.f 1
  go_wp2_with fail
  go_cut [] (fun wx => ∃ (wa : World) (s : Bool) (A : Option Addr) (c L : Nat), Ext w4 wa ∧ ZO wa w4.heap.size s A c L (x.tdiv y - 1) ∧ wx = (wa.setCell ⟨w.heap.size + 1 + 1, 0, none⟩ (.bool s)).setCell ⟨w.heap.size + 1 + 1, 1, none⟩ (.slice A L c))
  case first =>
    go_region_with (first
      | (go_at_call 84; refine (sub_z (HJ.out.1.zv.ext (by with_reducible repeat' first | exact Ext.refl _ | assumption | apply Ext.alloc_r | apply Ext.drew_r | apply Ext.drewN_r | refine Ext.trans ?_ ‹Ext _ _›)) (o.zv.ext (by with_reducible repeat' first | exact Ext.refl _ | assumption | apply Ext.alloc_r | apply Ext.drew_r | apply Ext.drewN_r | refine Ext.trans ?_ ‹Ext _ _›)) (by omega) (by rw [show dl (1 : Int).natAbs = dl 1 from rfl, dl_one]; omega)).mono ?_; rintro e w6 ⟨su, Au, cu, Lu, rfl, u, x6⟩; have yl1 : Ext w4 w6 := (by with_reducible repeat' first | exact Ext.refl _ | assumption | apply Ext.alloc_r | apply Ext.drew_r | apply Ext.drewN_r | refine Ext.trans ?_ ‹Ext _ _›); have h1q_0 := (bxq.ext yl1).c 0 (.bool saj) rfl; have h1q_1 := (bxq.ext yl1).c 1 (.slice Aaj Laj caj) rfl; have z1_0 := (bxq.ext yl1).f 0; have z1_1 := (bxq.ext yl1).f 1)
      | (go_at_call 56; refine (of_z (n := 1) (by omega)).mono ?_; rintro e w5 ⟨so, Ao, co, Lo, rfl, o, x5⟩; have yl0 : Ext w4 w5 := (by with_reducible repeat' first | exact Ext.refl _ | assumption | apply Ext.alloc_r | apply Ext.drew_r | apply Ext.drewN_r | refine Ext.trans ?_ ‹Ext _ _›); have h0q_0 := (bxq.ext yl0).c 0 (.bool saj) rfl; have h0q_1 := (bxq.ext yl0).c 1 (.slice Aaj Laj caj) rfl; have z0_0 := (bxq.ext yl0).f 0; have z0_1 := (bxq.ext yl0).f 1))
    all_goals (go_wp2_with fail; go_meet)
    all_goals (refine ⟨w6, _, _, _, _, yl1, ?_, rfl⟩; exact u.mono (Ext.size (by with_reducible repeat' first | exact Ext.refl _ | assumption | apply Ext.alloc_r | apply Ext.drew_r | apply Ext.drewN_r | refine Ext.trans ?_ ‹Ext _ _›)))
  case rest =>
    clear kq_0 fq_0 kq_1 fq_1
    obtain ⟨w7, su, Au, cu, Lu, x7, u, hwx⟩ := hcut
    subst hwx
    have szw7 : w4.heap.size ≤ w7.heap.size := x7.size
    replace bxa := bxa.ext x7
    replace bxb := bxb.ext x7
    replace bxq := bxq.ext x7
    replace bxr := bxr.ext x7
    have jb := HJ.out.2.ext (show Ext w4 w7 from (by with_reducible repeat' first | exact Ext.refl _ | assumption | apply Ext.alloc_r | apply Ext.drew_r | apply Ext.drewN_r | refine Ext.trans ?_ ‹Ext _ _›))
    obtain ⟨w8, hw⟩ : ∃ z : World, z = ((w7.setCell ⟨w.heap.size + 1 + 1, 0, none⟩ (.bool su)).setCell ⟨w.heap.size + 1 + 1, 1, none⟩ (.slice Au Lu cu)) := ⟨_, rfl⟩
    rw [← hw]
    have kw8 : Kept w7 w8 := by rw [hw]; exact (Kept.set_ (Kept.set_ (Kept.refl _) bxq.isBox plain_int) (IsBox.set_ bxq.isBox) plain_int)
    have nba : BK w8 (w.heap.size) 25 #[.bool s1, .slice A1 L1 c1] := by rw [hw]; exact (BK.far (BK.far bxa (show w.heap.size ≠ w.heap.size + 1 + 1 by omega) 0 _) (show w.heap.size ≠ w.heap.size + 1 + 1 by omega) 1 _)
    have nbb : BK w8 (w.heap.size + 1) 25 #[.bool s2, .slice A2 L2 c2] := by rw [hw]; exact (BK.far (BK.far bxb (show w.heap.size + 1 ≠ w.heap.size + 1 + 1 by omega) 0 _) (show w.heap.size + 1 ≠ w.heap.size + 1 + 1 by omega) 1 _)
    have nbq : BK w8 (w.heap.size + 1 + 1) 25 #[.bool su, .slice Au Lu cu] := by rw [hw]; exact (BK.set (i := 1) (u := .slice Au Lu cu) (vs' := #[.bool su, .slice Au Lu cu]) (BK.set (i := 0) (u := .bool su) (vs' := #[.bool su, .slice Aaj Laj caj]) bxq rfl) rfl)
    have nbr : BK w8 (w.heap.size + 1 + 1 + 1) 25 #[.bool sbj, .slice Abj Lbj cbj] := by rw [hw]; exact (BK.far (BK.far bxr (show w.heap.size + 1 + 1 + 1 ≠ w.heap.size + 1 + 1 by omega) 0 _) (show w.heap.size + 1 + 1 + 1 ≠ w.heap.size + 1 + 1 by omega) 1 _)
    have x8 : Ext w w8 := by rw [hw]; have hxp : Ext w w7 := (by with_reducible repeat' first | exact Ext.refl _ | assumption | apply Ext.alloc_r | apply Ext.drew_r | apply Ext.drewN_r | refine Ext.trans ?_ ‹Ext _ _›); exact (Ext.set_ (Ext.set_ hxp (show _ ≤ w.heap.size + 1 + 1 by omega)) (show _ ≤ w.heap.size + 1 + 1 by omega))
    clear bxa
    clear bxb
    clear bxq
    clear bxr
    have bxa := nba
    clear nba
    have bxb := nbb
    clear nbb
    have bxq := nbq
    clear nbq
    have bxr := nbr
    clear nbr
    have szw8 : w8.heap.size = w7.heap.size := by rw [hw]; simp
    replace u := (u.ext (by with_reducible repeat' first | exact Ext.refl _ | assumption | apply Ext.alloc_r | apply Ext.drew_r | apply Ext.drewN_r | refine Ext.trans ?_ ‹Ext _ _›)).kept kw8
    replace jb := (jb.ext (by with_reducible repeat' first | exact Ext.refl _ | assumption | apply Ext.alloc_r | apply Ext.drew_r | apply Ext.drewN_r | refine Ext.trans ?_ ‹Ext _ _›)).kept kw8
    clear hw kw8
    have HU := Lib.hid (And.intro u jb)
    clear u jb HJ
    have ka_0 := bxa.c 0 (.bool s1) rfl
    have ka_1 := bxa.c 1 (.slice A1 L1 c1) rfl
    have kb_0 := bxb.c 0 (.bool s2) rfl
    have kb_1 := bxb.c 1 (.slice A2 L2 c2) rfl
    have kq_0 := bxq.c 0 (.bool su) rfl
    have kq_1 := bxq.c 1 (.slice Au Lu cu) rfl
    have kr_0 := bxr.c 0 (.bool sbj) rfl
    have kr_1 := bxr.c 1 (.slice Abj Lbj cbj) rfl
    go_wp2_with fail
    clear ka_0 ka_1 kb_0 kb_1 kq_0 kq_1 kr_0 kr_1
    refine (add_z (HU.out.2.zv.ext (by with_reducible repeat' first | exact Ext.refl _ | assumption | apply Ext.alloc_r | apply Ext.drew_r | apply Ext.drewN_r | refine Ext.trans ?_ ‹Ext _ _›)) (h2.ext (by with_reducible repeat' first | exact Ext.refl _ | assumption | apply Ext.alloc_r | apply Ext.drew_r | apply Ext.drewN_r | refine Ext.trans ?_ ‹Ext _ _›)) (by omega) (by omega)).mono ?_
    rintro e w9 ⟨sv, Av, cv, Lv, rfl, v, x9⟩
    have szw9 : w8.heap.size ≤ w9.heap.size := x9.size
    replace bxa := bxa.ext x9
    replace bxb := bxb.ext x9
    replace bxq := bxq.ext x9
    replace bxr := bxr.ext x9
    have HV := Lib.hid v
    clear v
    have ka_0 := bxa.c 0 (.bool s1) rfl
    have ka_1 := bxa.c 1 (.slice A1 L1 c1) rfl
    have kb_0 := bxb.c 0 (.bool s2) rfl
    have kb_1 := bxb.c 1 (.slice A2 L2 c2) rfl
    have kq_0 := bxq.c 0 (.bool su) rfl
    have kq_1 := bxq.c 1 (.slice Au Lu cu) rfl
    have kr_0 := bxr.c 0 (.bool sbj) rfl
    have fr_0 := bxr.f 0
    have kr_1 := bxr.c 1 (.slice Abj Lbj cbj) rfl
    have fr_1 := bxr.f 1
    go_wp2_with fail
    clear ka_0 ka_1 kb_0 kb_1 kq_0 kq_1 kr_0 fr_0 kr_1 fr_1
    have v := HV.out
    have u := HU.out.1.ext (show Ext w8 w9 from (by with_reducible repeat' first | exact Ext.refl _ | assumption | apply Ext.alloc_r | apply Ext.drew_r | apply Ext.drewN_r | refine Ext.trans ?_ ‹Ext _ _›))
    clear HV HU
    obtain ⟨w10, hw⟩ : ∃ z : World, z = ((w9.setCell ⟨w.heap.size + 1 + 1 + 1, 0, none⟩ (.bool sv)).setCell ⟨w.heap.size + 1 + 1 + 1, 1, none⟩ (.slice Av Lv cv)) := ⟨_, rfl⟩
    rw [← hw]
    have kw10 : Kept w9 w10 := by rw [hw]; exact (Kept.set_ (Kept.set_ (Kept.refl _) bxr.isBox plain_int) (IsBox.set_ bxr.isBox) plain_int)
    have nba : BK w10 (w.heap.size) 25 #[.bool s1, .slice A1 L1 c1] := by rw [hw]; exact (BK.far (BK.far bxa (show w.heap.size ≠ w.heap.size + 1 + 1 + 1 by omega) 0 _) (show w.heap.size ≠ w.heap.size + 1 + 1 + 1 by omega) 1 _)
    have nbb : BK w10 (w.heap.size + 1) 25 #[.bool s2, .slice A2 L2 c2] := by rw [hw]; exact (BK.far (BK.far bxb (show w.heap.size + 1 ≠ w.heap.size + 1 + 1 + 1 by omega) 0 _) (show w.heap.size + 1 ≠ w.heap.size + 1 + 1 + 1 by omega) 1 _)
    have nbq : BK w10 (w.heap.size + 1 + 1) 25 #[.bool su, .slice Au Lu cu] := by rw [hw]; exact (BK.far (BK.far bxq (show w.heap.size + 1 + 1 ≠ w.heap.size + 1 + 1 + 1 by omega) 0 _) (show w.heap.size + 1 + 1 ≠ w.heap.size + 1 + 1 + 1 by omega) 1 _)
    have nbr : BK w10 (w.heap.size + 1 + 1 + 1) 25 #[.bool sv, .slice Av Lv cv] := by rw [hw]; exact (BK.set (i := 1) (u := .slice Av Lv cv) (vs' := #[.bool sv, .slice Av Lv cv]) (BK.set (i := 0) (u := .bool sv) (vs' := #[.bool sv, .slice Abj Lbj cbj]) bxr rfl) rfl)
    have x10 : Ext w w10 := by rw [hw]; have hxp : Ext w w9 := (by with_reducible repeat' first | exact Ext.refl _ | assumption | apply Ext.alloc_r | apply Ext.drew_r | apply Ext.drewN_r | refine Ext.trans ?_ ‹Ext _ _›); exact (Ext.set_ (Ext.set_ hxp (show _ ≤ w.heap.size + 1 + 1 + 1 by omega)) (show _ ≤ w.heap.size + 1 + 1 + 1 by omega))
    clear bxa
    clear bxb
    clear bxq
    clear bxr
    have bxa := nba
    clear nba
    have bxb := nbb
    clear nbb
    have bxq := nbq
    clear nbq
    have bxr := nbr
    clear nbr
    have szw10 : w10.heap.size = w9.heap.size := by rw [hw]; simp
    replace u := (u.ext (by with_reducible repeat' first | exact Ext.refl _ | assumption | apply Ext.alloc_r | apply Ext.drew_r | apply Ext.drewN_r | refine Ext.trans ?_ ‹Ext _ _›)).kept kw10
    replace v := (v.ext (by with_reducible repeat' first | exact Ext.refl _ | assumption | apply Ext.alloc_r | apply Ext.drew_r | apply Ext.drewN_r | refine Ext.trans ?_ ‹Ext _ _›)).kept kw10
    clear hw kw10
    have hu : ZO w10 w.heap.size su Au cu Lu (x / y) := by rw [HA.out]; exact u.mono (by omega)
    have hv : ZO w10 w.heap.size sv Av cv Lv (x % y) := by rw [HB.out]; exact v.mono (by omega)
    have HU := Lib.hid hu
    have HV := Lib.hid hv
    clear u v hu hv HA HB
    have kq_0 := bxq.c 0 (.bool su) rfl
    have fq_0 := bxq.f 0
    have kq_1 := bxq.c 1 (.slice Au Lu cu) rfl
    have fq_1 := bxq.f 1
    have kr_0 := bxr.c 0 (.bool sv) rfl
    have fr_0 := bxr.f 0
    have kr_1 := bxr.c 1 (.slice Av Lv cv) rfl
    have fr_1 := bxr.f 1
    go_wp2_with fail
    have HT0 : Hid (∀ (w' : World), (w'.cell? ⟨w.heap.size + 1 + 1, 0, none⟩ = some (.bool su) ∧ w'.cell? ⟨w.heap.size + 1 + 1, 1, none⟩ = some (.slice Au Lu cu) ∧ w'.cell? ⟨w.heap.size + 1 + 1 + 1, 0, none⟩ = some (.bool sv) ∧ w'.cell? ⟨w.heap.size + 1 + 1 + 1, 1, none⟩ = some (.slice Av Lv cv)) → ((fun (w' : World) => (w'.cell? ⟨w.heap.size + 1 + 1, 0, none⟩ = some (.bool su) ∧ w'.cell? ⟨w.heap.size + 1 + 1, 1, none⟩ = some (.slice Au Lu cu) ∧ w'.cell? ⟨w.heap.size + 1 + 1 + 1, 0, none⟩ = some (.bool sv) ∧ w'.cell? ⟨w.heap.size + 1 + 1 + 1, 1, none⟩ = some (.slice Av Lv cv))) (w'.setCell ⟨w.heap.size + 1 + 1, 0, none⟩ (.bool su)))) := fun w' hs => ⟨set_same (hs.1) (hs.1), set_same (hs.1) (hs.2.1), set_same (hs.1) (hs.2.2.1), set_same (hs.1) (hs.2.2.2)⟩
    have HT1 : Hid (∀ (w' : World), (w'.cell? ⟨w.heap.size + 1 + 1, 0, none⟩ = some (.bool su) ∧ w'.cell? ⟨w.heap.size + 1 + 1, 1, none⟩ = some (.slice Au Lu cu) ∧ w'.cell? ⟨w.heap.size + 1 + 1 + 1, 0, none⟩ = some (.bool sv) ∧ w'.cell? ⟨w.heap.size + 1 + 1 + 1, 1, none⟩ = some (.slice Av Lv cv)) → ((fun (w' : World) => (w'.cell? ⟨w.heap.size + 1 + 1, 0, none⟩ = some (.bool su) ∧ w'.cell? ⟨w.heap.size + 1 + 1, 1, none⟩ = some (.slice Au Lu cu) ∧ w'.cell? ⟨w.heap.size + 1 + 1 + 1, 0, none⟩ = some (.bool sv) ∧ w'.cell? ⟨w.heap.size + 1 + 1 + 1, 1, none⟩ = some (.slice Av Lv cv))) (w'.setCell ⟨w.heap.size + 1 + 1, 1, none⟩ (.slice Au Lu cu)))) := fun w' hs => ⟨set_same (hs.2.1) (hs.1), set_same (hs.2.1) (hs.2.1), set_same (hs.2.1) (hs.2.2.1), set_same (hs.2.1) (hs.2.2.2)⟩
    have HT2 : Hid (∀ (w' : World), (w'.cell? ⟨w.heap.size + 1 + 1, 0, none⟩ = some (.bool su) ∧ w'.cell? ⟨w.heap.size + 1 + 1, 1, none⟩ = some (.slice Au Lu cu) ∧ w'.cell? ⟨w.heap.size + 1 + 1 + 1, 0, none⟩ = some (.bool sv) ∧ w'.cell? ⟨w.heap.size + 1 + 1 + 1, 1, none⟩ = some (.slice Av Lv cv)) → ((fun (w' : World) => (w'.cell? ⟨w.heap.size + 1 + 1, 0, none⟩ = some (.bool su) ∧ w'.cell? ⟨w.heap.size + 1 + 1, 1, none⟩ = some (.slice Au Lu cu) ∧ w'.cell? ⟨w.heap.size + 1 + 1 + 1, 0, none⟩ = some (.bool sv) ∧ w'.cell? ⟨w.heap.size + 1 + 1 + 1, 1, none⟩ = some (.slice Av Lv cv))) (w'.setCell ⟨w.heap.size + 1 + 1 + 1, 0, none⟩ (.bool sv)))) := fun w' hs => ⟨set_same (hs.2.2.1) (hs.1), set_same (hs.2.2.1) (hs.2.1), set_same (hs.2.2.1) (hs.2.2.1), set_same (hs.2.2.1) (hs.2.2.2)⟩
    have HT3 : Hid (∀ (w' : World), (w'.cell? ⟨w.heap.size + 1 + 1, 0, none⟩ = some (.bool su) ∧ w'.cell? ⟨w.heap.size + 1 + 1, 1, none⟩ = some (.slice Au Lu cu) ∧ w'.cell? ⟨w.heap.size + 1 + 1 + 1, 0, none⟩ = some (.bool sv) ∧ w'.cell? ⟨w.heap.size + 1 + 1 + 1, 1, none⟩ = some (.slice Av Lv cv)) → ((fun (w' : World) => (w'.cell? ⟨w.heap.size + 1 + 1, 0, none⟩ = some (.bool su) ∧ w'.cell? ⟨w.heap.size + 1 + 1, 1, none⟩ = some (.slice Au Lu cu) ∧ w'.cell? ⟨w.heap.size + 1 + 1 + 1, 0, none⟩ = some (.bool sv) ∧ w'.cell? ⟨w.heap.size + 1 + 1 + 1, 1, none⟩ = some (.slice Av Lv cv))) (w'.setCell ⟨w.heap.size + 1 + 1 + 1, 1, none⟩ (.slice Av Lv cv)))) := fun w' hs => ⟨set_same (hs.2.2.2) (hs.1), set_same (hs.2.2.2) (hs.2.1), set_same (hs.2.2.2) (hs.2.2.1), set_same (hs.2.2.2) (hs.2.2.2)⟩
    have HTD : Hid (∀ (w' : World), (w'.cell? ⟨w.heap.size + 1 + 1, 0, none⟩ = some (.bool su) ∧ w'.cell? ⟨w.heap.size + 1 + 1, 1, none⟩ = some (.slice Au Lu cu) ∧ w'.cell? ⟨w.heap.size + 1 + 1 + 1, 0, none⟩ = some (.bool sv) ∧ w'.cell? ⟨w.heap.size + 1 + 1 + 1, 1, none⟩ = some (.slice Av Lv cv)) → ((fun (w' : World) => (w'.cell? ⟨w.heap.size + 1 + 1, 0, none⟩ = some (.bool su) ∧ w'.cell? ⟨w.heap.size + 1 + 1, 1, none⟩ = some (.slice Au Lu cu) ∧ w'.cell? ⟨w.heap.size + 1 + 1 + 1, 0, none⟩ = some (.bool sv) ∧ w'.cell? ⟨w.heap.size + 1 + 1 + 1, 1, none⟩ = some (.slice Av Lv cv))) w'.drew)) := fun w' hs => hs
    have HT : Hid (w10.cell? ⟨w.heap.size + 1 + 1, 0, none⟩ = some (.bool su) ∧ w10.cell? ⟨w.heap.size + 1 + 1, 1, none⟩ = some (.slice Au Lu cu) ∧ w10.cell? ⟨w.heap.size + 1 + 1 + 1, 0, none⟩ = some (.bool sv) ∧ w10.cell? ⟨w.heap.size + 1 + 1 + 1, 1, none⟩ = some (.slice Av Lv cv)) := ⟨kq_0, kq_1, kr_0, kr_1⟩
    go_region_held3 (fun w' => w'.cell? ⟨w.heap.size + 1 + 1, 0, none⟩ = some (.bool su) ∧ w'.cell? ⟨w.heap.size + 1 + 1, 1, none⟩ = some (.slice Au Lu cu) ∧ w'.cell? ⟨w.heap.size + 1 + 1 + 1, 0, none⟩ = some (.bool sv) ∧ w'.cell? ⟨w.heap.size + 1 + 1 + 1, 1, none⟩ = some (.slice Av Lv cv))
      ((repeat (first | (exact HT.out) | (with_reducible refine HTD.out _ ?_) | (with_reducible refine HT0.out _ ?_) | (with_reducible refine HT1.out _ ?_) | (with_reducible refine HT2.out _ ?_) | (with_reducible refine HT3.out _ ?_))))
      (fail)
    clear kq_0 fq_0 kq_1 fq_1 kr_0 fr_0 kr_1 fr_1
    clear HT HTD HT0 HT1 HT2 HT3
    obtain ⟨w11, hw⟩ : ∃ z : World, z = ((((w10.setCell ⟨w.heap.size + 1 + 1, 0, none⟩ (.bool su)).setCell ⟨w.heap.size + 1 + 1, 1, none⟩ (.slice Au Lu cu)).setCell ⟨w.heap.size + 1 + 1 + 1, 0, none⟩ (.bool sv)).setCell ⟨w.heap.size + 1 + 1 + 1, 1, none⟩ (.slice Av Lv cv)) := ⟨_, rfl⟩
    rw [← hw]
    have kw11 : Kept w10 w11 := by rw [hw]; exact (Kept.set_ (Kept.set_ (Kept.set_ (Kept.set_ (Kept.refl _) bxq.isBox plain_int) (IsBox.set_ bxq.isBox) plain_int) (IsBox.set_ (IsBox.set_ bxr.isBox)) plain_int) (IsBox.set_ (IsBox.set_ (IsBox.set_ bxr.isBox))) plain_int)
    have nba : BK w11 (w.heap.size) 25 #[.bool s1, .slice A1 L1 c1] := by rw [hw]; exact (BK.far (BK.far (BK.far (BK.far bxa (show w.heap.size ≠ w.heap.size + 1 + 1 by omega) 0 _) (show w.heap.size ≠ w.heap.size + 1 + 1 by omega) 1 _) (show w.heap.size ≠ w.heap.size + 1 + 1 + 1 by omega) 0 _) (show w.heap.size ≠ w.heap.size + 1 + 1 + 1 by omega) 1 _)
    have nbb : BK w11 (w.heap.size + 1) 25 #[.bool s2, .slice A2 L2 c2] := by rw [hw]; exact (BK.far (BK.far (BK.far (BK.far bxb (show w.heap.size + 1 ≠ w.heap.size + 1 + 1 by omega) 0 _) (show w.heap.size + 1 ≠ w.heap.size + 1 + 1 by omega) 1 _) (show w.heap.size + 1 ≠ w.heap.size + 1 + 1 + 1 by omega) 0 _) (show w.heap.size + 1 ≠ w.heap.size + 1 + 1 + 1 by omega) 1 _)
    have nbq : BK w11 (w.heap.size + 1 + 1) 25 #[.bool su, .slice Au Lu cu] := by rw [hw]; exact (BK.far (BK.far (BK.set (i := 1) (u := .slice Au Lu cu) (vs' := #[.bool su, .slice Au Lu cu]) (BK.set (i := 0) (u := .bool su) (vs' := #[.bool su, .slice Au Lu cu]) bxq rfl) rfl) (show w.heap.size + 1 + 1 ≠ w.heap.size + 1 + 1 + 1 by omega) 0 _) (show w.heap.size + 1 + 1 ≠ w.heap.size + 1 + 1 + 1 by omega) 1 _)
    have nbr : BK w11 (w.heap.size + 1 + 1 + 1) 25 #[.bool sv, .slice Av Lv cv] := by rw [hw]; exact (BK.set (i := 1) (u := .slice Av Lv cv) (vs' := #[.bool sv, .slice Av Lv cv]) (BK.set (i := 0) (u := .bool sv) (vs' := #[.bool sv, .slice Av Lv cv]) (BK.far (BK.far bxr (show w.heap.size + 1 + 1 + 1 ≠ w.heap.size + 1 + 1 by omega) 0 _) (show w.heap.size + 1 + 1 + 1 ≠ w.heap.size + 1 + 1 by omega) 1 _) rfl) rfl)
    have x11 : Ext w w11 := by rw [hw]; have hxp : Ext w w10 := (by with_reducible repeat' first | exact Ext.refl _ | assumption | apply Ext.alloc_r | apply Ext.drew_r | apply Ext.drewN_r | refine Ext.trans ?_ ‹Ext _ _›); exact (Ext.set_ (Ext.set_ (Ext.set_ (Ext.set_ hxp (show _ ≤ w.heap.size + 1 + 1 by omega)) (show _ ≤ w.heap.size + 1 + 1 by omega)) (show _ ≤ w.heap.size + 1 + 1 + 1 by omega)) (show _ ≤ w.heap.size + 1 + 1 + 1 by omega))
    clear bxa
    clear bxb
    clear bxq
    clear bxr
    have bxa := nba
    clear nba
    have bxb := nbb
    clear nbb
    have bxq := nbq
    clear nbq
    have bxr := nbr
    clear nbr
    have szw11 : w11.heap.size = w10.heap.size := by rw [hw]; simp
    have hkk := kw11
    clear hw kw11
    have hu : ZO w11 w.heap.size su Au cu Lu (x / y) := HU.out.kept hkk
    have hv : ZO w11 w.heap.size sv Av cv Lv (x % y) := HV.out.kept hkk
    clear HU HV
    have HU := Lib.hid hu
    have HV := Lib.hid hv
    clear hu hv hkk
    have ka_0 := bxa.c 0 (.bool s1) rfl
    have ka_1 := bxa.c 1 (.slice A1 L1 c1) rfl
    have kb_0 := bxb.c 0 (.bool s2) rfl
    have kb_1 := bxb.c 1 (.slice A2 L2 c2) rfl
    have kq_0 := bxq.c 0 (.bool su) rfl
    have kq_1 := bxq.c 1 (.slice Au Lu cu) rfl
    have kr_0 := bxr.c 0 (.bool sv) rfl
    have kr_1 := bxr.c 1 (.slice Av Lv cv) rfl
    go_wp2_with fail
    clear ka_0 ka_1 kb_0 kb_1 kq_0 kq_1 kr_0 kr_1
    have kq_0 := bxq.c 0 (.bool su) rfl
    have kq_1 := bxq.c 1 (.slice Au Lu cu) rfl
    have kr_0 := bxr.c 0 (.bool sv) rfl
    have kr_1 := bxr.c 1 (.slice Av Lv cv) rfl
    refine bodyPost_ret (v := .tuple #[.agg #[.bool su, .slice Au Lu cu], .agg #[.bool sv, .slice Av Lv cv], .int .i64 0]) (by simp [results, Try.results62, go_sem, kq_0, kq_1, kr_0, kr_1]) rfl ?_
    exact ⟨_, _, _, _, _, _, _, _, rfl, HU.out.ext (Ext.drew _), HV.out.ext (Ext.drew _), x11.trans (Ext.drew _)⟩
set_option maxHeartbeats 4000000 in
set_option maxRecDepth 100000 in
theorem floor_ge {w : World} {s1 s2 : Bool} {A1 A2 : Option Addr} {c1 c2 L1 L2 : Nat} {x y : Int} (h1 : ZV w s1 A1 c1 L1 x) (h2 : ZV w s2 A2 c2 L2 y) (hy : 0 < y) (hs1 : dl x.natAbs ≤ 1000000000) (hs2 : dl y.natAbs ≤ 1000000000) (hlt : ¬ (x.tmod y).sign < 0) :
    Calls Try.prog 62 #[.agg #[.bool s1, .slice A1 L1 c1], .agg #[.bool s2, .slice A2 L2 c2]] w (RetQR w (x / y) (x % y)) := by
  have hyb : (y == 0) = false := by rw [beq_eq_false_iff_ne]; omega
  obtain ⟨f1, f2⟩ := fdiv_cases (x := x) hy
  have hd1 : dl (x.tdiv y).natAbs ≤ dl x.natAbs := dl_mono (by rw [Int.natAbs_tdiv]; exact Nat.div_le_self _ _)
  have hd2 : dl (x.tmod y).natAbs ≤ dl x.natAbs := dl_mono (by rw [Int.natAbs_tmod]; exact Nat.mod_le _ _)
  have hS2 : y.sign = 1 := Int.sign_eq_one_of_pos hy
  have hb := sign_bd (x.tmod y)
  obtain ⟨S, hS⟩ : ∃ S : Int, S = (x.tmod y).sign := ⟨_, rfl⟩
  rw [← hS] at f1 f2 hb hlt
  have hw1 : IntKind.i64.wrap S = S := IntWalk.i64_in _ (by omega)
  have hw2 : IntKind.i64.wrap (S * 1) = S := by rw [Int.mul_one]; exact hw1
  have HS := Lib.hid hS
  have HS2 := Lib.hid hS2
  clear hS hS2
  obtain ⟨hA, hB⟩ := f1 hlt
  have HA := Lib.hid hA
  have HB := Lib.hid hB
  clear f1 f2 hA hB
  go_enter Try.func62, Try.ntmps62
  go_wp2_with fail
  obtain ⟨w0, hw0⟩ : ∃ z : World, z = ((((w.alloc (.cells #[.bool s1, .slice A1 L1 c1] 25)).alloc (.cells #[.bool s2, .slice A2 L2 c2] 25)).alloc (.cells #[.bool false, .slice none 0 0] 25)).alloc (.cells #[.bool false, .slice none 0 0] 25)) := ⟨_, rfl⟩
  rw [← hw0]
  have bxa : BK w0 (w.heap.size) 25 #[.bool s1, .slice A1 L1 c1] := by rw [hw0]; have h5 := (BK.ext (BK.ext (BK.ext (BK.new w #[.bool s1, .slice A1 L1 c1] 25) (Ext.alloc _ (.cells #[.bool s2, .slice A2 L2 c2] 25))) (Ext.alloc _ (.cells #[.bool false, .slice none 0 0] 25))) (Ext.alloc _ (.cells #[.bool false, .slice none 0 0] 25))); simpa only [World.size_alloc] using h5
  have bxb : BK w0 (w.heap.size + 1) 25 #[.bool s2, .slice A2 L2 c2] := by rw [hw0]; have h5 := (BK.ext (BK.ext (BK.new (w.alloc (.cells #[.bool s1, .slice A1 L1 c1] 25)) #[.bool s2, .slice A2 L2 c2] 25) (Ext.alloc _ (.cells #[.bool false, .slice none 0 0] 25))) (Ext.alloc _ (.cells #[.bool false, .slice none 0 0] 25))); simpa only [World.size_alloc] using h5
  have bxq : BK w0 (w.heap.size + 1 + 1) 25 #[.bool false, .slice none 0 0] := by rw [hw0]; have h5 := (BK.ext (BK.new ((w.alloc (.cells #[.bool s1, .slice A1 L1 c1] 25)).alloc (.cells #[.bool s2, .slice A2 L2 c2] 25)) #[.bool false, .slice none 0 0] 25) (Ext.alloc _ (.cells #[.bool false, .slice none 0 0] 25))); simpa only [World.size_alloc] using h5
  have bxr : BK w0 (w.heap.size + 1 + 1 + 1) 25 #[.bool false, .slice none 0 0] := by rw [hw0]; have h5 := (BK.new (((w.alloc (.cells #[.bool s1, .slice A1 L1 c1] 25)).alloc (.cells #[.bool s2, .slice A2 L2 c2] 25)).alloc (.cells #[.bool false, .slice none 0 0] 25)) #[.bool false, .slice none 0 0] 25); simpa only [World.size_alloc] using h5
  have hszw0 : w0.heap.size = w.heap.size + 1 + 1 + 1 + 1 := by rw [hw0]; simp only [World.size_alloc]
  have xw0 : Ext w w0 := by rw [hw0]; exact ((((Ext.alloc _ _).trans (Ext.alloc _ _)).trans (Ext.alloc _ _)).trans (Ext.alloc _ _))
  clear hw0
  refine (quo_z (h1.ext (by with_reducible repeat' first | exact Ext.refl _ | assumption | apply Ext.alloc_r | apply Ext.drew_r | apply Ext.drewN_r | refine Ext.trans ?_ ‹Ext _ _›)) (h2.ext (by with_reducible repeat' first | exact Ext.refl _ | assumption | apply Ext.alloc_r | apply Ext.drew_r | apply Ext.drewN_r | refine Ext.trans ?_ ‹Ext _ _›)) hyb hs1 hs2).mono ?_
  rintro e w1 ⟨saj, Aaj, caj, Laj, sbj, Abj, cbj, Lbj, rfl, ja, jb, x1⟩
  have szw1 : w0.heap.size ≤ w1.heap.size := x1.size
  replace bxa := bxa.ext x1
  replace bxb := bxb.ext x1
  replace bxq := bxq.ext x1
  replace bxr := bxr.ext x1
  have HJ := Lib.hid (And.intro ja jb)
  clear ja jb
  have ka_0 := bxa.c 0 (.bool s1) rfl
  have ka_1 := bxa.c 1 (.slice A1 L1 c1) rfl
  have kb_0 := bxb.c 0 (.bool s2) rfl
  have kb_1 := bxb.c 1 (.slice A2 L2 c2) rfl
  have kq_0 := bxq.c 0 (.bool false) rfl
  have fq_0 := bxq.f 0
  have kq_1 := bxq.c 1 (.slice none 0 0) rfl
  have fq_1 := bxq.f 1
  have kr_0 := bxr.c 0 (.bool false) rfl
  have fr_0 := bxr.f 0
  have kr_1 := bxr.c 1 (.slice none 0 0) rfl
  have fr_1 := bxr.f 1
  go_wp2_with fail
  clear ka_0 ka_1 kb_0 kb_1 kq_0 fq_0 kq_1 fq_1 kr_0 fr_0 kr_1 fr_1
  have ja := HJ.out.1
  have jb := HJ.out.2
  clear HJ
  obtain ⟨w2, hw⟩ : ∃ z : World, z = ((((w1.setCell ⟨w.heap.size + 1 + 1, 0, none⟩ (.bool saj)).setCell ⟨w.heap.size + 1 + 1, 1, none⟩ (.slice Aaj Laj caj)).setCell ⟨w.heap.size + 1 + 1 + 1, 0, none⟩ (.bool sbj)).setCell ⟨w.heap.size + 1 + 1 + 1, 1, none⟩ (.slice Abj Lbj cbj)) := ⟨_, rfl⟩
  rw [← hw]
  have kw2 : Kept w1 w2 := by rw [hw]; exact (Kept.set_ (Kept.set_ (Kept.set_ (Kept.set_ (Kept.refl _) bxq.isBox plain_int) (IsBox.set_ bxq.isBox) plain_int) (IsBox.set_ (IsBox.set_ bxr.isBox)) plain_int) (IsBox.set_ (IsBox.set_ (IsBox.set_ bxr.isBox))) plain_int)
  have nba : BK w2 (w.heap.size) 25 #[.bool s1, .slice A1 L1 c1] := by rw [hw]; exact (BK.far (BK.far (BK.far (BK.far bxa (show w.heap.size ≠ w.heap.size + 1 + 1 by omega) 0 _) (show w.heap.size ≠ w.heap.size + 1 + 1 by omega) 1 _) (show w.heap.size ≠ w.heap.size + 1 + 1 + 1 by omega) 0 _) (show w.heap.size ≠ w.heap.size + 1 + 1 + 1 by omega) 1 _)
  have nbb : BK w2 (w.heap.size + 1) 25 #[.bool s2, .slice A2 L2 c2] := by rw [hw]; exact (BK.far (BK.far (BK.far (BK.far bxb (show w.heap.size + 1 ≠ w.heap.size + 1 + 1 by omega) 0 _) (show w.heap.size + 1 ≠ w.heap.size + 1 + 1 by omega) 1 _) (show w.heap.size + 1 ≠ w.heap.size + 1 + 1 + 1 by omega) 0 _) (show w.heap.size + 1 ≠ w.heap.size + 1 + 1 + 1 by omega) 1 _)
  have nbq : BK w2 (w.heap.size + 1 + 1) 25 #[.bool saj, .slice Aaj Laj caj] := by rw [hw]; exact (BK.far (BK.far (BK.set (i := 1) (u := .slice Aaj Laj caj) (vs' := #[.bool saj, .slice Aaj Laj caj]) (BK.set (i := 0) (u := .bool saj) (vs' := #[.bool saj, .slice none 0 0]) bxq rfl) rfl) (show w.heap.size + 1 + 1 ≠ w.heap.size + 1 + 1 + 1 by omega) 0 _) (show w.heap.size + 1 + 1 ≠ w.heap.size + 1 + 1 + 1 by omega) 1 _)
  have nbr : BK w2 (w.heap.size + 1 + 1 + 1) 25 #[.bool sbj, .slice Abj Lbj cbj] := by rw [hw]; exact (BK.set (i := 1) (u := .slice Abj Lbj cbj) (vs' := #[.bool sbj, .slice Abj Lbj cbj]) (BK.set (i := 0) (u := .bool sbj) (vs' := #[.bool sbj, .slice none 0 0]) (BK.far (BK.far bxr (show w.heap.size + 1 + 1 + 1 ≠ w.heap.size + 1 + 1 by omega) 0 _) (show w.heap.size + 1 + 1 + 1 ≠ w.heap.size + 1 + 1 by omega) 1 _) rfl) rfl)
  have x2 : Ext w w2 := by rw [hw]; have hxp : Ext w w1 := (by with_reducible repeat' first | exact Ext.refl _ | assumption | apply Ext.alloc_r | apply Ext.drew_r | apply Ext.drewN_r | refine Ext.trans ?_ ‹Ext _ _›); exact (Ext.set_ (Ext.set_ (Ext.set_ (Ext.set_ hxp (show _ ≤ w.heap.size + 1 + 1 by omega)) (show _ ≤ w.heap.size + 1 + 1 by omega)) (show _ ≤ w.heap.size + 1 + 1 + 1 by omega)) (show _ ≤ w.heap.size + 1 + 1 + 1 by omega))
  clear bxa
  clear bxb
  clear bxq
  clear bxr
  have bxa := nba
  clear nba
  have bxb := nbb
  clear nbb
  have bxq := nbq
  clear nbq
  have bxr := nbr
  clear nbr
  have szw2 : w2.heap.size = w1.heap.size := by rw [hw]; simp
  replace ja := (ja.ext (by with_reducible repeat' first | exact Ext.refl _ | assumption | apply Ext.alloc_r | apply Ext.drew_r | apply Ext.drewN_r | refine Ext.trans ?_ ‹Ext _ _›)).kept kw2
  replace jb := (jb.ext (by with_reducible repeat' first | exact Ext.refl _ | assumption | apply Ext.alloc_r | apply Ext.drew_r | apply Ext.drewN_r | refine Ext.trans ?_ ‹Ext _ _›)).kept kw2
  clear hw kw2
  have ka_0 := bxa.c 0 (.bool s1) rfl
  have ka_1 := bxa.c 1 (.slice A1 L1 c1) rfl
  have kb_0 := bxb.c 0 (.bool s2) rfl
  have kb_1 := bxb.c 1 (.slice A2 L2 c2) rfl
  have kq_0 := bxq.c 0 (.bool saj) rfl
  have kq_1 := bxq.c 1 (.slice Aaj Laj caj) rfl
  have kr_0 := bxr.c 0 (.bool sbj) rfl
  have kr_1 := bxr.c 1 (.slice Abj Lbj cbj) rfl
  go_wp2_with fail
  have HK : Hid (∀ w', Ext w2 w' → (w'.cell? ⟨w.heap.size + 1 + 1 + 1, 0, none⟩ = some (.bool sbj) ∧ w'.cell? ⟨w.heap.size + 1 + 1 + 1, 1, none⟩ = some (.slice Abj Lbj cbj) ∧ w'.cell? ⟨w.heap.size + 1, 0, none⟩ = some (.bool s2) ∧ w'.cell? ⟨w.heap.size + 1, 1, none⟩ = some (.slice A2 L2 c2))) := fun w' hk => ⟨hk.cell kr_0, hk.cell kr_1, hk.cell kb_0, hk.cell kb_1⟩
  go_region_held3 (fun w' => w'.cell? ⟨w.heap.size + 1 + 1 + 1, 0, none⟩ = some (.bool sbj) ∧ w'.cell? ⟨w.heap.size + 1 + 1 + 1, 1, none⟩ = some (.slice Abj Lbj cbj) ∧ w'.cell? ⟨w.heap.size + 1, 0, none⟩ = some (.bool s2) ∧ w'.cell? ⟨w.heap.size + 1, 1, none⟩ = some (.slice A2 L2 c2))
    ((with_reducible refine HK.out _ ?_; (with_reducible repeat' first | exact Ext.refl _ | assumption | apply Ext.alloc_r | apply Ext.drew_r | apply Ext.drewN_r | refine Ext.trans ?_ ‹Ext _ _›)))
    (first
      | (go_at_call 33; refine (sign_is (h2.ext (by with_reducible repeat' first | exact Ext.refl _ | assumption | apply Ext.alloc_r | apply Ext.drew_r | apply Ext.drewN_r | refine Ext.trans ?_ ‹Ext _ _›)) HS2.out).mono ?_; rintro e w4 ⟨rfl, x4⟩)
      | (go_at_call_of 33 (#[Value.agg #[Value.bool sbj, Value.slice Abj Lbj cbj]]); refine (sign_is (jb.zv.ext (by with_reducible repeat' first | exact Ext.refl _ | assumption | apply Ext.alloc_r | apply Ext.drew_r | apply Ext.drewN_r | refine Ext.trans ?_ ‹Ext _ _›)) HS.out.symm).mono ?_; rintro e w3 ⟨rfl, x3⟩))
  clear ka_0 ka_1 kb_0 kb_1 kq_0 kq_1 kr_0 kr_1
  clear HK
  have szw3 : w2.heap.size ≤ w3.heap.size := (show Ext w2 w3 from (by with_reducible repeat' first | exact Ext.refl _ | assumption | apply Ext.alloc_r | apply Ext.drew_r | apply Ext.drewN_r | refine Ext.trans ?_ ‹Ext _ _›)).size
  have xhw4 : Ext w2 w4 := (by with_reducible repeat' first | exact Ext.refl _ | assumption | apply Ext.alloc_r | apply Ext.drew_r | apply Ext.drewN_r | refine Ext.trans ?_ ‹Ext _ _›)
  have szw4 : w2.heap.size ≤ w4.heap.size := xhw4.size
  replace bxa := bxa.ext xhw4
  replace bxb := bxb.ext xhw4
  replace bxq := bxq.ext xhw4
  replace bxr := bxr.ext xhw4
  have hu : ZO w4 w.heap.size saj Aaj caj Laj (x / y) := by rw [HA.out]; exact (ja.ext (by with_reducible repeat' first | exact Ext.refl _ | assumption | apply Ext.alloc_r | apply Ext.drew_r | apply Ext.drewN_r | refine Ext.trans ?_ ‹Ext _ _›)).mono (by omega)
  have hv : ZO w4 w.heap.size sbj Abj cbj Lbj (x % y) := by rw [HB.out]; exact (jb.ext (by with_reducible repeat' first | exact Ext.refl _ | assumption | apply Ext.alloc_r | apply Ext.drew_r | apply Ext.drewN_r | refine Ext.trans ?_ ‹Ext _ _›)).mono (by omega)
  have HU := Lib.hid hu
  have HV := Lib.hid hv
  clear ja jb hu hv HA HB
  have xz : Ext w w4 := (by with_reducible repeat' first | exact Ext.refl _ | assumption | apply Ext.alloc_r | apply Ext.drew_r | apply Ext.drewN_r | refine Ext.trans ?_ ‹Ext _ _›)
  have kq_0 := bxq.c 0 (.bool saj) rfl
  have fq_0 := bxq.f 0
  have kq_1 := bxq.c 1 (.slice Aaj Laj caj) rfl
  have fq_1 := bxq.f 1
  have kr_0 := bxr.c 0 (.bool sbj) rfl
  have fr_0 := bxr.f 0
  have kr_1 := bxr.c 1 (.slice Abj Lbj cbj) rfl
  have fr_1 := bxr.f 1
  go_wp2_with fail
  have HT0 : Hid (∀ (w' : World), (w'.cell? ⟨w.heap.size + 1 + 1, 0, none⟩ = some (.bool saj) ∧ w'.cell? ⟨w.heap.size + 1 + 1, 1, none⟩ = some (.slice Aaj Laj caj) ∧ w'.cell? ⟨w.heap.size + 1 + 1 + 1, 0, none⟩ = some (.bool sbj) ∧ w'.cell? ⟨w.heap.size + 1 + 1 + 1, 1, none⟩ = some (.slice Abj Lbj cbj)) → ((fun (w' : World) => (w'.cell? ⟨w.heap.size + 1 + 1, 0, none⟩ = some (.bool saj) ∧ w'.cell? ⟨w.heap.size + 1 + 1, 1, none⟩ = some (.slice Aaj Laj caj) ∧ w'.cell? ⟨w.heap.size + 1 + 1 + 1, 0, none⟩ = some (.bool sbj) ∧ w'.cell? ⟨w.heap.size + 1 + 1 + 1, 1, none⟩ = some (.slice Abj Lbj cbj))) (w'.setCell ⟨w.heap.size + 1 + 1, 0, none⟩ (.bool saj)))) := fun w' hs => ⟨set_same (hs.1) (hs.1), set_same (hs.1) (hs.2.1), set_same (hs.1) (hs.2.2.1), set_same (hs.1) (hs.2.2.2)⟩
  have HT1 : Hid (∀ (w' : World), (w'.cell? ⟨w.heap.size + 1 + 1, 0, none⟩ = some (.bool saj) ∧ w'.cell? ⟨w.heap.size + 1 + 1, 1, none⟩ = some (.slice Aaj Laj caj) ∧ w'.cell? ⟨w.heap.size + 1 + 1 + 1, 0, none⟩ = some (.bool sbj) ∧ w'.cell? ⟨w.heap.size + 1 + 1 + 1, 1, none⟩ = some (.slice Abj Lbj cbj)) → ((fun (w' : World) => (w'.cell? ⟨w.heap.size + 1 + 1, 0, none⟩ = some (.bool saj) ∧ w'.cell? ⟨w.heap.size + 1 + 1, 1, none⟩ = some (.slice Aaj Laj caj) ∧ w'.cell? ⟨w.heap.size + 1 + 1 + 1, 0, none⟩ = some (.bool sbj) ∧ w'.cell? ⟨w.heap.size + 1 + 1 + 1, 1, none⟩ = some (.slice Abj Lbj cbj))) (w'.setCell ⟨w.heap.size + 1 + 1, 1, none⟩ (.slice Aaj Laj caj)))) := fun w' hs => ⟨set_same (hs.2.1) (hs.1), set_same (hs.2.1) (hs.2.1), set_same (hs.2.1) (hs.2.2.1), set_same (hs.2.1) (hs.2.2.2)⟩
  have HT2 : Hid (∀ (w' : World), (w'.cell? ⟨w.heap.size + 1 + 1, 0, none⟩ = some (.bool saj) ∧ w'.cell? ⟨w.heap.size + 1 + 1, 1, none⟩ = some (.slice Aaj Laj caj) ∧ w'.cell? ⟨w.heap.size + 1 + 1 + 1, 0, none⟩ = some (.bool sbj) ∧ w'.cell? ⟨w.heap.size + 1 + 1 + 1, 1, none⟩ = some (.slice Abj Lbj cbj)) → ((fun (w' : World) => (w'.cell? ⟨w.heap.size + 1 + 1, 0, none⟩ = some (.bool saj) ∧ w'.cell? ⟨w.heap.size + 1 + 1, 1, none⟩ = some (.slice Aaj Laj caj) ∧ w'.cell? ⟨w.heap.size + 1 + 1 + 1, 0, none⟩ = some (.bool sbj) ∧ w'.cell? ⟨w.heap.size + 1 + 1 + 1, 1, none⟩ = some (.slice Abj Lbj cbj))) (w'.setCell ⟨w.heap.size + 1 + 1 + 1, 0, none⟩ (.bool sbj)))) := fun w' hs => ⟨set_same (hs.2.2.1) (hs.1), set_same (hs.2.2.1) (hs.2.1), set_same (hs.2.2.1) (hs.2.2.1), set_same (hs.2.2.1) (hs.2.2.2)⟩
  have HT3 : Hid (∀ (w' : World), (w'.cell? ⟨w.heap.size + 1 + 1, 0, none⟩ = some (.bool saj) ∧ w'.cell? ⟨w.heap.size + 1 + 1, 1, none⟩ = some (.slice Aaj Laj caj) ∧ w'.cell? ⟨w.heap.size + 1 + 1 + 1, 0, none⟩ = some (.bool sbj) ∧ w'.cell? ⟨w.heap.size + 1 + 1 + 1, 1, none⟩ = some (.slice Abj Lbj cbj)) → ((fun (w' : World) => (w'.cell? ⟨w.heap.size + 1 + 1, 0, none⟩ = some (.bool saj) ∧ w'.cell? ⟨w.heap.size + 1 + 1, 1, none⟩ = some (.slice Aaj Laj caj) ∧ w'.cell? ⟨w.heap.size + 1 + 1 + 1, 0, none⟩ = some (.bool sbj) ∧ w'.cell? ⟨w.heap.size + 1 + 1 + 1, 1, none⟩ = some (.slice Abj Lbj cbj))) (w'.setCell ⟨w.heap.size + 1 + 1 + 1, 1, none⟩ (.slice Abj Lbj cbj)))) := fun w' hs => ⟨set_same (hs.2.2.2) (hs.1), set_same (hs.2.2.2) (hs.2.1), set_same (hs.2.2.2) (hs.2.2.1), set_same (hs.2.2.2) (hs.2.2.2)⟩
  have HTD : Hid (∀ (w' : World), (w'.cell? ⟨w.heap.size + 1 + 1, 0, none⟩ = some (.bool saj) ∧ w'.cell? ⟨w.heap.size + 1 + 1, 1, none⟩ = some (.slice Aaj Laj caj) ∧ w'.cell? ⟨w.heap.size + 1 + 1 + 1, 0, none⟩ = some (.bool sbj) ∧ w'.cell? ⟨w.heap.size + 1 + 1 + 1, 1, none⟩ = some (.slice Abj Lbj cbj)) → ((fun (w' : World) => (w'.cell? ⟨w.heap.size + 1 + 1, 0, none⟩ = some (.bool saj) ∧ w'.cell? ⟨w.heap.size + 1 + 1, 1, none⟩ = some (.slice Aaj Laj caj) ∧ w'.cell? ⟨w.heap.size + 1 + 1 + 1, 0, none⟩ = some (.bool sbj) ∧ w'.cell? ⟨w.heap.size + 1 + 1 + 1, 1, none⟩ = some (.slice Abj Lbj cbj))) w'.drew)) := fun w' hs => hs
  have HT : Hid (w4.cell? ⟨w.heap.size + 1 + 1, 0, none⟩ = some (.bool saj) ∧ w4.cell? ⟨w.heap.size + 1 + 1, 1, none⟩ = some (.slice Aaj Laj caj) ∧ w4.cell? ⟨w.heap.size + 1 + 1 + 1, 0, none⟩ = some (.bool sbj) ∧ w4.cell? ⟨w.heap.size + 1 + 1 + 1, 1, none⟩ = some (.slice Abj Lbj cbj)) := ⟨kq_0, kq_1, kr_0, kr_1⟩
  go_region_held3 (fun w' => w'.cell? ⟨w.heap.size + 1 + 1, 0, none⟩ = some (.bool saj) ∧ w'.cell? ⟨w.heap.size + 1 + 1, 1, none⟩ = some (.slice Aaj Laj caj) ∧ w'.cell? ⟨w.heap.size + 1 + 1 + 1, 0, none⟩ = some (.bool sbj) ∧ w'.cell? ⟨w.heap.size + 1 + 1 + 1, 1, none⟩ = some (.slice Abj Lbj cbj))
    ((repeat (first | (exact HT.out) | (with_reducible refine HTD.out _ ?_) | (with_reducible refine HT0.out _ ?_) | (with_reducible refine HT1.out _ ?_) | (with_reducible refine HT2.out _ ?_) | (with_reducible refine HT3.out _ ?_))))
    (fail)
  clear kq_0 fq_0 kq_1 fq_1 kr_0 fr_0 kr_1 fr_1
  clear HT HTD HT0 HT1 HT2 HT3
  obtain ⟨w5, hw⟩ : ∃ z : World, z = ((((w4.setCell ⟨w.heap.size + 1 + 1, 0, none⟩ (.bool saj)).setCell ⟨w.heap.size + 1 + 1, 1, none⟩ (.slice Aaj Laj caj)).setCell ⟨w.heap.size + 1 + 1 + 1, 0, none⟩ (.bool sbj)).setCell ⟨w.heap.size + 1 + 1 + 1, 1, none⟩ (.slice Abj Lbj cbj)) := ⟨_, rfl⟩
  rw [← hw]
  have kw5 : Kept w4 w5 := by rw [hw]; exact (Kept.set_ (Kept.set_ (Kept.set_ (Kept.set_ (Kept.refl _) bxq.isBox plain_int) (IsBox.set_ bxq.isBox) plain_int) (IsBox.set_ (IsBox.set_ bxr.isBox)) plain_int) (IsBox.set_ (IsBox.set_ (IsBox.set_ bxr.isBox))) plain_int)
  have nba : BK w5 (w.heap.size) 25 #[.bool s1, .slice A1 L1 c1] := by rw [hw]; exact (BK.far (BK.far (BK.far (BK.far bxa (show w.heap.size ≠ w.heap.size + 1 + 1 by omega) 0 _) (show w.heap.size ≠ w.heap.size + 1 + 1 by omega) 1 _) (show w.heap.size ≠ w.heap.size + 1 + 1 + 1 by omega) 0 _) (show w.heap.size ≠ w.heap.size + 1 + 1 + 1 by omega) 1 _)
  have nbb : BK w5 (w.heap.size + 1) 25 #[.bool s2, .slice A2 L2 c2] := by rw [hw]; exact (BK.far (BK.far (BK.far (BK.far bxb (show w.heap.size + 1 ≠ w.heap.size + 1 + 1 by omega) 0 _) (show w.heap.size + 1 ≠ w.heap.size + 1 + 1 by omega) 1 _) (show w.heap.size + 1 ≠ w.heap.size + 1 + 1 + 1 by omega) 0 _) (show w.heap.size + 1 ≠ w.heap.size + 1 + 1 + 1 by omega) 1 _)
  have nbq : BK w5 (w.heap.size + 1 + 1) 25 #[.bool saj, .slice Aaj Laj caj] := by rw [hw]; exact (BK.far (BK.far (BK.set (i := 1) (u := .slice Aaj Laj caj) (vs' := #[.bool saj, .slice Aaj Laj caj]) (BK.set (i := 0) (u := .bool saj) (vs' := #[.bool saj, .slice Aaj Laj caj]) bxq rfl) rfl) (show w.heap.size + 1 + 1 ≠ w.heap.size + 1 + 1 + 1 by omega) 0 _) (show w.heap.size + 1 + 1 ≠ w.heap.size + 1 + 1 + 1 by omega) 1 _)
  have nbr : BK w5 (w.heap.size + 1 + 1 + 1) 25 #[.bool sbj, .slice Abj Lbj cbj] := by rw [hw]; exact (BK.set (i := 1) (u := .slice Abj Lbj cbj) (vs' := #[.bool sbj, .slice Abj Lbj cbj]) (BK.set (i := 0) (u := .bool sbj) (vs' := #[.bool sbj, .slice Abj Lbj cbj]) (BK.far (BK.far bxr (show w.heap.size + 1 + 1 + 1 ≠ w.heap.size + 1 + 1 by omega) 0 _) (show w.heap.size + 1 + 1 + 1 ≠ w.heap.size + 1 + 1 by omega) 1 _) rfl) rfl)
  have x5 : Ext w w5 := by rw [hw]; have hxp : Ext w w4 := (by with_reducible repeat' first | exact Ext.refl _ | assumption | apply Ext.alloc_r | apply Ext.drew_r | apply Ext.drewN_r | refine Ext.trans ?_ ‹Ext _ _›); exact (Ext.set_ (Ext.set_ (Ext.set_ (Ext.set_ hxp (show _ ≤ w.heap.size + 1 + 1 by omega)) (show _ ≤ w.heap.size + 1 + 1 by omega)) (show _ ≤ w.heap.size + 1 + 1 + 1 by omega)) (show _ ≤ w.heap.size + 1 + 1 + 1 by omega))
  clear bxa
  clear bxb
  clear bxq
  clear bxr
  have bxa := nba
  clear nba
  have bxb := nbb
  clear nbb
  have bxq := nbq
  clear nbq
  have bxr := nbr
  clear nbr
  have szw5 : w5.heap.size = w4.heap.size := by rw [hw]; simp
  have hkk := kw5
  clear hw kw5
  have hu : ZO w5 w.heap.size saj Aaj caj Laj (x / y) := HU.out.kept hkk
  have hv : ZO w5 w.heap.size sbj Abj cbj Lbj (x % y) := HV.out.kept hkk
  clear HU HV
  have HU := Lib.hid hu
  have HV := Lib.hid hv
  clear hu hv hkk
  have ka_0 := bxa.c 0 (.bool s1) rfl
  have ka_1 := bxa.c 1 (.slice A1 L1 c1) rfl
  have kb_0 := bxb.c 0 (.bool s2) rfl
  have kb_1 := bxb.c 1 (.slice A2 L2 c2) rfl
  have kq_0 := bxq.c 0 (.bool saj) rfl
  have kq_1 := bxq.c 1 (.slice Aaj Laj caj) rfl
  have kr_0 := bxr.c 0 (.bool sbj) rfl
  have kr_1 := bxr.c 1 (.slice Abj Lbj cbj) rfl
  go_wp2_with fail
  clear ka_0 ka_1 kb_0 kb_1 kq_0 kq_1 kr_0 kr_1
  have kq_0 := bxq.c 0 (.bool saj) rfl
  have kq_1 := bxq.c 1 (.slice Aaj Laj caj) rfl
  have kr_0 := bxr.c 0 (.bool sbj) rfl
  have kr_1 := bxr.c 1 (.slice Abj Lbj cbj) rfl
  refine bodyPost_ret (v := .tuple #[.agg #[.bool saj, .slice Aaj Laj caj], .agg #[.bool sbj, .slice Abj Lbj cbj], .int .i64 0]) (by simp [results, Try.results62, go_sem, kq_0, kq_1, kr_0, kr_1]) rfl ?_
  exact ⟨_, _, _, _, _, _, _, _, rfl, HU.out.ext (Ext.drew _), HV.out.ext (Ext.drew _), x5.trans (Ext.drew _)⟩
theorem floor_z {w : World} {s1 s2 : Bool} {A1 A2 : Option Addr} {c1 c2 L1 L2 : Nat} {x y : Int} (h1 : ZV w s1 A1 c1 L1 x) (h2 : ZV w s2 A2 c2 L2 y) (hy : 0 < y) (hs1 : dl x.natAbs ≤ 1000000000) (hs2 : dl y.natAbs ≤ 1000000000) :
    Calls Try.prog 62 #[.agg #[.bool s1, .slice A1 L1 c1], .agg #[.bool s2, .slice A2 L2 c2]] w (RetQR w (x / y) (x % y)) := by
  by_cases h : (x.tmod y).sign < 0
  · exact floor_lt h1 h2 hy hs1 hs2 h
  · exact floor_ge h1 h2 hy hs1 hs2 h
end Go.Proofs.Ytfnmbhjifdfibaa
