/- Contracts of package rational: Pow. -/
import Derived.Test.YtehhkeenjlpikaaGreatPoPowA
import Derived.Deep.RegionHeldLaw
import Derived.Deep.LoopGhost
import Derived.Deep.QuietTactic
import Derived.BigQuiet
namespace Go.Proofs.YtehhkeenjlpikaaGreat
open Go.RowKit
theorem bl_dl {n : Nat} : bl n ≤ 32 * dl n := by
  have h := bl_V (valid_digs B32_two n)
  rwa [show V (digs B32 n) = n from val_digs B32_two _] at h
theorem pow_num (q : Rat) (k : Nat) : (q ^ k).num = q.num ^ k ∧ (q ^ k).den = q.den ^ k := by rw [Rat.pow_def]; exact ⟨rfl, rfl⟩
set_option maxHeartbeats 4000000 in
set_option maxRecDepth 100000 in
theorem rpow_g {w : World} {s1 : Bool} {A1 B1 : Option Addr} {c1 d1 L1 M1 N1 : Nat} {q1 : Rat} {k : Nat} (h1 : RV w s1 A1 c1 L1 B1 d1 M1 N1 q1) (hbd : ∀ j, j ≤ k → dl (q1.num ^ j).natAbs ≤ 40 ∧ dl (q1.den ^ j) ≤ 40) (hlim : max (bl q1.num.natAbs) (bl q1.den) * k ≤ 16777216) (hN1 : N1 ≤ 40) (hk : k ≤ 16777216) :
    Calls Tryz.prog 70 #[Value.agg #[.bool s1, .slice A1 L1 c1, .slice B1 M1 d1], .int .i64 k] w (RetRE w 41 (q1 ^ k)) := by
  have HBD := Lib.hid hbd
  clear hbd
  go_enter Tryz.func70, Tryz.ntmps70
  go_wp2_with fail
  obtain ⟨w0, hw0⟩ : ∃ z : World, z = ((w.alloc (.cells #[.bool s1, .slice A1 L1 c1, .slice B1 M1 d1] 27)).alloc (.cells #[.bool false, .slice none 0 0, .slice none 0 0] 27)) := ⟨_, rfl⟩
  rw [← hw0]
  have bxa : BK w0 (w.heap.size) 27 #[.bool s1, .slice A1 L1 c1, .slice B1 M1 d1] := by rw [hw0]; have h5 := (BK.ext (BK.new w #[.bool s1, .slice A1 L1 c1, .slice B1 M1 d1] 27) (Ext.alloc _ (.cells #[.bool false, .slice none 0 0, .slice none 0 0] 27))); simpa only [World.size_alloc] using h5
  have bxr : BK w0 (w.heap.size + 1) 27 #[.bool false, .slice none 0 0, .slice none 0 0] := by rw [hw0]; have h5 := (BK.new (w.alloc (.cells #[.bool s1, .slice A1 L1 c1, .slice B1 M1 d1] 27)) #[.bool false, .slice none 0 0, .slice none 0 0] 27); simpa only [World.size_alloc] using h5
  have hszw0 : w0.heap.size = w.heap.size + 1 + 1 := by rw [hw0]; simp only [World.size_alloc]
  have xw0 : Ext w w0 := by rw [hw0]; exact ((Ext.alloc _ _).trans (Ext.alloc _ _))
  clear hw0
  refine (rnormal_r (h1.ext (by with_reducible repeat' first | exact Ext.refl _ | assumption | apply Ext.alloc_r | apply Ext.drew_r | apply Ext.drewN_r | refine Ext.trans ?_ ‹Ext _ _›)) (by omega)).mono ?_
  rintro e w1 ⟨sn, An, cn, Ln, Bn, dn, Mn, rfl, n, x1⟩
  have szw1 : w0.heap.size ≤ w1.heap.size := x1.size
  replace bxa := bxa.ext x1
  replace bxr := bxr.ext x1
  have HN := Lib.hid n
  clear n h1
  have ka_0 := bxa.c 0 (.bool s1) rfl
  have fa_0 := bxa.f 0
  have ka_1 := bxa.c 1 (.slice A1 L1 c1) rfl
  have fa_1 := bxa.f 1
  have ka_2 := bxa.c 2 (.slice B1 M1 d1) rfl
  have fa_2 := bxa.f 2
  have kr_0 := bxr.c 0 (.bool false) rfl
  have kr_1 := bxr.c 1 (.slice none 0 0) rfl
  have kr_2 := bxr.c 2 (.slice none 0 0) rfl
  go_wp2_with fail
  clear ka_0 fa_0 ka_1 fa_1 ka_2 fa_2 kr_0 kr_1 kr_2
  have n := HN.out
  clear HN
  obtain ⟨w2, hw⟩ : ∃ z : World, z = (((w1.setCell ⟨w.heap.size, 0, none⟩ (.bool sn)).setCell ⟨w.heap.size, 1, none⟩ (.slice An Ln cn)).setCell ⟨w.heap.size, 2, none⟩ (.slice Bn Mn dn)) := ⟨_, rfl⟩
  rw [← hw]
  have kw2 : Kept w1 w2 := by rw [hw]; exact (Kept.set_ (Kept.set_ (Kept.set_ (Kept.refl _) bxa.isBox plain_rat) (IsBox.set_ bxa.isBox) plain_rat) (IsBox.set_ (IsBox.set_ bxa.isBox)) plain_rat)
  have nba : BK w2 (w.heap.size) 27 #[.bool sn, .slice An Ln cn, .slice Bn Mn dn] := by rw [hw]; exact (BK.set (i := 2) (u := .slice Bn Mn dn) (vs' := #[.bool sn, .slice An Ln cn, .slice Bn Mn dn]) (BK.set (i := 1) (u := .slice An Ln cn) (vs' := #[.bool sn, .slice An Ln cn, .slice B1 M1 d1]) (BK.set (i := 0) (u := .bool sn) (vs' := #[.bool sn, .slice A1 L1 c1, .slice B1 M1 d1]) bxa rfl) rfl) rfl)
  have nbr : BK w2 (w.heap.size + 1) 27 #[.bool false, .slice none 0 0, .slice none 0 0] := by rw [hw]; exact (BK.far (BK.far (BK.far bxr (show w.heap.size + 1 ≠ w.heap.size by omega) 0 _) (show w.heap.size + 1 ≠ w.heap.size by omega) 1 _) (show w.heap.size + 1 ≠ w.heap.size by omega) 2 _)
  have x2 : Ext w w2 := by rw [hw]; have hxp : Ext w w1 := (by with_reducible repeat' first | exact Ext.refl _ | assumption | apply Ext.alloc_r | apply Ext.drew_r | apply Ext.drewN_r | refine Ext.trans ?_ ‹Ext _ _›); exact (Ext.set_ (Ext.set_ (Ext.set_ hxp (show _ ≤ w.heap.size by omega)) (show _ ≤ w.heap.size by omega)) (show _ ≤ w.heap.size by omega))
  clear bxa
  clear bxr
  have bxa := nba
  clear nba
  have bxr := nbr
  clear nbr
  have szw2 : w2.heap.size = w1.heap.size := by rw [hw]; simp
  replace n := (n.ext (by with_reducible repeat' first | exact Ext.refl _ | assumption | apply Ext.alloc_r | apply Ext.drew_r | apply Ext.drewN_r | refine Ext.trans ?_ ‹Ext _ _›)).kept kw2
  clear hw kw2
  have hdn := n.dn
  have hdd := n.dd
  have HA : Hid (ZV w2 sn An cn Ln q1.num) := n.num.zv
  have HD : Hid (NV w2 Bn dn Mn q1.den) := by rw [n.len]; exact n.den.nv
  have HB : Hid (ZV w2 false Bn dn Mn (q1.den : Int)) := ⟨by rw [Int.natAbs_natCast]; exact HD.out, (fun h => by cases h), fun _ => Int.natCast_nonneg _⟩
  clear n
  obtain ⟨P1, hP1⟩ : ∃ P : Nat, P = bl q1.num.natAbs := ⟨_, rfl⟩
  obtain ⟨P2, hP2⟩ : ∃ P : Nat, P = bl q1.den := ⟨_, rfl⟩
  have hq1 : P1 ≤ 32 * N1 := by rw [hP1]; exact Nat.le_trans bl_dl (by omega)
  have hq2 : P2 ≤ 32 * N1 := by rw [hP2]; exact Nat.le_trans bl_dl (by omega)
  have hlim2 : max P1 P2 * k ≤ 16777216 := by rw [hP1, hP2]; exact hlim
  clear hlim
  have HP1 := Lib.hid hP1
  have HP2 := Lib.hid hP2
  clear hP1 hP2
  have HL1 : Hid (∀ w', Ext w2 w' → Calls Tryz.prog 95 #[.agg #[.bool sn, .slice An Ln cn]] w' fun e w'' => e = .returned (.int .i64 P1) ∧ Ext w' w'') := fun w' hx => by
    have h5 := zbitLen_z (HA.out.ext hx) (by omega)
    rw [← HP1.out] at h5
    exact h5
  have HL2 : Hid (∀ w', Ext w2 w' → Calls Tryz.prog 96 #[.slice Bn Mn dn] w' fun e w'' => e = .returned (.int .i64 P2) ∧ Ext w' w'') := fun w' hx => by
    have h5 := bitLen_v (HD.out.ext hx) (by omega)
    rw [← HP2.out] at h5
    refine h5.mono ?_
    rintro e w'' ⟨rfl, rfl⟩
    exact ⟨rfl, Ext.refl _⟩
  have ka_0 := bxa.c 0 (.bool sn) rfl
  have ka_1 := bxa.c 1 (.slice An Ln cn) rfl
  have ka_2 := bxa.c 2 (.slice Bn Mn dn) rfl
  have kr_0 := bxr.c 0 (.bool false) rfl
  have kr_1 := bxr.c 1 (.slice none 0 0) rfl
  have kr_2 := bxr.c 2 (.slice none 0 0) rfl
  go_wp2_with fail
  have HK : Hid (∀ w', Ext w2 w' → (w'.cell? ⟨w.heap.size, 0, none⟩ = some (.bool sn) ∧ w'.cell? ⟨w.heap.size, 1, none⟩ = some (.slice An Ln cn) ∧ w'.cell? ⟨w.heap.size, 2, none⟩ = some (.slice Bn Mn dn))) := fun w' hk => ⟨hk.cell ka_0, hk.cell ka_1, hk.cell ka_2⟩
  go_region_held3 (fun w' => w'.cell? ⟨w.heap.size, 0, none⟩ = some (.bool sn) ∧ w'.cell? ⟨w.heap.size, 1, none⟩ = some (.slice An Ln cn) ∧ w'.cell? ⟨w.heap.size, 2, none⟩ = some (.slice Bn Mn dn))
    ((with_reducible refine HK.out _ ?_; (with_reducible repeat' first | exact Ext.refl _ | assumption | apply Ext.alloc_r | apply Ext.drew_r | apply Ext.drewN_r | refine Ext.trans ?_ ‹Ext _ _›)))
    (first
      | (go_at_call 96; refine (HL2.out _ (by with_reducible repeat' first | exact Ext.refl _ | assumption | apply Ext.alloc_r | apply Ext.drew_r | apply Ext.drewN_r | refine Ext.trans ?_ ‹Ext _ _›)).mono ?_; rintro e w4 ⟨rfl, x4⟩)
      | (go_at_call 95; refine (HL1.out _ (by with_reducible repeat' first | exact Ext.refl _ | assumption | apply Ext.alloc_r | apply Ext.drew_r | apply Ext.drewN_r | refine Ext.trans ?_ ‹Ext _ _›)).mono ?_; rintro e w3 ⟨rfl, x3⟩))
  clear ka_0 ka_1 ka_2 kr_0 kr_1 kr_2
  clear HK
  have szw3 : w2.heap.size ≤ w3.heap.size := (show Ext w2 w3 from (by with_reducible repeat' first | exact Ext.refl _ | assumption | apply Ext.alloc_r | apply Ext.drew_r | apply Ext.drewN_r | refine Ext.trans ?_ ‹Ext _ _›)).size
  have xhw4 : Ext w2 w4 := (by with_reducible repeat' first | exact Ext.refl _ | assumption | apply Ext.alloc_r | apply Ext.drew_r | apply Ext.drewN_r | refine Ext.trans ?_ ‹Ext _ _›)
  have szw4 : w2.heap.size ≤ w4.heap.size := xhw4.size
  replace bxa := bxa.ext xhw4
  replace bxr := bxr.ext xhw4
  have hmx : max (P1 : Int) (P2 : Int) = ((max P1 P2 : Nat) : Int) := by omega
  have hLX : max P1 P2 ≤ 32 * N1 := by omega
  rw [hmx]
  clear hmx HL1 HL2
  have HLK1 : Hid (P1 * k ≤ 16777216) := Nat.le_trans (Nat.mul_le_mul_right k (Nat.le_max_left _ _)) hlim2
  have HLK2 : Hid (P2 * k ≤ 16777216) := Nat.le_trans (Nat.mul_le_mul_right k (Nat.le_max_right _ _)) hlim2
  have HBLN : Hid (bl q1.num.natAbs = P1) := HP1.out.symm
  have HBLD : Hid (bl q1.den = P2) := HP2.out.symm
  generalize max P1 P2 = LX at *
  have HMU : Hid (∀ w', Calls Tryz.prog 97 #[.int .u64 LX, .int .u64 k] w' fun e w'' => e = .returned (.tuple #[.int .u64 0, .int .u64 (LX * k : Nat)]) ∧ w'' = w') := fun w' => by
    have h5 := Tryz.bits_Mul64 LX k (by omega) (by omega) w'
    rw [Nat.div_eq_of_lt (by omega), Nat.mod_eq_of_lt (by omega)] at h5
    exact h5
  generalize LX * k = PP at *
  have HI1 : Hid (∀ w', Ext w4 w' → Calls Tryz.prog 98 #[.agg #[.bool sn, .slice An Ln cn], .int .i64 k] w' (RetZOK w' (q1.num ^ k))) := fun w' hx => ipow_g (HA.out.ext (Ext.trans (show Ext _ w4 from (by with_reducible repeat' first | exact Ext.refl _ | assumption | apply Ext.alloc_r | apply Ext.drew_r | apply Ext.drewN_r | refine Ext.trans ?_ ‹Ext _ _›)) hx)) (by omega) (fun j hj => (HBD.out j hj).1) (by rw [HBLN.out]; exact HLK1.out) hk
  have HI2 : Hid (∀ w', Ext w4 w' → Calls Tryz.prog 98 #[.agg #[.bool false, .slice Bn Mn dn], .int .i64 k] w' (RetZOK w' ((q1.den : Int) ^ k))) := fun w' hx => ipow_g (HB.out.ext (Ext.trans (show Ext _ w4 from (by with_reducible repeat' first | exact Ext.refl _ | assumption | apply Ext.alloc_r | apply Ext.drew_r | apply Ext.drewN_r | refine Ext.trans ?_ ‹Ext _ _›)) hx)) (by rw [Int.natAbs_natCast]; omega) (fun j hj => by rw [← Int.natCast_pow, Int.natAbs_natCast]; exact (HBD.out j hj).2) (by rw [Int.natAbs_natCast, HBLD.out]; exact HLK2.out) hk
  have HDN : Hid (dl (q1 ^ k).num.natAbs ≤ 41 ∧ dl (q1 ^ k).den ≤ 41) := by
    rw [(pow_num q1 k).1, (pow_num q1 k).2]
    have h5 := HBD.out k (Nat.le_refl _)
    exact ⟨by omega, by omega⟩
  have ka_0 := bxa.c 0 (.bool sn) rfl
  have ka_1 := bxa.c 1 (.slice An Ln cn) rfl
  have ka_2 := bxa.c 2 (.slice Bn Mn dn) rfl
  have kr_0 := bxr.c 0 (.bool false) rfl
  have kr_1 := bxr.c 1 (.slice none 0 0) rfl
  have kr_2 := bxr.c 2 (.slice none 0 0) rfl
  go_wp2_with fail
  clear ka_0 ka_1 ka_2 kr_0 kr_1 kr_2
  refine (HMU.out _).mono ?_
  rintro e w4 ⟨rfl, rfl⟩
  clear HMU
  have ka_0 := bxa.c 0 (.bool sn) rfl
  have ka_1 := bxa.c 1 (.slice An Ln cn) rfl
  have ka_2 := bxa.c 2 (.slice Bn Mn dn) rfl
  have kr_0 := bxr.c 0 (.bool false) rfl
  have kr_1 := bxr.c 1 (.slice none 0 0) rfl
  have kr_2 := bxr.c 2 (.slice none 0 0) rfl
  go_wp2_with fail
  clear ka_0 ka_1 ka_2 kr_0 kr_1 kr_2
  refine (HI1.out _ (by with_reducible repeat' first | exact Ext.refl _ | assumption | apply Ext.alloc_r | apply Ext.drew_r | apply Ext.drewN_r | refine Ext.trans ?_ ‹Ext _ _›)).mono ?_
  rintro e w5 ⟨su, Au, cu, Lu, rfl, u, x5⟩
  have szw5 : w4.heap.size ≤ w5.heap.size := x5.size
  replace bxa := bxa.ext x5
  replace bxr := bxr.ext x5
  have HU := Lib.hid u
  clear u HI1
  have ka_0 := bxa.c 0 (.bool sn) rfl
  have ka_1 := bxa.c 1 (.slice An Ln cn) rfl
  have ka_2 := bxa.c 2 (.slice Bn Mn dn) rfl
  have kr_0 := bxr.c 0 (.bool false) rfl
  have kr_1 := bxr.c 1 (.slice none 0 0) rfl
  have kr_2 := bxr.c 2 (.slice none 0 0) rfl
  have t1a_0 := fun (o0 : Obj) => ((Ext.alloc w5 o0).cell (bxa.c 0 (.bool sn) rfl))
  have t1a_1 := fun (o0 : Obj) => ((Ext.alloc w5 o0).cell (bxa.c 1 (.slice An Ln cn) rfl))
  have t1a_2 := fun (o0 : Obj) => ((Ext.alloc w5 o0).cell (bxa.c 2 (.slice Bn Mn dn) rfl))
  have t1r_0 := fun (o0 : Obj) => ((Ext.alloc w5 o0).cell (bxr.c 0 (.bool false) rfl))
  have t1r_1 := fun (o0 : Obj) => ((Ext.alloc w5 o0).cell (bxr.c 1 (.slice none 0 0) rfl))
  have t1r_2 := fun (o0 : Obj) => ((Ext.alloc w5 o0).cell (bxr.c 2 (.slice none 0 0) rfl))
  go_wp2_with fail
  clear ka_0 ka_1 ka_2 kr_0 kr_1 kr_2 t1a_0 t1a_1 t1a_2 t1r_0 t1r_1 t1r_2
  obtain ⟨w6, hw⟩ : ∃ z : World, z = (w5.alloc (.cells #[.bool su, .slice Au Lu cu] 25)) := ⟨_, rfl⟩
  rw [← hw]
  have x6 : Ext w5 w6 := by rw [hw]; exact (Ext.alloc _ _)
  replace bxa := bxa.ext x6
  replace bxr := bxr.ext x6
  have bxu : BK w6 (w5.heap.size) 25 #[.bool su, .slice Au Lu cu] := by rw [hw]; have h5 := (BK.new w5 #[.bool su, .slice Au Lu cu] 25); simpa only [World.size_alloc] using h5
  have szw6 : w6.heap.size = w5.heap.size + 1 := by rw [hw]; simp only [World.size_alloc]
  clear hw
  refine (HI2.out _ (by with_reducible repeat' first | exact Ext.refl _ | assumption | apply Ext.alloc_r | apply Ext.drew_r | apply Ext.drewN_r | refine Ext.trans ?_ ‹Ext _ _›)).mono ?_
  rintro e w7 ⟨sv, Av, cv, Lv, rfl, v, x7⟩
  have szw7 : w6.heap.size ≤ w7.heap.size := x7.size
  replace bxa := bxa.ext x7
  replace bxr := bxr.ext x7
  replace bxu := bxu.ext x7
  have HV := Lib.hid v
  clear v HI2 HA HB HD
  obtain rfl : sv = false := by rw [HV.out.sign, ← Int.natCast_pow]; exact decide_eq_false (by omega)
  have ka_0 := bxa.c 0 (.bool sn) rfl
  have ka_1 := bxa.c 1 (.slice An Ln cn) rfl
  have ka_2 := bxa.c 2 (.slice Bn Mn dn) rfl
  have kr_0 := bxr.c 0 (.bool false) rfl
  have fr_0 := bxr.f 0
  have kr_1 := bxr.c 1 (.slice none 0 0) rfl
  have fr_1 := bxr.f 1
  have kr_2 := bxr.c 2 (.slice none 0 0) rfl
  have fr_2 := bxr.f 2
  have ku_0 := bxu.c 0 (.bool su) rfl
  have ku_1 := bxu.c 1 (.slice Au Lu cu) rfl
  have t1a_0 := fun (o0 : Obj) => ((Ext.alloc w7 o0).cell (bxa.c 0 (.bool sn) rfl))
  have t1a_1 := fun (o0 : Obj) => ((Ext.alloc w7 o0).cell (bxa.c 1 (.slice An Ln cn) rfl))
  have t1a_2 := fun (o0 : Obj) => ((Ext.alloc w7 o0).cell (bxa.c 2 (.slice Bn Mn dn) rfl))
  have t1r_0 := fun (o0 : Obj) => ((Ext.alloc w7 o0).cell (bxr.c 0 (.bool false) rfl))
  have z1r_0 := fun (o0 : Obj) => (Ext.frozen (Ext.alloc w7 o0) (bxr.c 0 (.bool false) rfl) (bxr.f 0))
  have t1r_1 := fun (o0 : Obj) => ((Ext.alloc w7 o0).cell (bxr.c 1 (.slice none 0 0) rfl))
  have z1r_1 := fun (o0 : Obj) => (Ext.frozen (Ext.alloc w7 o0) (bxr.c 1 (.slice none 0 0) rfl) (bxr.f 1))
  have t1r_2 := fun (o0 : Obj) => ((Ext.alloc w7 o0).cell (bxr.c 2 (.slice none 0 0) rfl))
  have z1r_2 := fun (o0 : Obj) => (Ext.frozen (Ext.alloc w7 o0) (bxr.c 2 (.slice none 0 0) rfl) (bxr.f 2))
  have t1u_0 := fun (o0 : Obj) => ((Ext.alloc w7 o0).cell (bxu.c 0 (.bool su) rfl))
  have t1u_1 := fun (o0 : Obj) => ((Ext.alloc w7 o0).cell (bxu.c 1 (.slice Au Lu cu) rfl))
  go_wp2_with fail
  clear ka_0 ka_1 ka_2 kr_0 fr_0 kr_1 fr_1 kr_2 fr_2 ku_0 ku_1 t1a_0 t1a_1 t1a_2 t1r_0 z1r_0 t1r_1 z1r_1 t1r_2 z1r_2 t1u_0 t1u_1
  obtain ⟨w8, hw⟩ : ∃ z : World, z = (w7.alloc (.cells #[.bool false, .slice Av Lv cv] 25)) := ⟨_, rfl⟩
  rw [← hw]
  have x8 : Ext w7 w8 := by rw [hw]; exact (Ext.alloc _ _)
  replace bxa := bxa.ext x8
  replace bxr := bxr.ext x8
  replace bxu := bxu.ext x8
  have bxv : BK w8 (w7.heap.size) 25 #[.bool false, .slice Av Lv cv] := by rw [hw]; have h5 := (BK.new w7 #[.bool false, .slice Av Lv cv] 25); simpa only [World.size_alloc] using h5
  have szw8 : w8.heap.size = w7.heap.size + 1 := by rw [hw]; simp only [World.size_alloc]
  clear hw
  have u := HU.out.ext (show Ext _ w8 from (by with_reducible repeat' first | exact Ext.refl _ | assumption | apply Ext.alloc_r | apply Ext.drew_r | apply Ext.drewN_r | refine Ext.trans ?_ ‹Ext _ _›))
  have v := HV.out.ext (show Ext _ w8 from (by with_reducible repeat' first | exact Ext.refl _ | assumption | apply Ext.alloc_r | apply Ext.drew_r | apply Ext.drewN_r | refine Ext.trans ?_ ‹Ext _ _›))
  clear HU HV
  obtain ⟨w9, hw⟩ : ∃ z : World, z = (((w8.setCell ⟨w.heap.size + 1, 0, none⟩ (.bool su)).setCell ⟨w.heap.size + 1, 1, none⟩ (.slice Au Lu cu)).setCell ⟨w.heap.size + 1, 2, none⟩ (.slice Av Lv cv)) := ⟨_, rfl⟩
  rw [← hw]
  have kw9 : Kept w8 w9 := by rw [hw]; exact (Kept.set_ (Kept.set_ (Kept.set_ (Kept.refl _) bxr.isBox plain_rat) (IsBox.set_ bxr.isBox) plain_rat) (IsBox.set_ (IsBox.set_ bxr.isBox)) plain_rat)
  have nba : BK w9 (w.heap.size) 27 #[.bool sn, .slice An Ln cn, .slice Bn Mn dn] := by rw [hw]; exact (BK.far (BK.far (BK.far bxa (show w.heap.size ≠ w.heap.size + 1 by omega) 0 _) (show w.heap.size ≠ w.heap.size + 1 by omega) 1 _) (show w.heap.size ≠ w.heap.size + 1 by omega) 2 _)
  have nbr : BK w9 (w.heap.size + 1) 27 #[.bool su, .slice Au Lu cu, .slice Av Lv cv] := by rw [hw]; exact (BK.set (i := 2) (u := .slice Av Lv cv) (vs' := #[.bool su, .slice Au Lu cu, .slice Av Lv cv]) (BK.set (i := 1) (u := .slice Au Lu cu) (vs' := #[.bool su, .slice Au Lu cu, .slice none 0 0]) (BK.set (i := 0) (u := .bool su) (vs' := #[.bool su, .slice none 0 0, .slice none 0 0]) bxr rfl) rfl) rfl)
  have nbu : BK w9 (w5.heap.size) 25 #[.bool su, .slice Au Lu cu] := by rw [hw]; exact (BK.far (BK.far (BK.far bxu (show w5.heap.size ≠ w.heap.size + 1 by omega) 0 _) (show w5.heap.size ≠ w.heap.size + 1 by omega) 1 _) (show w5.heap.size ≠ w.heap.size + 1 by omega) 2 _)
  have nbv : BK w9 (w7.heap.size) 25 #[.bool false, .slice Av Lv cv] := by rw [hw]; exact (BK.far (BK.far (BK.far bxv (show w7.heap.size ≠ w.heap.size + 1 by omega) 0 _) (show w7.heap.size ≠ w.heap.size + 1 by omega) 1 _) (show w7.heap.size ≠ w.heap.size + 1 by omega) 2 _)
  have x9 : Ext w w9 := by rw [hw]; have hxp : Ext w w8 := (by with_reducible repeat' first | exact Ext.refl _ | assumption | apply Ext.alloc_r | apply Ext.drew_r | apply Ext.drewN_r | refine Ext.trans ?_ ‹Ext _ _›); exact (Ext.set_ (Ext.set_ (Ext.set_ hxp (show _ ≤ w.heap.size + 1 by omega)) (show _ ≤ w.heap.size + 1 by omega)) (show _ ≤ w.heap.size + 1 by omega))
  clear bxa
  clear bxr
  clear bxu
  clear bxv
  have bxa := nba
  clear nba
  have bxr := nbr
  clear nbr
  have bxu := nbu
  clear nbu
  have bxv := nbv
  clear nbv
  have szw9 : w9.heap.size = w8.heap.size := by rw [hw]; simp
  replace u := (u.ext (by with_reducible repeat' first | exact Ext.refl _ | assumption | apply Ext.alloc_r | apply Ext.drew_r | apply Ext.drewN_r | refine Ext.trans ?_ ‹Ext _ _›)).kept kw9
  replace v := (v.ext (by with_reducible repeat' first | exact Ext.refl _ | assumption | apply Ext.alloc_r | apply Ext.drew_r | apply Ext.drewN_r | refine Ext.trans ?_ ‹Ext _ _›)).kept kw9
  clear hw kw9
  have hnk : ((q1.den : Int) ^ k).natAbs = q1.den ^ k := by rw [← Int.natCast_pow, Int.natAbs_natCast]
  have hv2 := v.no
  have hv3 := v.len
  rw [hnk] at hv2 hv3
  have HRO : Hid (RO w9 w.heap.size su Au cu Lu Av cv Lv 41 (q1 ^ k)) := ⟨by rw [(pow_num q1 k).1]; exact u.mono (by omega), by rw [(pow_num q1 k).2]; exact Own.mono hv2 (by omega), by rw [(pow_num q1 k).2]; exact hv3, HDN.out.1, HDN.out.2⟩
  clear u v hv2 hv3 HDN
  have kr_0 := bxr.c 0 (.bool su) rfl
  have kr_1 := bxr.c 1 (.slice Au Lu cu) rfl
  have kr_2 := bxr.c 2 (.slice Av Lv cv) rfl
  refine bodyPost_ret (v := .tuple #[.agg #[.bool su, .slice Au Lu cu, .slice Av Lv cv], .int .i64 0]) (by simp [results, Tryz.results70, go_sem, kr_0, kr_1, kr_2]) rfl ?_
  exact ⟨_, _, _, _, _, _, _, rfl, HRO.out, x9⟩
theorem rpow_r {w : World} {s1 : Bool} {A1 B1 : Option Addr} {c1 d1 L1 M1 N1 : Nat} {q1 : Rat} {k : Nat} (h1 : RV w s1 A1 c1 L1 B1 d1 M1 N1 q1) (hN : N1 * k ≤ 40) (hN1 : N1 ≤ 40) (hk : k ≤ 40) :
    Calls Tryz.prog 70 #[Value.agg #[.bool s1, .slice A1 L1 c1, .slice B1 M1 d1], .int .i64 k] w (RetRE w 41 (q1 ^ k)) := by
  obtain ⟨x, y, hx, hy, hq, b1, b2⟩ := h1.ex
  have hone := h1.one
  have hnd : dl q1.num.natAbs ≤ N1 ∧ dl q1.den ≤ N1 := by
    rcases Nat.eq_zero_or_pos y with h | h
    · subst h
      rw [hq, Rat.mkRat_zero]
      exact ⟨Nat.le_trans (Nat.zero_le _) hone, by show dl 1 ≤ _; rw [dl_one]; exact hone⟩
    · rw [hq]
      exact ⟨Nat.le_trans (dl_mono (rat_num_le h)) b1, Nat.le_trans (dl_mono (rat_den_le h)) b2⟩
  refine rpow_g h1 (fun j hj => ?_) ?_ hN1 (by omega)
  · rcases Nat.eq_zero_or_pos j with h | h
    · subst h
      rw [Int.pow_zero, Nat.pow_zero, show dl (1 : Int).natAbs = dl 1 from rfl, dl_one]
      exact ⟨by omega, by omega⟩
    · have h5 := dl_pow q1.num j h
      have h6 := dl_pow (q1.den : Int) j h
      rw [← Int.natCast_pow, Int.natAbs_natCast, Int.natAbs_natCast] at h6
      have h7 : dl q1.num.natAbs * j ≤ N1 * k := Nat.mul_le_mul hnd.1 hj
      have h8 : dl q1.den * j ≤ N1 * k := Nat.mul_le_mul hnd.2 hj
      exact ⟨by omega, by omega⟩
  · have e1 : bl q1.num.natAbs ≤ 32 * N1 := Nat.le_trans bl_dl (by omega)
    have e2 : bl q1.den ≤ 32 * N1 := Nat.le_trans bl_dl (by omega)
    have e3 : max (bl q1.num.natAbs) (bl q1.den) * k ≤ 32 * N1 * k := Nat.mul_le_mul_right k (by omega)
    rw [Nat.mul_assoc] at e3
    omega
end Go.Proofs.YtehhkeenjlpikaaGreat
