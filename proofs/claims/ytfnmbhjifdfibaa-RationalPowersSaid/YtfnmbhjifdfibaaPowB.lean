/- Contracts of package rational: Pow. -/
import Derived.Test.YtfnmbhjifdfibaaPowA
import Derived.Deep.RegionHeldLaw
import Derived.Deep.LoopGhost
import Derived.Deep.QuietTactic
import Derived.BigQuiet
namespace Go.Proofs.Ytfnmbhjifdfibaa
open Go.RowKit
theorem bl_dl {n : Nat} : bl n ≤ 32 * dl n := by
  have h := bl_V (valid_digs B32_two n)
  rwa [show V (digs B32 n) = n from val_digs B32_two _] at h
theorem pow_num (q : Rat) (k : Nat) : (q ^ k).num = q.num ^ k ∧ (q ^ k).den = q.den ^ k := by rw [Rat.pow_def]; exact ⟨rfl, rfl⟩
set_option maxHeartbeats 4000000 in
set_option maxRecDepth 100000 in
theorem rpow_r {w : World} {s1 : Bool} {A1 B1 : Option Addr} {c1 d1 L1 M1 N1 : Nat} {q1 : Rat} {k : Nat} (h1 : RV w s1 A1 c1 L1 B1 d1 M1 N1 q1) (hN : N1 * k ≤ 40) (hN1 : N1 ≤ 40) (hk : k ≤ 40) :
    Calls Try.prog 49 #[Value.agg #[.bool s1, .slice A1 L1 c1, .slice B1 M1 d1], .int .i64 k] w (RetRE w 41 (q1 ^ k)) := by
  go_enter Try.func49, Try.ntmps49
  go_wp2_with fail
  obtain ⟨w0, hw0⟩ : ∃ z : World, z = ((w.alloc (.cells #[.bool s1, .slice A1 L1 c1, .slice B1 M1 d1] 27)).alloc (.cells #[.bool false, .slice none 0 0, .slice none 0 0] 27)) := ⟨_, rfl⟩
  rw [← hw0]
  have bxa : BK w0 (w.heap.size) 27 #[.bool s1, .slice A1 L1 c1, .slice B1 M1 d1] := by rw [hw0]; have h5 := (BK.ext (BK.new w #[.bool s1, .slice A1 L1 c1, .slice B1 M1 d1] 27) (Ext.alloc _ (.cells #[.bool false, .slice none 0 0, .slice none 0 0] 27))); simpa only [World.size_alloc] using h5
  have bxr : BK w0 (w.heap.size + 1) 27 #[.bool false, .slice none 0 0, .slice none 0 0] := by rw [hw0]; have h5 := (BK.new (w.alloc (.cells #[.bool s1, .slice A1 L1 c1, .slice B1 M1 d1] 27)) #[.bool false, .slice none 0 0, .slice none 0 0] 27); simpa only [World.size_alloc] using h5
  have hszw0 : w0.heap.size = w.heap.size + 1 + 1 := by rw [hw0]; simp only [World.size_alloc]
  have xw0 : Ext w w0 := by rw [hw0]; exact ((Ext.alloc _ _).trans (Ext.alloc _ _))
  clear hw0
  refine (rnormal_r (h1.ext (by repeat' (first | with_reducible exact Ext.refl _ | with_reducible assumption | with_reducible apply Ext.alloc_r | with_reducible apply Ext.drew_r | with_reducible apply Ext.drewN_r | with_reducible refine Ext.trans ?_ ‹Ext _ _›))) (by omega)).mono ?_
  rintro e w1 ⟨sn, An, cn, Ln, Bn, dn, Mn, rfl, n, x1⟩
  have szw1 : w0.heap.size ≤ w1.heap.size := x1.size
  replace bxa := bxa.ext x1
  replace bxr := bxr.ext x1
  have HN := Lib.hid n
  clear n h1
  have ka_0 := bxa.c 0 (.bool s1) rfl
  have fa_0 := bxa.f 0
  have ka_1 := bxa.c 1 (.slice A1 L1 c1) rfl
  have fa_1 := bxa.f 1
  have ka_2 := bxa.c 2 (.slice B1 M1 d1) rfl
  have fa_2 := bxa.f 2
  have kr_0 := bxr.c 0 (.bool false) rfl
  have kr_1 := bxr.c 1 (.slice none 0 0) rfl
  have kr_2 := bxr.c 2 (.slice none 0 0) rfl
  go_wp2_with fail
  clear ka_0 fa_0 ka_1 fa_1 ka_2 fa_2 kr_0 kr_1 kr_2
  have n := HN.out
  clear HN
  obtain ⟨w2, hw⟩ : ∃ z : World, z = (((w1.setCell ⟨w.heap.size, 0, none⟩ (.bool sn)).setCell ⟨w.heap.size, 1, none⟩ (.slice An Ln cn)).setCell ⟨w.heap.size, 2, none⟩ (.slice Bn Mn dn)) := ⟨_, rfl⟩
  rw [← hw]
  have kw2 : Kept w1 w2 := by rw [hw]; exact (Kept.set_ (Kept.set_ (Kept.set_ (Kept.refl _) bxa.isBox plain_rat) (IsBox.set_ bxa.isBox) plain_rat) (IsBox.set_ (IsBox.set_ bxa.isBox)) plain_rat)
  have nba : BK w2 (w.heap.size) 27 #[.bool sn, .slice An Ln cn, .slice Bn Mn dn] := by rw [hw]; exact (BK.set (i := 2) (u := .slice Bn Mn dn) (vs' := #[.bool sn, .slice An Ln cn, .slice Bn Mn dn]) (BK.set (i := 1) (u := .slice An Ln cn) (vs' := #[.bool sn, .slice An Ln cn, .slice B1 M1 d1]) (BK.set (i := 0) (u := .bool sn) (vs' := #[.bool sn, .slice A1 L1 c1, .slice B1 M1 d1]) bxa rfl) rfl) rfl)
  have nbr : BK w2 (w.heap.size + 1) 27 #[.bool false, .slice none 0 0, .slice none 0 0] := by rw [hw]; exact (BK.far (BK.far (BK.far bxr (show w.heap.size + 1 ≠ w.heap.size by omega) 0 _) (show w.heap.size + 1 ≠ w.heap.size by omega) 1 _) (show w.heap.size + 1 ≠ w.heap.size by omega) 2 _)
  have x2 : Ext w w2 := by rw [hw]; have hxp : Ext w w1 := (by repeat' (first | with_reducible exact Ext.refl _ | with_reducible assumption | with_reducible apply Ext.alloc_r | with_reducible apply Ext.drew_r | with_reducible apply Ext.drewN_r | with_reducible refine Ext.trans ?_ ‹Ext _ _›)); exact (Ext.set_ (Ext.set_ (Ext.set_ hxp (show _ ≤ w.heap.size by omega)) (show _ ≤ w.heap.size by omega)) (show _ ≤ w.heap.size by omega))
  clear bxa
  clear bxr
  have bxa := nba
  clear nba
  have bxr := nbr
  clear nbr
  have szw2 : w2.heap.size = w1.heap.size := by rw [hw]; simp
  replace n := (n.ext (by repeat' (first | with_reducible exact Ext.refl _ | with_reducible assumption | with_reducible apply Ext.alloc_r | with_reducible apply Ext.drew_r | with_reducible apply Ext.drewN_r | with_reducible refine Ext.trans ?_ ‹Ext _ _›))).kept kw2
  clear hw kw2
  have hdn := n.dn
  have hdd := n.dd
  have HA : Hid (ZV w2 sn An cn Ln q1.num) := n.num.zv
  have HD : Hid (NV w2 Bn dn Mn q1.den) := by rw [n.len]; exact n.den.nv
  have HB : Hid (ZV w2 false Bn dn Mn (q1.den : Int)) := ⟨by rw [Int.natAbs_natCast]; exact HD.out, (fun h => by cases h), fun _ => Int.natCast_nonneg _⟩
  clear n
  obtain ⟨P1, hP1⟩ : ∃ P : Nat, P = bl q1.num.natAbs := ⟨_, rfl⟩
  obtain ⟨P2, hP2⟩ : ∃ P : Nat, P = bl q1.den := ⟨_, rfl⟩
  have hq1 : P1 ≤ 32 * N1 := by rw [hP1]; exact Nat.le_trans bl_dl (by omega)
  have hq2 : P2 ≤ 32 * N1 := by rw [hP2]; exact Nat.le_trans bl_dl (by omega)
  have HP1 := Lib.hid hP1
  have HP2 := Lib.hid hP2
  clear hP1 hP2
  have HL1 : Hid (∀ w', Ext w2 w' → Calls Try.prog 85 #[.agg #[.bool sn, .slice An Ln cn]] w' fun e w'' => e = .returned (.int .i64 P1) ∧ Ext w' w'') := fun w' hx => by
    have h5 := zbitLen_z (HA.out.ext hx) (by omega)
    rw [← HP1.out] at h5
    exact h5
  have HL2 : Hid (∀ w', Ext w2 w' → Calls Try.prog 86 #[.slice Bn Mn dn] w' fun e w'' => e = .returned (.int .i64 P2) ∧ Ext w' w'') := fun w' hx => by
    have h5 := bitLen_v (HD.out.ext hx) (by omega)
    rw [← HP2.out] at h5
    refine h5.mono ?_
    rintro e w'' ⟨rfl, rfl⟩
    exact ⟨rfl, Ext.refl _⟩
  have ka_0 := bxa.c 0 (.bool sn) rfl
  have ka_1 := bxa.c 1 (.slice An Ln cn) rfl
  have ka_2 := bxa.c 2 (.slice Bn Mn dn) rfl
  have kr_0 := bxr.c 0 (.bool false) rfl
  have kr_1 := bxr.c 1 (.slice none 0 0) rfl
  have kr_2 := bxr.c 2 (.slice none 0 0) rfl
  go_wp2_with fail
  have HK : Hid (∀ w', Ext w2 w' → (w'.cell? ⟨w.heap.size, 0, none⟩ = some (.bool sn) ∧ w'.cell? ⟨w.heap.size, 1, none⟩ = some (.slice An Ln cn) ∧ w'.cell? ⟨w.heap.size, 2, none⟩ = some (.slice Bn Mn dn))) := fun w' hk => ⟨hk.cell ka_0, hk.cell ka_1, hk.cell ka_2⟩
  go_region_held3 (fun w' => w'.cell? ⟨w.heap.size, 0, none⟩ = some (.bool sn) ∧ w'.cell? ⟨w.heap.size, 1, none⟩ = some (.slice An Ln cn) ∧ w'.cell? ⟨w.heap.size, 2, none⟩ = some (.slice Bn Mn dn))
    ((with_reducible refine HK.out _ ?_; (repeat' (first | with_reducible exact Ext.refl _ | with_reducible assumption | with_reducible apply Ext.alloc_r | with_reducible apply Ext.drew_r | with_reducible apply Ext.drewN_r | with_reducible refine Ext.trans ?_ ‹Ext _ _›))))
    (first
      | (go_at_call 86; refine (HL2.out _ (by repeat' (first | with_reducible exact Ext.refl _ | with_reducible assumption | with_reducible apply Ext.alloc_r | with_reducible apply Ext.drew_r | with_reducible apply Ext.drewN_r | with_reducible refine Ext.trans ?_ ‹Ext _ _›))).mono ?_; rintro e w4 ⟨rfl, x4⟩)
      | (go_at_call 85; refine (HL1.out _ (by repeat' (first | with_reducible exact Ext.refl _ | with_reducible assumption | with_reducible apply Ext.alloc_r | with_reducible apply Ext.drew_r | with_reducible apply Ext.drewN_r | with_reducible refine Ext.trans ?_ ‹Ext _ _›))).mono ?_; rintro e w3 ⟨rfl, x3⟩))
  clear ka_0 ka_1 ka_2 kr_0 kr_1 kr_2
  clear HK
  have szw3 : w2.heap.size ≤ w3.heap.size := (show Ext w2 w3 from (by repeat' (first | with_reducible exact Ext.refl _ | with_reducible assumption | with_reducible apply Ext.alloc_r | with_reducible apply Ext.drew_r | with_reducible apply Ext.drewN_r | with_reducible refine Ext.trans ?_ ‹Ext _ _›))).size
  have xhw4 : Ext w2 w4 := (by repeat' (first | with_reducible exact Ext.refl _ | with_reducible assumption | with_reducible apply Ext.alloc_r | with_reducible apply Ext.drew_r | with_reducible apply Ext.drewN_r | with_reducible refine Ext.trans ?_ ‹Ext _ _›))
  have szw4 : w2.heap.size ≤ w4.heap.size := xhw4.size
  replace bxa := bxa.ext xhw4
  replace bxr := bxr.ext xhw4
  have hmx : max (P1 : Int) (P2 : Int) = ((max P1 P2 : Nat) : Int) := by omega
  have hLX : max P1 P2 ≤ 32 * N1 := by omega
  rw [hmx]
  clear hmx HL1 HL2
  generalize max P1 P2 = LX at *
  have hPk : LX * k ≤ 1280 := Nat.le_trans (Nat.mul_le_mul_right k hLX) (by rw [Nat.mul_assoc]; omega)
  have HMU : Hid (∀ w', Calls Try.prog 87 #[.int .u64 LX, .int .u64 k] w' fun e w'' => e = .returned (.tuple #[.int .u64 0, .int .u64 (LX * k : Nat)]) ∧ w'' = w') := fun w' => by
    have h5 := Try.bits_Mul64 LX k (by omega) (by omega) w'
    rw [Nat.div_eq_of_lt (by omega), Nat.mod_eq_of_lt (by omega)] at h5
    exact h5
  generalize LX * k = PP at *
  have hn1 : dl q1.num.natAbs * k ≤ 40 := Nat.le_trans (Nat.mul_le_mul_right k hdn) hN
  have hn2 : dl q1.den * k ≤ 40 := Nat.le_trans (Nat.mul_le_mul_right k hdd) hN
  have HI1 : Hid (∀ w', Ext w4 w' → Calls Try.prog 58 #[.agg #[.bool sn, .slice An Ln cn], .int .i64 k] w' (RetZOK w' (q1.num ^ k))) := fun w' hx => ipow_z (HA.out.ext (Ext.trans (show Ext _ w4 from (by repeat' (first | with_reducible exact Ext.refl _ | with_reducible assumption | with_reducible apply Ext.alloc_r | with_reducible apply Ext.drew_r | with_reducible apply Ext.drewN_r | with_reducible refine Ext.trans ?_ ‹Ext _ _›))) hx)) (by omega) hn1 (by omega)
  have HI2 : Hid (∀ w', Ext w4 w' → Calls Try.prog 58 #[.agg #[.bool false, .slice Bn Mn dn], .int .i64 k] w' (RetZOK w' ((q1.den : Int) ^ k))) := fun w' hx => ipow_z (HB.out.ext (Ext.trans (show Ext _ w4 from (by repeat' (first | with_reducible exact Ext.refl _ | with_reducible assumption | with_reducible apply Ext.alloc_r | with_reducible apply Ext.drew_r | with_reducible apply Ext.drewN_r | with_reducible refine Ext.trans ?_ ‹Ext _ _›))) hx)) (by rw [Int.natAbs_natCast]; omega) (by rw [Int.natAbs_natCast]; exact hn2) (by omega)
  have HDN : Hid (dl (q1 ^ k).num.natAbs ≤ 41 ∧ dl (q1 ^ k).den ≤ 41) := by
    rw [(pow_num q1 k).1, (pow_num q1 k).2]
    rcases Nat.eq_zero_or_pos k with h | h
    · subst h
      rw [Int.pow_zero, Nat.pow_zero, show dl (1 : Int).natAbs = dl 1 from rfl, dl_one]
      exact ⟨by omega, by omega⟩
    · have h5 := dl_pow q1.num k h
      have h6 := dl_pow (q1.den : Int) k h
      rw [← Int.natCast_pow, Int.natAbs_natCast, Int.natAbs_natCast] at h6
      exact ⟨by omega, by omega⟩
  have ka_0 := bxa.c 0 (.bool sn) rfl
  have ka_1 := bxa.c 1 (.slice An Ln cn) rfl
  have ka_2 := bxa.c 2 (.slice Bn Mn dn) rfl
  have kr_0 := bxr.c 0 (.bool false) rfl
  have kr_1 := bxr.c 1 (.slice none 0 0) rfl
  have kr_2 := bxr.c 2 (.slice none 0 0) rfl
  go_wp2_with fail
  clear ka_0 ka_1 ka_2 kr_0 kr_1 kr_2
  refine (HMU.out _).mono ?_
  rintro e w4 ⟨rfl, rfl⟩
  clear HMU
  have ka_0 := bxa.c 0 (.bool sn) rfl
  have ka_1 := bxa.c 1 (.slice An Ln cn) rfl
  have ka_2 := bxa.c 2 (.slice Bn Mn dn) rfl
  have kr_0 := bxr.c 0 (.bool false) rfl
  have kr_1 := bxr.c 1 (.slice none 0 0) rfl
  have kr_2 := bxr.c 2 (.slice none 0 0) rfl
  go_wp2_with fail
  clear ka_0 ka_1 ka_2 kr_0 kr_1 kr_2
  refine (HI1.out _ (by repeat' (first | with_reducible exact Ext.refl _ | with_reducible assumption | with_reducible apply Ext.alloc_r | with_reducible apply Ext.drew_r | with_reducible apply Ext.drewN_r | with_reducible refine Ext.trans ?_ ‹Ext _ _›))).mono ?_
  rintro e w5 ⟨su, Au, cu, Lu, rfl, u, x5⟩
  have szw5 : w4.heap.size ≤ w5.heap.size := x5.size
  replace bxa := bxa.ext x5
  replace bxr := bxr.ext x5
  have HU := Lib.hid u
  clear u HI1
  have ka_0 := bxa.c 0 (.bool sn) rfl
  have ka_1 := bxa.c 1 (.slice An Ln cn) rfl
  have ka_2 := bxa.c 2 (.slice Bn Mn dn) rfl
  have kr_0 := bxr.c 0 (.bool false) rfl
  have kr_1 := bxr.c 1 (.slice none 0 0) rfl
  have kr_2 := bxr.c 2 (.slice none 0 0) rfl
  have t1a_0 := fun (o0 : Obj) => ((Ext.alloc w5 o0).cell (bxa.c 0 (.bool sn) rfl))
  have t1a_1 := fun (o0 : Obj) => ((Ext.alloc w5 o0).cell (bxa.c 1 (.slice An Ln cn) rfl))
  have t1a_2 := fun (o0 : Obj) => ((Ext.alloc w5 o0).cell (bxa.c 2 (.slice Bn Mn dn) rfl))
  have t1r_0 := fun (o0 : Obj) => ((Ext.alloc w5 o0).cell (bxr.c 0 (.bool false) rfl))
  have t1r_1 := fun (o0 : Obj) => ((Ext.alloc w5 o0).cell (bxr.c 1 (.slice none 0 0) rfl))
  have t1r_2 := fun (o0 : Obj) => ((Ext.alloc w5 o0).cell (bxr.c 2 (.slice none 0 0) rfl))
  go_wp2_with fail
  clear ka_0 ka_1 ka_2 kr_0 kr_1 kr_2 t1a_0 t1a_1 t1a_2 t1r_0 t1r_1 t1r_2
  obtain ⟨w6, hw⟩ : ∃ z : World, z = (w5.alloc (.cells #[.bool su, .slice Au Lu cu] 25)) := ⟨_, rfl⟩
  rw [← hw]
  have x6 : Ext w5 w6 := by rw [hw]; exact (Ext.alloc _ _)
  replace bxa := bxa.ext x6
  replace bxr := bxr.ext x6
  have bxu : BK w6 (w5.heap.size) 25 #[.bool su, .slice Au Lu cu] := by rw [hw]; have h5 := (BK.new w5 #[.bool su, .slice Au Lu cu] 25); simpa only [World.size_alloc] using h5
  have szw6 : w6.heap.size = w5.heap.size + 1 := by rw [hw]; simp only [World.size_alloc]
  clear hw
  refine (HI2.out _ (by repeat' (first | with_reducible exact Ext.refl _ | with_reducible assumption | with_reducible apply Ext.alloc_r | with_reducible apply Ext.drew_r | with_reducible apply Ext.drewN_r | with_reducible refine Ext.trans ?_ ‹Ext _ _›))).mono ?_
  rintro e w7 ⟨sv, Av, cv, Lv, rfl, v, x7⟩
  have szw7 : w6.heap.size ≤ w7.heap.size := x7.size
  replace bxa := bxa.ext x7
  replace bxr := bxr.ext x7
  replace bxu := bxu.ext x7
  have HV := Lib.hid v
  clear v HI2 HA HB HD
  obtain rfl : sv = false := by rw [HV.out.sign, ← Int.natCast_pow]; exact decide_eq_false (by omega)
  have ka_0 := bxa.c 0 (.bool sn) rfl
  have ka_1 := bxa.c 1 (.slice An Ln cn) rfl
  have ka_2 := bxa.c 2 (.slice Bn Mn dn) rfl
  have kr_0 := bxr.c 0 (.bool false) rfl
  have fr_0 := bxr.f 0
  have kr_1 := bxr.c 1 (.slice none 0 0) rfl
  have fr_1 := bxr.f 1
  have kr_2 := bxr.c 2 (.slice none 0 0) rfl
  have fr_2 := bxr.f 2
  have ku_0 := bxu.c 0 (.bool su) rfl
  have ku_1 := bxu.c 1 (.slice Au Lu cu) rfl
  have t1a_0 := fun (o0 : Obj) => ((Ext.alloc w7 o0).cell (bxa.c 0 (.bool sn) rfl))
  have t1a_1 := fun (o0 : Obj) => ((Ext.alloc w7 o0).cell (bxa.c 1 (.slice An Ln cn) rfl))
  have t1a_2 := fun (o0 : Obj) => ((Ext.alloc w7 o0).cell (bxa.c 2 (.slice Bn Mn dn) rfl))
  have t1r_0 := fun (o0 : Obj) => ((Ext.alloc w7 o0).cell (bxr.c 0 (.bool false) rfl))
  have z1r_0 := fun (o0 : Obj) => (Ext.frozen (Ext.alloc w7 o0) (bxr.c 0 (.bool false) rfl) (bxr.f 0))
  have t1r_1 := fun (o0 : Obj) => ((Ext.alloc w7 o0).cell (bxr.c 1 (.slice none 0 0) rfl))
  have z1r_1 := fun (o0 : Obj) => (Ext.frozen (Ext.alloc w7 o0) (bxr.c 1 (.slice none 0 0) rfl) (bxr.f 1))
  have t1r_2 := fun (o0 : Obj) => ((Ext.alloc w7 o0).cell (bxr.c 2 (.slice none 0 0) rfl))
  have z1r_2 := fun (o0 : Obj) => (Ext.frozen (Ext.alloc w7 o0) (bxr.c 2 (.slice none 0 0) rfl) (bxr.f 2))
  have t1u_0 := fun (o0 : Obj) => ((Ext.alloc w7 o0).cell (bxu.c 0 (.bool su) rfl))
  have t1u_1 := fun (o0 : Obj) => ((Ext.alloc w7 o0).cell (bxu.c 1 (.slice Au Lu cu) rfl))
  go_wp2_with fail
  clear ka_0 ka_1 ka_2 kr_0 fr_0 kr_1 fr_1 kr_2 fr_2 ku_0 ku_1 t1a_0 t1a_1 t1a_2 t1r_0 z1r_0 t1r_1 z1r_1 t1r_2 z1r_2 t1u_0 t1u_1
  obtain ⟨w8, hw⟩ : ∃ z : World, z = (w7.alloc (.cells #[.bool false, .slice Av Lv cv] 25)) := ⟨_, rfl⟩
  rw [← hw]
  have x8 : Ext w7 w8 := by rw [hw]; exact (Ext.alloc _ _)
  replace bxa := bxa.ext x8
  replace bxr := bxr.ext x8
  replace bxu := bxu.ext x8
  have bxv : BK w8 (w7.heap.size) 25 #[.bool false, .slice Av Lv cv] := by rw [hw]; have h5 := (BK.new w7 #[.bool false, .slice Av Lv cv] 25); simpa only [World.size_alloc] using h5
  have szw8 : w8.heap.size = w7.heap.size + 1 := by rw [hw]; simp only [World.size_alloc]
  clear hw
  have u := HU.out.ext (show Ext _ w8 from (by repeat' (first | with_reducible exact Ext.refl _ | with_reducible assumption | with_reducible apply Ext.alloc_r | with_reducible apply Ext.drew_r | with_reducible apply Ext.drewN_r | with_reducible refine Ext.trans ?_ ‹Ext _ _›)))
  have v := HV.out.ext (show Ext _ w8 from (by repeat' (first | with_reducible exact Ext.refl _ | with_reducible assumption | with_reducible apply Ext.alloc_r | with_reducible apply Ext.drew_r | with_reducible apply Ext.drewN_r | with_reducible refine Ext.trans ?_ ‹Ext _ _›)))
  clear HU HV
  obtain ⟨w9, hw⟩ : ∃ z : World, z = (((w8.setCell ⟨w.heap.size + 1, 0, none⟩ (.bool su)).setCell ⟨w.heap.size + 1, 1, none⟩ (.slice Au Lu cu)).setCell ⟨w.heap.size + 1, 2, none⟩ (.slice Av Lv cv)) := ⟨_, rfl⟩
  rw [← hw]
  have kw9 : Kept w8 w9 := by rw [hw]; exact (Kept.set_ (Kept.set_ (Kept.set_ (Kept.refl _) bxr.isBox plain_rat) (IsBox.set_ bxr.isBox) plain_rat) (IsBox.set_ (IsBox.set_ bxr.isBox)) plain_rat)
  have nba : BK w9 (w.heap.size) 27 #[.bool sn, .slice An Ln cn, .slice Bn Mn dn] := by rw [hw]; exact (BK.far (BK.far (BK.far bxa (show w.heap.size ≠ w.heap.size + 1 by omega) 0 _) (show w.heap.size ≠ w.heap.size + 1 by omega) 1 _) (show w.heap.size ≠ w.heap.size + 1 by omega) 2 _)
  have nbr : BK w9 (w.heap.size + 1) 27 #[.bool su, .slice Au Lu cu, .slice Av Lv cv] := by rw [hw]; exact (BK.set (i := 2) (u := .slice Av Lv cv) (vs' := #[.bool su, .slice Au Lu cu, .slice Av Lv cv]) (BK.set (i := 1) (u := .slice Au Lu cu) (vs' := #[.bool su, .slice Au Lu cu, .slice none 0 0]) (BK.set (i := 0) (u := .bool su) (vs' := #[.bool su, .slice none 0 0, .slice none 0 0]) bxr rfl) rfl) rfl)
  have nbu : BK w9 (w5.heap.size) 25 #[.bool su, .slice Au Lu cu] := by rw [hw]; exact (BK.far (BK.far (BK.far bxu (show w5.heap.size ≠ w.heap.size + 1 by omega) 0 _) (show w5.heap.size ≠ w.heap.size + 1 by omega) 1 _) (show w5.heap.size ≠ w.heap.size + 1 by omega) 2 _)
  have nbv : BK w9 (w7.heap.size) 25 #[.bool false, .slice Av Lv cv] := by rw [hw]; exact (BK.far (BK.far (BK.far bxv (show w7.heap.size ≠ w.heap.size + 1 by omega) 0 _) (show w7.heap.size ≠ w.heap.size + 1 by omega) 1 _) (show w7.heap.size ≠ w.heap.size + 1 by omega) 2 _)
  have x9 : Ext w w9 := by rw [hw]; have hxp : Ext w w8 := (by repeat' (first | with_reducible exact Ext.refl _ | with_reducible assumption | with_reducible apply Ext.alloc_r | with_reducible apply Ext.drew_r | with_reducible apply Ext.drewN_r | with_reducible refine Ext.trans ?_ ‹Ext _ _›)); exact (Ext.set_ (Ext.set_ (Ext.set_ hxp (show _ ≤ w.heap.size + 1 by omega)) (show _ ≤ w.heap.size + 1 by omega)) (show _ ≤ w.heap.size + 1 by omega))
  clear bxa
  clear bxr
  clear bxu
  clear bxv
  have bxa := nba
  clear nba
  have bxr := nbr
  clear nbr
  have bxu := nbu
  clear nbu
  have bxv := nbv
  clear nbv
  have szw9 : w9.heap.size = w8.heap.size := by rw [hw]; simp
  replace u := (u.ext (by repeat' (first | with_reducible exact Ext.refl _ | with_reducible assumption | with_reducible apply Ext.alloc_r | with_reducible apply Ext.drew_r | with_reducible apply Ext.drewN_r | with_reducible refine Ext.trans ?_ ‹Ext _ _›))).kept kw9
  replace v := (v.ext (by repeat' (first | with_reducible exact Ext.refl _ | with_reducible assumption | with_reducible apply Ext.alloc_r | with_reducible apply Ext.drew_r | with_reducible apply Ext.drewN_r | with_reducible refine Ext.trans ?_ ‹Ext _ _›))).kept kw9
  clear hw kw9
  have hnk : ((q1.den : Int) ^ k).natAbs = q1.den ^ k := by rw [← Int.natCast_pow, Int.natAbs_natCast]
  have hv2 := v.no
  have hv3 := v.len
  rw [hnk] at hv2 hv3
  have HRO : Hid (RO w9 w.heap.size su Au cu Lu Av cv Lv 41 (q1 ^ k)) := ⟨by rw [(pow_num q1 k).1]; exact u.mono (by omega), by rw [(pow_num q1 k).2]; exact Own.mono hv2 (by omega), by rw [(pow_num q1 k).2]; exact hv3, HDN.out.1, HDN.out.2⟩
  clear u v hv2 hv3 HDN
  have kr_0 := bxr.c 0 (.bool su) rfl
  have kr_1 := bxr.c 1 (.slice Au Lu cu) rfl
  have kr_2 := bxr.c 2 (.slice Av Lv cv) rfl
  refine bodyPost_ret (v := .tuple #[.agg #[.bool su, .slice Au Lu cu, .slice Av Lv cv], .int .i64 0]) (by simp [results, Try.results49, go_sem, kr_0, kr_1, kr_2]) rfl ?_
  exact ⟨_, _, _, _, _, _, _, rfl, HRO.out, x9⟩
theorem rsign_is0 {w : World} {s1 : Bool} {A1 B1 : Option Addr} {c1 d1 L1 M1 N1 : Nat} {q1 : Rat} {k : Int} (h1 : RV w s1 A1 c1 L1 B1 d1 M1 N1 q1) (e : q1.num.sign = k) :
    Calls Try.prog 23 #[.agg #[.bool s1, .slice A1 L1 c1, .slice B1 M1 d1]] w fun e w' => e = .returned (.int .i64 k) ∧ Ext w w' := by
  subst e
  exact rsign_r h1
theorem num_sign00 (q : Rat) : q = 0 ↔ q.num.sign = 0 := by
  rw [Int.sign_eq_zero_iff_zero]
  constructor
  · rintro rfl; rfl
  · intro h
    have := Rat.mkRat_self q
    rw [h, Rat.zero_mkRat] at this
    exact this.symm
theorem rat_inv_pow (q : Rat) : ∀ k : Nat, (q ^ k)⁻¹ = q⁻¹ ^ k
  | 0 => by
    rw [Rat.pow_zero, Rat.pow_zero]
    exact Rat.inv_eq_of_mul_eq_one (Rat.mul_one 1)
  | k + 1 => by rw [Rat.pow_succ, Rat.inv_mul_rev, rat_inv_pow q k, Rat.mul_comm, ← Rat.pow_succ]
theorem pow_inv_num (q : Rat) (k : Nat) (hn : q.num ≠ 0) : (q⁻¹ ^ k).num = (q.num ^ k).sign * (q.den : Int) ^ k ∧ (q⁻¹ ^ k).den = (q.num ^ k).natAbs := by
  rw [← rat_inv_pow, Rat.num_inv, Rat.den_inv, (pow_num q k).1, (pow_num q k).2, if_neg (Int.pow_ne_zero hn), Int.natCast_pow]
  exact ⟨rfl, rfl⟩
set_option maxHeartbeats 4000000 in
set_option maxRecDepth 100000 in
theorem rpow_neg0 {w : World} {s1 : Bool} {A1 B1 : Option Addr} {c1 d1 L1 M1 N1 : Nat} {q1 : Rat} {z : Int} (h1 : RV w s1 A1 c1 L1 B1 d1 M1 N1 q1) (hq : q1 = 0) (hz : -1000 ≤ z ∧ z < 0) (hN1 : N1 ≤ 40) :
    Calls Try.prog 49 #[Value.agg #[.bool s1, .slice A1 L1 c1, .slice B1 M1 d1], .int .i64 z] w fun e w' => e = .returned (.tuple #[.agg #[.bool false, .slice none 0 0, .slice none 0 0], .int .i64 2]) ∧ Ext w w' := by
  have hz2 := hz.2
  have hzd : decide (z < 0) = true := decide_eq_true hz.2
  go_enter Try.func49, Try.ntmps49
  go_wp2_with fail
  obtain ⟨w0, hw0⟩ : ∃ z : World, z = ((w.alloc (.cells #[.bool s1, .slice A1 L1 c1, .slice B1 M1 d1] 27)).alloc (.cells #[.bool false, .slice none 0 0, .slice none 0 0] 27)) := ⟨_, rfl⟩
  rw [← hw0]
  have bxa : BK w0 (w.heap.size) 27 #[.bool s1, .slice A1 L1 c1, .slice B1 M1 d1] := by rw [hw0]; have h5 := (BK.ext (BK.new w #[.bool s1, .slice A1 L1 c1, .slice B1 M1 d1] 27) (Ext.alloc _ (.cells #[.bool false, .slice none 0 0, .slice none 0 0] 27))); simpa only [World.size_alloc] using h5
  have bxr : BK w0 (w.heap.size + 1) 27 #[.bool false, .slice none 0 0, .slice none 0 0] := by rw [hw0]; have h5 := (BK.new (w.alloc (.cells #[.bool s1, .slice A1 L1 c1, .slice B1 M1 d1] 27)) #[.bool false, .slice none 0 0, .slice none 0 0] 27); simpa only [World.size_alloc] using h5
  have hszw0 : w0.heap.size = w.heap.size + 1 + 1 := by rw [hw0]; simp only [World.size_alloc]
  have xw0 : Ext w w0 := by rw [hw0]; exact ((Ext.alloc _ _).trans (Ext.alloc _ _))
  clear hw0
  refine (rnormal_r (h1.ext (by repeat' (first | with_reducible exact Ext.refl _ | with_reducible assumption | with_reducible apply Ext.alloc_r | with_reducible apply Ext.drew_r | with_reducible apply Ext.drewN_r | with_reducible refine Ext.trans ?_ ‹Ext _ _›))) (by omega)).mono ?_
  rintro e w1 ⟨sn, An, cn, Ln, Bn, dn, Mn, rfl, n, x1⟩
  have szw1 : w0.heap.size ≤ w1.heap.size := x1.size
  replace bxa := bxa.ext x1
  replace bxr := bxr.ext x1
  have HN := Lib.hid n
  clear n h1
  have ka_0 := bxa.c 0 (.bool s1) rfl
  have fa_0 := bxa.f 0
  have ka_1 := bxa.c 1 (.slice A1 L1 c1) rfl
  have fa_1 := bxa.f 1
  have ka_2 := bxa.c 2 (.slice B1 M1 d1) rfl
  have fa_2 := bxa.f 2
  have kr_0 := bxr.c 0 (.bool false) rfl
  have kr_1 := bxr.c 1 (.slice none 0 0) rfl
  have kr_2 := bxr.c 2 (.slice none 0 0) rfl
  go_wp2_with fail
  clear ka_0 fa_0 ka_1 fa_1 ka_2 fa_2 kr_0 kr_1 kr_2
  have n := HN.out
  clear HN
  obtain ⟨w2, hw⟩ : ∃ z : World, z = (((w1.setCell ⟨w.heap.size, 0, none⟩ (.bool sn)).setCell ⟨w.heap.size, 1, none⟩ (.slice An Ln cn)).setCell ⟨w.heap.size, 2, none⟩ (.slice Bn Mn dn)) := ⟨_, rfl⟩
  rw [← hw]
  have kw2 : Kept w1 w2 := by rw [hw]; exact (Kept.set_ (Kept.set_ (Kept.set_ (Kept.refl _) bxa.isBox plain_rat) (IsBox.set_ bxa.isBox) plain_rat) (IsBox.set_ (IsBox.set_ bxa.isBox)) plain_rat)
  have nba : BK w2 (w.heap.size) 27 #[.bool sn, .slice An Ln cn, .slice Bn Mn dn] := by rw [hw]; exact (BK.set (i := 2) (u := .slice Bn Mn dn) (vs' := #[.bool sn, .slice An Ln cn, .slice Bn Mn dn]) (BK.set (i := 1) (u := .slice An Ln cn) (vs' := #[.bool sn, .slice An Ln cn, .slice B1 M1 d1]) (BK.set (i := 0) (u := .bool sn) (vs' := #[.bool sn, .slice A1 L1 c1, .slice B1 M1 d1]) bxa rfl) rfl) rfl)
  have nbr : BK w2 (w.heap.size + 1) 27 #[.bool false, .slice none 0 0, .slice none 0 0] := by rw [hw]; exact (BK.far (BK.far (BK.far bxr (show w.heap.size + 1 ≠ w.heap.size by omega) 0 _) (show w.heap.size + 1 ≠ w.heap.size by omega) 1 _) (show w.heap.size + 1 ≠ w.heap.size by omega) 2 _)
  have x2 : Ext w w2 := by rw [hw]; have hxp : Ext w w1 := (by repeat' (first | with_reducible exact Ext.refl _ | with_reducible assumption | with_reducible apply Ext.alloc_r | with_reducible apply Ext.drew_r | with_reducible apply Ext.drewN_r | with_reducible refine Ext.trans ?_ ‹Ext _ _›)); exact (Ext.set_ (Ext.set_ (Ext.set_ hxp (show _ ≤ w.heap.size by omega)) (show _ ≤ w.heap.size by omega)) (show _ ≤ w.heap.size by omega))
  clear bxa
  clear bxr
  have bxa := nba
  clear nba
  have bxr := nbr
  clear nbr
  have szw2 : w2.heap.size = w1.heap.size := by rw [hw]; simp
  replace n := (n.ext (by repeat' (first | with_reducible exact Ext.refl _ | with_reducible assumption | with_reducible apply Ext.alloc_r | with_reducible apply Ext.drew_r | with_reducible apply Ext.drewN_r | with_reducible refine Ext.trans ?_ ‹Ext _ _›))).kept kw2
  clear hw kw2
  have HN := Lib.hid n
  clear n
  have HQ : Hid (q1.num.sign = 0) := by show _ = _; rw [hq]; rfl
  clear hq
  have ka_0 := bxa.c 0 (.bool sn) rfl
  have ka_1 := bxa.c 1 (.slice An Ln cn) rfl
  have ka_2 := bxa.c 2 (.slice Bn Mn dn) rfl
  have kr_0 := bxr.c 0 (.bool false) rfl
  have kr_1 := bxr.c 1 (.slice none 0 0) rfl
  have kr_2 := bxr.c 2 (.slice none 0 0) rfl
  go_wp2_with fail
  clear ka_0 ka_1 ka_2 kr_0 kr_1 kr_2
  refine (rsign_is0 (HN.out.rv.ext (by repeat' (first | with_reducible exact Ext.refl _ | with_reducible assumption | with_reducible apply Ext.alloc_r | with_reducible apply Ext.drew_r | with_reducible apply Ext.drewN_r | with_reducible refine Ext.trans ?_ ‹Ext _ _›))) HQ.out).mono ?_
  rintro e w3 ⟨rfl, x3⟩
  have szw3 : w2.heap.size ≤ w3.heap.size := x3.size
  replace bxa := bxa.ext x3
  replace bxr := bxr.ext x3
  have x0w : Ext w w3 := (by repeat' (first | with_reducible exact Ext.refl _ | with_reducible assumption | with_reducible apply Ext.alloc_r | with_reducible apply Ext.drew_r | with_reducible apply Ext.drewN_r | with_reducible refine Ext.trans ?_ ‹Ext _ _›))
  clear HN HQ
  have ka_0 := bxa.c 0 (.bool sn) rfl
  have ka_1 := bxa.c 1 (.slice An Ln cn) rfl
  have ka_2 := bxa.c 2 (.slice Bn Mn dn) rfl
  have kr_0 := bxr.c 0 (.bool false) rfl
  have fr_0 := bxr.f 0
  have kr_1 := bxr.c 1 (.slice none 0 0) rfl
  have fr_1 := bxr.f 1
  have kr_2 := bxr.c 2 (.slice none 0 0) rfl
  have fr_2 := bxr.f 2
  go_wp2_with fail
  clear ka_0 ka_1 ka_2 kr_0 fr_0 kr_1 fr_1 kr_2 fr_2
  obtain ⟨w4, hw⟩ : ∃ z : World, z = (((w3.setCell ⟨w.heap.size + 1, 0, none⟩ (.bool false)).setCell ⟨w.heap.size + 1, 1, none⟩ (.slice none 0 0)).setCell ⟨w.heap.size + 1, 2, none⟩ (.slice none 0 0)) := ⟨_, rfl⟩
  rw [← hw]
  have kw4 : Kept w3 w4 := by rw [hw]; exact (Kept.set_ (Kept.set_ (Kept.set_ (Kept.refl _) bxr.isBox plain_rat) (IsBox.set_ bxr.isBox) plain_rat) (IsBox.set_ (IsBox.set_ bxr.isBox)) plain_rat)
  have nba : BK w4 (w.heap.size) 27 #[.bool sn, .slice An Ln cn, .slice Bn Mn dn] := by rw [hw]; exact (BK.far (BK.far (BK.far bxa (show w.heap.size ≠ w.heap.size + 1 by omega) 0 _) (show w.heap.size ≠ w.heap.size + 1 by omega) 1 _) (show w.heap.size ≠ w.heap.size + 1 by omega) 2 _)
  have nbr : BK w4 (w.heap.size + 1) 27 #[.bool false, .slice none 0 0, .slice none 0 0] := by rw [hw]; exact (BK.set (i := 2) (u := .slice none 0 0) (vs' := #[.bool false, .slice none 0 0, .slice none 0 0]) (BK.set (i := 1) (u := .slice none 0 0) (vs' := #[.bool false, .slice none 0 0, .slice none 0 0]) (BK.set (i := 0) (u := .bool false) (vs' := #[.bool false, .slice none 0 0, .slice none 0 0]) bxr rfl) rfl) rfl)
  have x4 : Ext w w4 := by rw [hw]; have hxp : Ext w w3 := (by repeat' (first | with_reducible exact Ext.refl _ | with_reducible assumption | with_reducible apply Ext.alloc_r | with_reducible apply Ext.drew_r | with_reducible apply Ext.drewN_r | with_reducible refine Ext.trans ?_ ‹Ext _ _›)); exact (Ext.set_ (Ext.set_ (Ext.set_ hxp (show _ ≤ w.heap.size + 1 by omega)) (show _ ≤ w.heap.size + 1 by omega)) (show _ ≤ w.heap.size + 1 by omega))
  clear bxa
  clear bxr
  have bxa := nba
  clear nba
  have bxr := nbr
  clear nbr
  have szw4 : w4.heap.size = w3.heap.size := by rw [hw]; simp
  clear hw kw4
  have kr_0 := bxr.c 0 (.bool false) rfl
  have kr_1 := bxr.c 1 (.slice none 0 0) rfl
  have kr_2 := bxr.c 2 (.slice none 0 0) rfl
  refine bodyPost_ret (v := .tuple #[.agg #[.bool false, .slice none 0 0, .slice none 0 0], .int .i64 2]) (by simp [results, Try.results49, go_sem, kr_0, kr_1, kr_2]) rfl ?_
  exact ⟨rfl, x4⟩
set_option maxHeartbeats 4000000 in
set_option maxRecDepth 100000 in
theorem rpow_neg {w : World} {s1 : Bool} {A1 B1 : Option Addr} {c1 d1 L1 M1 N1 : Nat} {q1 : Rat} {k : Nat} {z : Int} (h1 : RV w s1 A1 c1 L1 B1 d1 M1 N1 q1) (hq : q1 ≠ 0) (hzk : z = -(k : Int)) (hk1 : 1 ≤ k) (hN : N1 * k ≤ 40) (hN1 : N1 ≤ 40) (hk : k ≤ 40) :
    Calls Try.prog 49 #[Value.agg #[.bool s1, .slice A1 L1 c1, .slice B1 M1 d1], .int .i64 z] w (RetRE w 41 (q1⁻¹ ^ k)) := by
  have hz2 : z < 0 := by omega
  have hzd : decide (z < 0) = true := decide_eq_true hz2
  obtain ⟨S, hS⟩ : ∃ S : Int, q1.num.sign = S := ⟨_, rfl⟩
  have hS0 : (S == 0) = false := by rw [beq_eq_false_iff_ne, ← hS]; exact fun h => hq ((num_sign00 q1).2 h)
  have HS := Lib.hid hS
  clear hS
  go_enter Try.func49, Try.ntmps49
  go_wp2_with fail
  obtain ⟨w0, hw0⟩ : ∃ z : World, z = ((w.alloc (.cells #[.bool s1, .slice A1 L1 c1, .slice B1 M1 d1] 27)).alloc (.cells #[.bool false, .slice none 0 0, .slice none 0 0] 27)) := ⟨_, rfl⟩
  rw [← hw0]
  have bxa : BK w0 (w.heap.size) 27 #[.bool s1, .slice A1 L1 c1, .slice B1 M1 d1] := by rw [hw0]; have h5 := (BK.ext (BK.new w #[.bool s1, .slice A1 L1 c1, .slice B1 M1 d1] 27) (Ext.alloc _ (.cells #[.bool false, .slice none 0 0, .slice none 0 0] 27))); simpa only [World.size_alloc] using h5
  have bxr : BK w0 (w.heap.size + 1) 27 #[.bool false, .slice none 0 0, .slice none 0 0] := by rw [hw0]; have h5 := (BK.new (w.alloc (.cells #[.bool s1, .slice A1 L1 c1, .slice B1 M1 d1] 27)) #[.bool false, .slice none 0 0, .slice none 0 0] 27); simpa only [World.size_alloc] using h5
  have hszw0 : w0.heap.size = w.heap.size + 1 + 1 := by rw [hw0]; simp only [World.size_alloc]
  have xw0 : Ext w w0 := by rw [hw0]; exact ((Ext.alloc _ _).trans (Ext.alloc _ _))
  clear hw0
  refine (rnormal_r (h1.ext (by repeat' (first | with_reducible exact Ext.refl _ | with_reducible assumption | with_reducible apply Ext.alloc_r | with_reducible apply Ext.drew_r | with_reducible apply Ext.drewN_r | with_reducible refine Ext.trans ?_ ‹Ext _ _›))) (by omega)).mono ?_
  rintro e w1 ⟨sn, An, cn, Ln, Bn, dn, Mn, rfl, n, x1⟩
  have szw1 : w0.heap.size ≤ w1.heap.size := x1.size
  replace bxa := bxa.ext x1
  replace bxr := bxr.ext x1
  have HN := Lib.hid n
  clear n h1
  have ka_0 := bxa.c 0 (.bool s1) rfl
  have fa_0 := bxa.f 0
  have ka_1 := bxa.c 1 (.slice A1 L1 c1) rfl
  have fa_1 := bxa.f 1
  have ka_2 := bxa.c 2 (.slice B1 M1 d1) rfl
  have fa_2 := bxa.f 2
  have kr_0 := bxr.c 0 (.bool false) rfl
  have kr_1 := bxr.c 1 (.slice none 0 0) rfl
  have kr_2 := bxr.c 2 (.slice none 0 0) rfl
  go_wp2_with fail
  clear ka_0 fa_0 ka_1 fa_1 ka_2 fa_2 kr_0 kr_1 kr_2
  have n := HN.out
  clear HN
  obtain ⟨w2, hw⟩ : ∃ z : World, z = (((w1.setCell ⟨w.heap.size, 0, none⟩ (.bool sn)).setCell ⟨w.heap.size, 1, none⟩ (.slice An Ln cn)).setCell ⟨w.heap.size, 2, none⟩ (.slice Bn Mn dn)) := ⟨_, rfl⟩
  rw [← hw]
  have kw2 : Kept w1 w2 := by rw [hw]; exact (Kept.set_ (Kept.set_ (Kept.set_ (Kept.refl _) bxa.isBox plain_rat) (IsBox.set_ bxa.isBox) plain_rat) (IsBox.set_ (IsBox.set_ bxa.isBox)) plain_rat)
  have nba : BK w2 (w.heap.size) 27 #[.bool sn, .slice An Ln cn, .slice Bn Mn dn] := by rw [hw]; exact (BK.set (i := 2) (u := .slice Bn Mn dn) (vs' := #[.bool sn, .slice An Ln cn, .slice Bn Mn dn]) (BK.set (i := 1) (u := .slice An Ln cn) (vs' := #[.bool sn, .slice An Ln cn, .slice B1 M1 d1]) (BK.set (i := 0) (u := .bool sn) (vs' := #[.bool sn, .slice A1 L1 c1, .slice B1 M1 d1]) bxa rfl) rfl) rfl)
  have nbr : BK w2 (w.heap.size + 1) 27 #[.bool false, .slice none 0 0, .slice none 0 0] := by rw [hw]; exact (BK.far (BK.far (BK.far bxr (show w.heap.size + 1 ≠ w.heap.size by omega) 0 _) (show w.heap.size + 1 ≠ w.heap.size by omega) 1 _) (show w.heap.size + 1 ≠ w.heap.size by omega) 2 _)
  have x2 : Ext w w2 := by rw [hw]; have hxp : Ext w w1 := (by repeat' (first | with_reducible exact Ext.refl _ | with_reducible assumption | with_reducible apply Ext.alloc_r | with_reducible apply Ext.drew_r | with_reducible apply Ext.drewN_r | with_reducible refine Ext.trans ?_ ‹Ext _ _›)); exact (Ext.set_ (Ext.set_ (Ext.set_ hxp (show _ ≤ w.heap.size by omega)) (show _ ≤ w.heap.size by omega)) (show _ ≤ w.heap.size by omega))
  clear bxa
  clear bxr
  have bxa := nba
  clear nba
  have bxr := nbr
  clear nbr
  have szw2 : w2.heap.size = w1.heap.size := by rw [hw]; simp
  replace n := (n.ext (by repeat' (first | with_reducible exact Ext.refl _ | with_reducible assumption | with_reducible apply Ext.alloc_r | with_reducible apply Ext.drew_r | with_reducible apply Ext.drewN_r | with_reducible refine Ext.trans ?_ ‹Ext _ _›))).kept kw2
  clear hw kw2
  have HN := Lib.hid n
  clear n
  have ka_0 := bxa.c 0 (.bool sn) rfl
  have ka_1 := bxa.c 1 (.slice An Ln cn) rfl
  have ka_2 := bxa.c 2 (.slice Bn Mn dn) rfl
  have kr_0 := bxr.c 0 (.bool false) rfl
  have kr_1 := bxr.c 1 (.slice none 0 0) rfl
  have kr_2 := bxr.c 2 (.slice none 0 0) rfl
  go_wp2_with fail
  clear ka_0 ka_1 ka_2 kr_0 kr_1 kr_2
  refine (rsign_is0 (HN.out.rv.ext (by repeat' (first | with_reducible exact Ext.refl _ | with_reducible assumption | with_reducible apply Ext.alloc_r | with_reducible apply Ext.drew_r | with_reducible apply Ext.drewN_r | with_reducible refine Ext.trans ?_ ‹Ext _ _›))) HS.out).mono ?_
  rintro e w3 ⟨rfl, x3⟩
  have szw3 : w2.heap.size ≤ w3.heap.size := x3.size
  replace bxa := bxa.ext x3
  replace bxr := bxr.ext x3
  clear HS
  have n := HN.out.ext (show Ext _ w3 from (by repeat' (first | with_reducible exact Ext.refl _ | with_reducible assumption | with_reducible apply Ext.alloc_r | with_reducible apply Ext.drew_r | with_reducible apply Ext.drewN_r | with_reducible refine Ext.trans ?_ ‹Ext _ _›)))
  clear HN
  have hdn := n.dn
  have hdd := n.dd
  have HA : Hid (ZV w3 sn An cn Ln q1.num) := n.num.zv
  have HD : Hid (NV w3 Bn dn Mn q1.den) := by rw [n.len]; exact n.den.nv
  have HB : Hid (ZV w3 false Bn dn Mn (q1.den : Int)) := ⟨by rw [Int.natAbs_natCast]; exact HD.out, (fun h => by cases h), fun _ => Int.natCast_nonneg _⟩
  clear n
  obtain ⟨P1, hP1⟩ : ∃ P : Nat, P = bl q1.num.natAbs := ⟨_, rfl⟩
  obtain ⟨P2, hP2⟩ : ∃ P : Nat, P = bl q1.den := ⟨_, rfl⟩
  have hq1 : P1 ≤ 32 * N1 := by rw [hP1]; exact Nat.le_trans bl_dl (by omega)
  have hq2 : P2 ≤ 32 * N1 := by rw [hP2]; exact Nat.le_trans bl_dl (by omega)
  have HP1 := Lib.hid hP1
  have HP2 := Lib.hid hP2
  clear hP1 hP2
  have HL1 : Hid (∀ w', Ext w3 w' → Calls Try.prog 85 #[.agg #[.bool sn, .slice An Ln cn]] w' fun e w'' => e = .returned (.int .i64 P1) ∧ Ext w' w'') := fun w' hx => by
    have h5 := zbitLen_z (HA.out.ext hx) (by omega)
    rw [← HP1.out] at h5
    exact h5
  have HL2 : Hid (∀ w', Ext w3 w' → Calls Try.prog 86 #[.slice Bn Mn dn] w' fun e w'' => e = .returned (.int .i64 P2) ∧ Ext w' w'') := fun w' hx => by
    have h5 := bitLen_v (HD.out.ext hx) (by omega)
    rw [← HP2.out] at h5
    refine h5.mono ?_
    rintro e w'' ⟨rfl, rfl⟩
    exact ⟨rfl, Ext.refl _⟩
  have hwr : IntKind.u64.wrap (-IntKind.u64.wrap (-(k : Int))) = (k : Int) := by rw [IntKind.wrap_u64, IntKind.wrap_u64]; omega
  have ka_0 := bxa.c 0 (.bool sn) rfl
  have ka_1 := bxa.c 1 (.slice An Ln cn) rfl
  have ka_2 := bxa.c 2 (.slice Bn Mn dn) rfl
  have kr_0 := bxr.c 0 (.bool false) rfl
  have kr_1 := bxr.c 1 (.slice none 0 0) rfl
  have kr_2 := bxr.c 2 (.slice none 0 0) rfl
  go_wp2_with fail
  have HK : Hid (∀ w', Ext w3 w' → (w'.cell? ⟨w.heap.size, 0, none⟩ = some (.bool sn) ∧ w'.cell? ⟨w.heap.size, 1, none⟩ = some (.slice An Ln cn) ∧ w'.cell? ⟨w.heap.size, 2, none⟩ = some (.slice Bn Mn dn))) := fun w' hk => ⟨hk.cell ka_0, hk.cell ka_1, hk.cell ka_2⟩
  go_region_held3 (fun w' => w'.cell? ⟨w.heap.size, 0, none⟩ = some (.bool sn) ∧ w'.cell? ⟨w.heap.size, 1, none⟩ = some (.slice An Ln cn) ∧ w'.cell? ⟨w.heap.size, 2, none⟩ = some (.slice Bn Mn dn))
    ((with_reducible refine HK.out _ ?_; (repeat' (first | with_reducible exact Ext.refl _ | with_reducible assumption | with_reducible apply Ext.alloc_r | with_reducible apply Ext.drew_r | with_reducible apply Ext.drewN_r | with_reducible refine Ext.trans ?_ ‹Ext _ _›))))
    (first
      | (go_at_call 86; refine (HL2.out _ (by repeat' (first | with_reducible exact Ext.refl _ | with_reducible assumption | with_reducible apply Ext.alloc_r | with_reducible apply Ext.drew_r | with_reducible apply Ext.drewN_r | with_reducible refine Ext.trans ?_ ‹Ext _ _›))).mono ?_; rintro e w5 ⟨rfl, x5⟩)
      | (go_at_call 85; refine (HL1.out _ (by repeat' (first | with_reducible exact Ext.refl _ | with_reducible assumption | with_reducible apply Ext.alloc_r | with_reducible apply Ext.drew_r | with_reducible apply Ext.drewN_r | with_reducible refine Ext.trans ?_ ‹Ext _ _›))).mono ?_; rintro e w4 ⟨rfl, x4⟩))
  clear ka_0 ka_1 ka_2 kr_0 kr_1 kr_2
  clear HK
  have szw4 : w3.heap.size ≤ w4.heap.size := (show Ext w3 w4 from (by repeat' (first | with_reducible exact Ext.refl _ | with_reducible assumption | with_reducible apply Ext.alloc_r | with_reducible apply Ext.drew_r | with_reducible apply Ext.drewN_r | with_reducible refine Ext.trans ?_ ‹Ext _ _›))).size
  have xhw5 : Ext w3 w5 := (by repeat' (first | with_reducible exact Ext.refl _ | with_reducible assumption | with_reducible apply Ext.alloc_r | with_reducible apply Ext.drew_r | with_reducible apply Ext.drewN_r | with_reducible refine Ext.trans ?_ ‹Ext _ _›))
  have szw5 : w3.heap.size ≤ w5.heap.size := xhw5.size
  replace bxa := bxa.ext xhw5
  replace bxr := bxr.ext xhw5
  have hmx : max (P1 : Int) (P2 : Int) = ((max P1 P2 : Nat) : Int) := by omega
  have hLX : max P1 P2 ≤ 32 * N1 := by omega
  rw [hmx]
  clear hmx HL1 HL2
  generalize max P1 P2 = LX at *
  have hPk : LX * k ≤ 1280 := Nat.le_trans (Nat.mul_le_mul_right k hLX) (by rw [Nat.mul_assoc]; omega)
  have HMU : Hid (∀ w', Calls Try.prog 87 #[.int .u64 LX, .int .u64 k] w' fun e w'' => e = .returned (.tuple #[.int .u64 0, .int .u64 (LX * k : Nat)]) ∧ w'' = w') := fun w' => by
    have h5 := Try.bits_Mul64 LX k (by omega) (by omega) w'
    rw [Nat.div_eq_of_lt (by omega), Nat.mod_eq_of_lt (by omega)] at h5
    exact h5
  generalize LX * k = PP at *
  have hn1 : dl q1.num.natAbs * k ≤ 40 := Nat.le_trans (Nat.mul_le_mul_right k hdn) hN
  have hn2 : dl q1.den * k ≤ 40 := Nat.le_trans (Nat.mul_le_mul_right k hdd) hN
  have HI1 : Hid (∀ w', Ext w5 w' → Calls Try.prog 58 #[.agg #[.bool sn, .slice An Ln cn], .int .i64 k] w' (RetZOK w' (q1.num ^ k))) := fun w' hx => ipow_z (HA.out.ext (Ext.trans (show Ext _ w5 from (by repeat' (first | with_reducible exact Ext.refl _ | with_reducible assumption | with_reducible apply Ext.alloc_r | with_reducible apply Ext.drew_r | with_reducible apply Ext.drewN_r | with_reducible refine Ext.trans ?_ ‹Ext _ _›))) hx)) (by omega) hn1 (by omega)
  have HI2 : Hid (∀ w', Ext w5 w' → Calls Try.prog 58 #[.agg #[.bool false, .slice Bn Mn dn], .int .i64 k] w' (RetZOK w' ((q1.den : Int) ^ k))) := fun w' hx => ipow_z (HB.out.ext (Ext.trans (show Ext _ w5 from (by repeat' (first | with_reducible exact Ext.refl _ | with_reducible assumption | with_reducible apply Ext.alloc_r | with_reducible apply Ext.drew_r | with_reducible apply Ext.drewN_r | with_reducible refine Ext.trans ?_ ‹Ext _ _›))) hx)) (by rw [Int.natAbs_natCast]; omega) (by rw [Int.natAbs_natCast]; exact hn2) (by omega)

  have ka_0 := bxa.c 0 (.bool sn) rfl
  have ka_1 := bxa.c 1 (.slice An Ln cn) rfl
  have ka_2 := bxa.c 2 (.slice Bn Mn dn) rfl
  have kr_0 := bxr.c 0 (.bool false) rfl
  have kr_1 := bxr.c 1 (.slice none 0 0) rfl
  have kr_2 := bxr.c 2 (.slice none 0 0) rfl
  go_wp2_with fail
  clear ka_0 ka_1 ka_2 kr_0 kr_1 kr_2
  refine (HMU.out _).mono ?_
  rintro e w5 ⟨rfl, rfl⟩
  clear HMU
  have ka_0 := bxa.c 0 (.bool sn) rfl
  have ka_1 := bxa.c 1 (.slice An Ln cn) rfl
  have ka_2 := bxa.c 2 (.slice Bn Mn dn) rfl
  have kr_0 := bxr.c 0 (.bool false) rfl
  have kr_1 := bxr.c 1 (.slice none 0 0) rfl
  have kr_2 := bxr.c 2 (.slice none 0 0) rfl
  go_wp2_with fail
  clear ka_0 ka_1 ka_2 kr_0 kr_1 kr_2
  refine (HI1.out _ (by repeat' (first | with_reducible exact Ext.refl _ | with_reducible assumption | with_reducible apply Ext.alloc_r | with_reducible apply Ext.drew_r | with_reducible apply Ext.drewN_r | with_reducible refine Ext.trans ?_ ‹Ext _ _›))).mono ?_
  rintro e w6 ⟨su, Au, cu, Lu, rfl, u, x6⟩
  have szw6 : w5.heap.size ≤ w6.heap.size := x6.size
  replace bxa := bxa.ext x6
  replace bxr := bxr.ext x6
  have HU := Lib.hid u
  clear u HI1
  have ka_0 := bxa.c 0 (.bool sn) rfl
  have ka_1 := bxa.c 1 (.slice An Ln cn) rfl
  have ka_2 := bxa.c 2 (.slice Bn Mn dn) rfl
  have kr_0 := bxr.c 0 (.bool false) rfl
  have kr_1 := bxr.c 1 (.slice none 0 0) rfl
  have kr_2 := bxr.c 2 (.slice none 0 0) rfl
  have t1a_0 := fun (o0 : Obj) => ((Ext.alloc w6 o0).cell (bxa.c 0 (.bool sn) rfl))
  have t1a_1 := fun (o0 : Obj) => ((Ext.alloc w6 o0).cell (bxa.c 1 (.slice An Ln cn) rfl))
  have t1a_2 := fun (o0 : Obj) => ((Ext.alloc w6 o0).cell (bxa.c 2 (.slice Bn Mn dn) rfl))
  have t1r_0 := fun (o0 : Obj) => ((Ext.alloc w6 o0).cell (bxr.c 0 (.bool false) rfl))
  have t1r_1 := fun (o0 : Obj) => ((Ext.alloc w6 o0).cell (bxr.c 1 (.slice none 0 0) rfl))
  have t1r_2 := fun (o0 : Obj) => ((Ext.alloc w6 o0).cell (bxr.c 2 (.slice none 0 0) rfl))
  go_wp2_with fail
  clear ka_0 ka_1 ka_2 kr_0 kr_1 kr_2 t1a_0 t1a_1 t1a_2 t1r_0 t1r_1 t1r_2
  obtain ⟨w7, hw⟩ : ∃ z : World, z = (w6.alloc (.cells #[.bool su, .slice Au Lu cu] 25)) := ⟨_, rfl⟩
  rw [← hw]
  have x7 : Ext w6 w7 := by rw [hw]; exact (Ext.alloc _ _)
  replace bxa := bxa.ext x7
  replace bxr := bxr.ext x7
  have bxu : BK w7 (w6.heap.size) 25 #[.bool su, .slice Au Lu cu] := by rw [hw]; have h5 := (BK.new w6 #[.bool su, .slice Au Lu cu] 25); simpa only [World.size_alloc] using h5
  have szw7 : w7.heap.size = w6.heap.size + 1 := by rw [hw]; simp only [World.size_alloc]
  clear hw
  refine (HI2.out _ (by repeat' (first | with_reducible exact Ext.refl _ | with_reducible assumption | with_reducible apply Ext.alloc_r | with_reducible apply Ext.drew_r | with_reducible apply Ext.drewN_r | with_reducible refine Ext.trans ?_ ‹Ext _ _›))).mono ?_
  rintro e w8 ⟨sv, Av, cv, Lv, rfl, v, x8⟩
  have szw8 : w7.heap.size ≤ w8.heap.size := x8.size
  replace bxa := bxa.ext x8
  replace bxr := bxr.ext x8
  replace bxu := bxu.ext x8
  have HV := Lib.hid v
  clear v HI2 HA HB HD
  obtain rfl : sv = false := by rw [HV.out.sign, ← Int.natCast_pow]; exact decide_eq_false (by omega)
  clear hzk
  have ka_0 := bxa.c 0 (.bool sn) rfl
  have ka_1 := bxa.c 1 (.slice An Ln cn) rfl
  have ka_2 := bxa.c 2 (.slice Bn Mn dn) rfl
  have kr_0 := bxr.c 0 (.bool false) rfl
  have kr_1 := bxr.c 1 (.slice none 0 0) rfl
  have kr_2 := bxr.c 2 (.slice none 0 0) rfl
  have ku_0 := bxu.c 0 (.bool su) rfl
  have ku_1 := bxu.c 1 (.slice Au Lu cu) rfl
  have ta_0 := fun o => (Ext.alloc w8 o).cell ka_0
  have ta_1 := fun o => (Ext.alloc w8 o).cell ka_1
  have ta_2 := fun o => (Ext.alloc w8 o).cell ka_2
  have tr_0 := fun o => (Ext.alloc w8 o).cell kr_0
  have tr_1 := fun o => (Ext.alloc w8 o).cell kr_1
  have tr_2 := fun o => (Ext.alloc w8 o).cell kr_2
  have tu_0 := fun o => (Ext.alloc w8 o).cell ku_0
  have tu_1 := fun o => (Ext.alloc w8 o).cell ku_1
  go_wp2_with fail
  clear ka_0 ka_1 ka_2 kr_0 kr_1 kr_2 ku_0 ku_1 ta_0 ta_1 ta_2 tr_0 tr_1 tr_2 tu_0 tu_1
  obtain ⟨w9, hw⟩ : ∃ z : World, z = w8.alloc (.cells #[.bool false, .slice Av Lv cv] 25) := ⟨_, rfl⟩
  rw [← hw]
  have x9 : Ext w8 w9 := by rw [hw]; exact Ext.alloc _ _
  have bxv : BK w9 w8.heap.size 25 #[.bool false, .slice Av Lv cv] := by rw [hw]; exact BK.new _ _ _
  have szw9 : w9.heap.size = w8.heap.size + 1 := by rw [hw]; simp only [World.size_alloc]
  clear hw
  replace bxa := bxa.ext x9
  replace bxr := bxr.ext x9
  replace bxu := bxu.ext x9
  have hn0 : q1.num ≠ 0 := fun h => hq ((num_sign00 q1).2 (by rw [h]; rfl))
  have hp0 : q1.num ^ k ≠ 0 := Int.pow_ne_zero hn0
  obtain ⟨pn, pd⟩ := pow_inv_num q1 k hn0
  have hden : ((q1.den : Int) ^ k).natAbs = q1.den ^ k := by rw [← Int.natCast_pow, Int.natAbs_natCast]
  have hX : ((q1.num ^ k).sign * (q1.den : Int) ^ k).natAbs = ((q1.den : Int) ^ k).natAbs := by rw [Int.natAbs_mul, Int.natAbs_sign_of_ne_zero hp0, Nat.one_mul]
  have hpos : 0 ≤ (q1.den : Int) ^ k := by rw [← Int.natCast_pow]; exact Int.natCast_nonneg _
  have hd5 : dl (q1.num ^ k).natAbs ≤ 40 := Nat.le_trans (dl_pow _ k hk1) hn1
  have hd6 : dl ((q1.den : Int) ^ k).natAbs ≤ 40 := Nat.le_trans (dl_pow _ k hk1) (by rw [Int.natAbs_natCast]; exact hn2)
  have HF : Hid (∀ w', Ext w9 w' → Calls Try.prog 88 #[.bool su, .slice Av Lv cv] w' (RetZ w' ((q1.num ^ k).sign * (q1.den : Int) ^ k))) := fun w' hx => by
    refine from_z ⟨by rw [hX]; exact (HV.out.ext (Ext.trans (show Ext _ w9 from (by repeat' (first | with_reducible exact Ext.refl _ | with_reducible assumption | with_reducible apply Ext.alloc_r | with_reducible apply Ext.drew_r | with_reducible apply Ext.drewN_r | with_reducible refine Ext.trans ?_ ‹Ext _ _›))) hx)).zv.nv, fun h => ?_, fun h => ?_⟩ (by rw [hX]; omega)
    · have h5 := HU.out.sign
      rw [h] at h5
      rw [Int.sign_eq_neg_one_of_neg (of_decide_eq_true h5.symm)]
      omega
    · have h5 := HU.out.sign
      rw [h] at h5
      rw [Int.sign_eq_one_of_pos (by have := of_decide_eq_false h5.symm; omega)]
      omega
  have HA2 : Hid (∀ w', Ext w9 w' → Calls Try.prog 61 #[.agg #[.bool su, .slice Au Lu cu]] w' (RetZ w' ((q1.num ^ k).natAbs : Int))) := fun w' hx => abs_z (HU.out.ext (Ext.trans (show Ext _ w9 from (by repeat' (first | with_reducible exact Ext.refl _ | with_reducible assumption | with_reducible apply Ext.alloc_r | with_reducible apply Ext.drew_r | with_reducible apply Ext.drewN_r | with_reducible refine Ext.trans ?_ ‹Ext _ _›))) hx)).zv (by omega)
  clear HU HV hX hden hpos
  have ku_0 := bxu.c 0 (.bool su) rfl
  have fu_0 := bxu.f 0
  have ku_1 := bxu.c 1 (.slice Au Lu cu) rfl
  have fu_1 := bxu.f 1
  have kv_0 := bxv.c 0 (.bool false) rfl
  have fv_0 := bxv.f 0
  have kv_1 := bxv.c 1 (.slice Av Lv cv) rfl
  have fv_1 := bxv.f 1
  go_cut [] (fun wx => ∃ (wa : World) (s t : Bool) (A B : Option Addr) (c L d M : Nat), Ext w9 wa ∧ ZO wa w9.heap.size s A c L ((q1.num ^ k).sign * (q1.den : Int) ^ k) ∧ ZO wa w9.heap.size t B d M ((q1.num ^ k).natAbs : Int) ∧ wx = (((wa.setCell ⟨w6.heap.size, 0, none⟩ (.bool s)).setCell ⟨w6.heap.size, 1, none⟩ (.slice A L c)).setCell ⟨w8.heap.size, 0, none⟩ (.bool t)).setCell ⟨w8.heap.size, 1, none⟩ (.slice B M d))
  case first =>
    go_region_with (first
      | (go_at_call 88; refine (HF.out _ (by repeat' (first | with_reducible exact Ext.refl _ | with_reducible assumption | with_reducible apply Ext.alloc_r | with_reducible apply Ext.drew_r | with_reducible apply Ext.drewN_r | with_reducible refine Ext.trans ?_ ‹Ext _ _›))).mono ?_; rintro e w10 ⟨s5, A5, c5, L5, rfl, i, x10⟩; have yl0 : Ext w9 w10 := (by repeat' (first | with_reducible exact Ext.refl _ | with_reducible assumption | with_reducible apply Ext.alloc_r | with_reducible apply Ext.drew_r | with_reducible apply Ext.drewN_r | with_reducible refine Ext.trans ?_ ‹Ext _ _›)); have h0u_0 := (bxu.ext yl0).c 0 (.bool su) rfl; have z0u_0 := (bxu.ext yl0).f 0; have h0u_1 := (bxu.ext yl0).c 1 (.slice Au Lu cu) rfl; have z0u_1 := (bxu.ext yl0).f 1; have h0v_0 := (bxv.ext yl0).c 0 (.bool false) rfl; have z0v_0 := (bxv.ext yl0).f 0; have h0v_1 := (bxv.ext yl0).c 1 (.slice Av Lv cv) rfl; have z0v_1 := (bxv.ext yl0).f 1)
      | (go_at_call 61; refine (HA2.out _ (by repeat' (first | with_reducible exact Ext.refl _ | with_reducible assumption | with_reducible apply Ext.alloc_r | with_reducible apply Ext.drew_r | with_reducible apply Ext.drewN_r | with_reducible refine Ext.trans ?_ ‹Ext _ _›))).mono ?_; rintro e w11 ⟨s6, A6, c6, L6, rfl, j, x11⟩; have yl1 : Ext w9 w11 := (by repeat' (first | with_reducible exact Ext.refl _ | with_reducible assumption | with_reducible apply Ext.alloc_r | with_reducible apply Ext.drew_r | with_reducible apply Ext.drewN_r | with_reducible refine Ext.trans ?_ ‹Ext _ _›)); have h1u_0 := (bxu.ext yl1).c 0 (.bool su) rfl; have z1u_0 := (bxu.ext yl1).f 0; have h1u_1 := (bxu.ext yl1).c 1 (.slice Au Lu cu) rfl; have z1u_1 := (bxu.ext yl1).f 1; have h1v_0 := (bxv.ext yl1).c 0 (.bool false) rfl; have z1v_0 := (bxv.ext yl1).f 0; have h1v_1 := (bxv.ext yl1).c 1 (.slice Av Lv cv) rfl; have z1v_1 := (bxv.ext yl1).f 1))
    all_goals (go_wp2_with fail; go_meet)
    all_goals (refine ⟨w11, s5, s6, A5, A6, c5, L5, c6, L6, yl1, ?_, ?_, rfl⟩)
    all_goals (first | exact j.mono (Ext.size (by repeat' (first | with_reducible exact Ext.refl _ | with_reducible assumption | with_reducible apply Ext.alloc_r | with_reducible apply Ext.drew_r | with_reducible apply Ext.drewN_r | with_reducible refine Ext.trans ?_ ‹Ext _ _›))) | exact (i.ext (by repeat' (first | with_reducible exact Ext.refl _ | with_reducible assumption | with_reducible apply Ext.alloc_r | with_reducible apply Ext.drew_r | with_reducible apply Ext.drewN_r | with_reducible refine Ext.trans ?_ ‹Ext _ _›))).mono (Ext.size (by repeat' (first | with_reducible exact Ext.refl _ | with_reducible assumption | with_reducible apply Ext.alloc_r | with_reducible apply Ext.drew_r | with_reducible apply Ext.drewN_r | with_reducible refine Ext.trans ?_ ‹Ext _ _›))))
  case rest =>
    clear ku_0 fu_0 ku_1 fu_1 kv_0 fv_0 kv_1 fv_1
    obtain ⟨w12, s5, s6, A5, A6, c5, L5, c6, L6, x12, i, j, hwx⟩ := hcut
    subst hwx
    have szw12 : w9.heap.size ≤ w12.heap.size := x12.size
    replace bxa := bxa.ext x12
    replace bxr := bxr.ext x12
    replace bxu := bxu.ext x12
    replace bxv := bxv.ext x12
    obtain ⟨w13, hw⟩ : ∃ z : World, z = ((((w12.setCell ⟨w6.heap.size, 0, none⟩ (.bool s5)).setCell ⟨w6.heap.size, 1, none⟩ (.slice A5 L5 c5)).setCell ⟨w8.heap.size, 0, none⟩ (.bool s6)).setCell ⟨w8.heap.size, 1, none⟩ (.slice A6 L6 c6)) := ⟨_, rfl⟩
    rw [← hw]
    have kw13 : Kept w12 w13 := by rw [hw]; exact (Kept.set_ (Kept.set_ (Kept.set_ (Kept.set_ (Kept.refl _) bxu.isBox plain_int) (IsBox.set_ bxu.isBox) plain_int) (IsBox.set_ (IsBox.set_ bxv.isBox)) plain_int) (IsBox.set_ (IsBox.set_ (IsBox.set_ bxv.isBox))) plain_int)
    have nba : BK w13 (w.heap.size) 27 #[.bool sn, .slice An Ln cn, .slice Bn Mn dn] := by rw [hw]; exact (BK.far (BK.far (BK.far (BK.far bxa (show w.heap.size ≠ w6.heap.size by omega) 0 _) (show w.heap.size ≠ w6.heap.size by omega) 1 _) (show w.heap.size ≠ w8.heap.size by omega) 0 _) (show w.heap.size ≠ w8.heap.size by omega) 1 _)
    have nbr : BK w13 (w.heap.size + 1) 27 #[.bool false, .slice none 0 0, .slice none 0 0] := by rw [hw]; exact (BK.far (BK.far (BK.far (BK.far bxr (show w.heap.size + 1 ≠ w6.heap.size by omega) 0 _) (show w.heap.size + 1 ≠ w6.heap.size by omega) 1 _) (show w.heap.size + 1 ≠ w8.heap.size by omega) 0 _) (show w.heap.size + 1 ≠ w8.heap.size by omega) 1 _)
    have nbu : BK w13 (w6.heap.size) 25 #[.bool s5, .slice A5 L5 c5] := by rw [hw]; exact (BK.far (BK.far (BK.set (i := 1) (u := .slice A5 L5 c5) (vs' := #[.bool s5, .slice A5 L5 c5]) (BK.set (i := 0) (u := .bool s5) (vs' := #[.bool s5, .slice Au Lu cu]) bxu rfl) rfl) (show w6.heap.size ≠ w8.heap.size by omega) 0 _) (show w6.heap.size ≠ w8.heap.size by omega) 1 _)
    have nbv : BK w13 (w8.heap.size) 25 #[.bool s6, .slice A6 L6 c6] := by rw [hw]; exact (BK.set (i := 1) (u := .slice A6 L6 c6) (vs' := #[.bool s6, .slice A6 L6 c6]) (BK.set (i := 0) (u := .bool s6) (vs' := #[.bool s6, .slice Av Lv cv]) (BK.far (BK.far bxv (show w8.heap.size ≠ w6.heap.size by omega) 0 _) (show w8.heap.size ≠ w6.heap.size by omega) 1 _) rfl) rfl)
    have x13 : Ext w w13 := by rw [hw]; have hxp : Ext w w12 := (by repeat' (first | with_reducible exact Ext.refl _ | with_reducible assumption | with_reducible apply Ext.alloc_r | with_reducible apply Ext.drew_r | with_reducible apply Ext.drewN_r | with_reducible refine Ext.trans ?_ ‹Ext _ _›)); exact (Ext.set_ (Ext.set_ (Ext.set_ (Ext.set_ hxp (show _ ≤ w6.heap.size by omega)) (show _ ≤ w6.heap.size by omega)) (show _ ≤ w8.heap.size by omega)) (show _ ≤ w8.heap.size by omega))
    clear bxa
    clear bxr
    clear bxu
    clear bxv
    have bxa := nba
    clear nba
    have bxr := nbr
    clear nbr
    have bxu := nbu
    clear nbu
    have bxv := nbv
    clear nbv
    have szw13 : w13.heap.size = w12.heap.size := by rw [hw]; simp
    replace i := (i.ext (by repeat' (first | with_reducible exact Ext.refl _ | with_reducible assumption | with_reducible apply Ext.alloc_r | with_reducible apply Ext.drew_r | with_reducible apply Ext.drewN_r | with_reducible refine Ext.trans ?_ ‹Ext _ _›))).kept kw13
    replace j := (j.ext (by repeat' (first | with_reducible exact Ext.refl _ | with_reducible assumption | with_reducible apply Ext.alloc_r | with_reducible apply Ext.drew_r | with_reducible apply Ext.drewN_r | with_reducible refine Ext.trans ?_ ‹Ext _ _›))).kept kw13
    clear hw kw13
    have HI := Lib.hid (And.intro i j)
    clear i j HF HA2
    have ka_0 := bxa.c 0 (.bool sn) rfl
    have ka_1 := bxa.c 1 (.slice An Ln cn) rfl
    have ka_2 := bxa.c 2 (.slice Bn Mn dn) rfl
    have kr_0 := bxr.c 0 (.bool false) rfl
    have fr_0 := bxr.f 0
    have kr_1 := bxr.c 1 (.slice none 0 0) rfl
    have fr_1 := bxr.f 1
    have kr_2 := bxr.c 2 (.slice none 0 0) rfl
    have fr_2 := bxr.f 2
    have ku_0 := bxu.c 0 (.bool s5) rfl
    have ku_1 := bxu.c 1 (.slice A5 L5 c5) rfl
    have kv_0 := bxv.c 0 (.bool s6) rfl
    have kv_1 := bxv.c 1 (.slice A6 L6 c6) rfl
    go_wp2_with fail
    clear ka_0 ka_1 ka_2 kr_0 fr_0 kr_1 fr_1 kr_2 fr_2 ku_0 ku_1 kv_0 kv_1
    have i := HI.out.1
    have j := HI.out.2
    clear HI
    obtain ⟨w14, hw⟩ : ∃ z : World, z = (((w13.setCell ⟨w.heap.size + 1, 0, none⟩ (.bool s5)).setCell ⟨w.heap.size + 1, 1, none⟩ (.slice A5 L5 c5)).setCell ⟨w.heap.size + 1, 2, none⟩ (.slice A6 L6 c6)) := ⟨_, rfl⟩
    rw [← hw]
    have kw14 : Kept w13 w14 := by rw [hw]; exact (Kept.set_ (Kept.set_ (Kept.set_ (Kept.refl _) bxr.isBox plain_rat) (IsBox.set_ bxr.isBox) plain_rat) (IsBox.set_ (IsBox.set_ bxr.isBox)) plain_rat)
    have nba : BK w14 (w.heap.size) 27 #[.bool sn, .slice An Ln cn, .slice Bn Mn dn] := by rw [hw]; exact (BK.far (BK.far (BK.far bxa (show w.heap.size ≠ w.heap.size + 1 by omega) 0 _) (show w.heap.size ≠ w.heap.size + 1 by omega) 1 _) (show w.heap.size ≠ w.heap.size + 1 by omega) 2 _)
    have nbr : BK w14 (w.heap.size + 1) 27 #[.bool s5, .slice A5 L5 c5, .slice A6 L6 c6] := by rw [hw]; exact (BK.set (i := 2) (u := .slice A6 L6 c6) (vs' := #[.bool s5, .slice A5 L5 c5, .slice A6 L6 c6]) (BK.set (i := 1) (u := .slice A5 L5 c5) (vs' := #[.bool s5, .slice A5 L5 c5, .slice none 0 0]) (BK.set (i := 0) (u := .bool s5) (vs' := #[.bool s5, .slice none 0 0, .slice none 0 0]) bxr rfl) rfl) rfl)
    have nbu : BK w14 (w6.heap.size) 25 #[.bool s5, .slice A5 L5 c5] := by rw [hw]; exact (BK.far (BK.far (BK.far bxu (show w6.heap.size ≠ w.heap.size + 1 by omega) 0 _) (show w6.heap.size ≠ w.heap.size + 1 by omega) 1 _) (show w6.heap.size ≠ w.heap.size + 1 by omega) 2 _)
    have nbv : BK w14 (w8.heap.size) 25 #[.bool s6, .slice A6 L6 c6] := by rw [hw]; exact (BK.far (BK.far (BK.far bxv (show w8.heap.size ≠ w.heap.size + 1 by omega) 0 _) (show w8.heap.size ≠ w.heap.size + 1 by omega) 1 _) (show w8.heap.size ≠ w.heap.size + 1 by omega) 2 _)
    have x14 : Ext w w14 := by rw [hw]; have hxp : Ext w w13 := (by repeat' (first | with_reducible exact Ext.refl _ | with_reducible assumption | with_reducible apply Ext.alloc_r | with_reducible apply Ext.drew_r | with_reducible apply Ext.drewN_r | with_reducible refine Ext.trans ?_ ‹Ext _ _›)); exact (Ext.set_ (Ext.set_ (Ext.set_ hxp (show _ ≤ w.heap.size + 1 by omega)) (show _ ≤ w.heap.size + 1 by omega)) (show _ ≤ w.heap.size + 1 by omega))
    clear bxa
    clear bxr
    clear bxu
    clear bxv
    have bxa := nba
    clear nba
    have bxr := nbr
    clear nbr
    have bxu := nbu
    clear nbu
    have bxv := nbv
    clear nbv
    have szw14 : w14.heap.size = w13.heap.size := by rw [hw]; simp
    replace i := (i.ext (by repeat' (first | with_reducible exact Ext.refl _ | with_reducible assumption | with_reducible apply Ext.alloc_r | with_reducible apply Ext.drew_r | with_reducible apply Ext.drewN_r | with_reducible refine Ext.trans ?_ ‹Ext _ _›))).kept kw14
    replace j := (j.ext (by repeat' (first | with_reducible exact Ext.refl _ | with_reducible assumption | with_reducible apply Ext.alloc_r | with_reducible apply Ext.drew_r | with_reducible apply Ext.drewN_r | with_reducible refine Ext.trans ?_ ‹Ext _ _›))).kept kw14
    clear hw kw14
    have hj2 := j.no
    have hj3 := j.len
    rw [Int.natAbs_natCast] at hj2 hj3
    have hd7 : dl ((q1.num ^ k).sign * (q1.den : Int) ^ k).natAbs ≤ 41 := by rw [Int.natAbs_mul, Int.natAbs_sign_of_ne_zero hp0, Nat.one_mul]; omega
    have HRO : Hid (RO w14 w.heap.size s5 A5 c5 L5 A6 c6 L6 41 (q1⁻¹ ^ k)) := ⟨by rw [pn]; exact i.mono (by omega), by rw [pd]; exact Own.mono hj2 (by omega), by rw [pd]; exact hj3, by rw [pn]; exact hd7, by rw [pd]; omega⟩
    clear i j hj2 hj3 hd7 pn pd
    have kr_0 := bxr.c 0 (.bool s5) rfl
    have kr_1 := bxr.c 1 (.slice A5 L5 c5) rfl
    have kr_2 := bxr.c 2 (.slice A6 L6 c6) rfl
    refine bodyPost_ret (v := .tuple #[.agg #[.bool s5, .slice A5 L5 c5, .slice A6 L6 c6], .int .i64 0]) (by simp [results, Try.results49, go_sem, kr_0, kr_1, kr_2]) rfl ?_
    exact ⟨_, _, _, _, _, _, _, rfl, HRO.out, x14⟩
end Go.Proofs.Ytfnmbhjifdfibaa
