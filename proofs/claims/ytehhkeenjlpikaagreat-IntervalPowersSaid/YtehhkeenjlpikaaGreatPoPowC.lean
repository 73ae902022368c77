/- rational.Pow beyond the limit; small facts for RationalPowers. -/
import Derived.Test.YtehhkeenjlpikaaGreatPoPowB
import Derived.Deep.RegionHeldLaw
import Derived.Deep.LoopGhost
import Derived.Deep.QuietTactic
import Derived.BigQuiet
namespace Go.Proofs.YtehhkeenjlpikaaGreat
open Go.RowKit
set_option maxHeartbeats 4000000 in
set_option maxRecDepth 100000 in
theorem rpow_far {w : World} {s1 : Bool} {A1 B1 : Option Addr} {c1 d1 L1 M1 N1 : Nat} {q1 : Rat} {k : Nat} (h1 : RV w s1 A1 c1 L1 B1 d1 M1 N1 q1) (hN1 : N1 ≤ 40) (hk : k ≤ 16777216) (hlim : 16777216 < max (bl q1.num.natAbs) (bl q1.den) * k) :
    Calls Tryz.prog 70 #[Value.agg #[.bool s1, .slice A1 L1 c1, .slice B1 M1 d1], .int .i64 k] w fun e w' => e = .returned (.tuple #[.agg #[.bool false, .slice none 0 0, .slice none 0 0], .int .i64 8]) ∧ Ext w w' := by
  go_enter Tryz.func70, Tryz.ntmps70
  go_wp2_with fail
  obtain ⟨w0, hw0⟩ : ∃ z : World, z = ((w.alloc (.cells #[.bool s1, .slice A1 L1 c1, .slice B1 M1 d1] 27)).alloc (.cells #[.bool false, .slice none 0 0, .slice none 0 0] 27)) := ⟨_, rfl⟩
  rw [← hw0]
  have bxa : BK w0 (w.heap.size) 27 #[.bool s1, .slice A1 L1 c1, .slice B1 M1 d1] := by rw [hw0]; have h5 := (BK.ext (BK.new w #[.bool s1, .slice A1 L1 c1, .slice B1 M1 d1] 27) (Ext.alloc _ (.cells #[.bool false, .slice none 0 0, .slice none 0 0] 27))); simpa only [World.size_alloc] using h5
  have bxr : BK w0 (w.heap.size + 1) 27 #[.bool false, .slice none 0 0, .slice none 0 0] := by rw [hw0]; have h5 := (BK.new (w.alloc (.cells #[.bool s1, .slice A1 L1 c1, .slice B1 M1 d1] 27)) #[.bool false, .slice none 0 0, .slice none 0 0] 27); simpa only [World.size_alloc] using h5
  have hszw0 : w0.heap.size = w.heap.size + 1 + 1 := by rw [hw0]; simp only [World.size_alloc]
  have xw0 : Ext w w0 := by rw [hw0]; exact ((Ext.alloc _ _).trans (Ext.alloc _ _))
  clear hw0
  refine (rnormal_r (h1.ext (by with_reducible repeat' first | exact Ext.refl _ | assumption | apply Ext.alloc_r | apply Ext.drew_r | apply Ext.drewN_r | refine Ext.trans ?_ ‹Ext _ _›)) (by omega)).mono ?_
  rintro e w1 ⟨sn, An, cn, Ln, Bn, dn, Mn, rfl, n, x1⟩
  have szw1 : w0.heap.size ≤ w1.heap.size := x1.size
  replace bxa := bxa.ext x1
  replace bxr := bxr.ext x1
  have HN := Lib.hid n
  clear n h1
  have ka_0 := bxa.c 0 (.bool s1) rfl
  have fa_0 := bxa.f 0
  have ka_1 := bxa.c 1 (.slice A1 L1 c1) rfl
  have fa_1 := bxa.f 1
  have ka_2 := bxa.c 2 (.slice B1 M1 d1) rfl
  have fa_2 := bxa.f 2
  have kr_0 := bxr.c 0 (.bool false) rfl
  have kr_1 := bxr.c 1 (.slice none 0 0) rfl
  have kr_2 := bxr.c 2 (.slice none 0 0) rfl
  go_wp2_with fail
  clear ka_0 fa_0 ka_1 fa_1 ka_2 fa_2 kr_0 kr_1 kr_2
  have n := HN.out
  clear HN
  obtain ⟨w2, hw⟩ : ∃ z : World, z = (((w1.setCell ⟨w.heap.size, 0, none⟩ (.bool sn)).setCell ⟨w.heap.size, 1, none⟩ (.slice An Ln cn)).setCell ⟨w.heap.size, 2, none⟩ (.slice Bn Mn dn)) := ⟨_, rfl⟩
  rw [← hw]
  have kw2 : Kept w1 w2 := by rw [hw]; exact (Kept.set_ (Kept.set_ (Kept.set_ (Kept.refl _) bxa.isBox plain_rat) (IsBox.set_ bxa.isBox) plain_rat) (IsBox.set_ (IsBox.set_ bxa.isBox)) plain_rat)
  have nba : BK w2 (w.heap.size) 27 #[.bool sn, .slice An Ln cn, .slice Bn Mn dn] := by rw [hw]; exact (BK.set (i := 2) (u := .slice Bn Mn dn) (vs' := #[.bool sn, .slice An Ln cn, .slice Bn Mn dn]) (BK.set (i := 1) (u := .slice An Ln cn) (vs' := #[.bool sn, .slice An Ln cn, .slice B1 M1 d1]) (BK.set (i := 0) (u := .bool sn) (vs' := #[.bool sn, .slice A1 L1 c1, .slice B1 M1 d1]) bxa rfl) rfl) rfl)
  have nbr : BK w2 (w.heap.size + 1) 27 #[.bool false, .slice none 0 0, .slice none 0 0] := by rw [hw]; exact (BK.far (BK.far (BK.far bxr (show w.heap.size + 1 ≠ w.heap.size by omega) 0 _) (show w.heap.size + 1 ≠ w.heap.size by omega) 1 _) (show w.heap.size + 1 ≠ w.heap.size by omega) 2 _)
  have x2 : Ext w w2 := by rw [hw]; have hxp : Ext w w1 := (by with_reducible repeat' first | exact Ext.refl _ | assumption | apply Ext.alloc_r | apply Ext.drew_r | apply Ext.drewN_r | refine Ext.trans ?_ ‹Ext _ _›); exact (Ext.set_ (Ext.set_ (Ext.set_ hxp (show _ ≤ w.heap.size by omega)) (show _ ≤ w.heap.size by omega)) (show _ ≤ w.heap.size by omega))
  clear bxa
  clear bxr
  have bxa := nba
  clear nba
  have bxr := nbr
  clear nbr
  have szw2 : w2.heap.size = w1.heap.size := by rw [hw]; simp
  replace n := (n.ext (by with_reducible repeat' first | exact Ext.refl _ | assumption | apply Ext.alloc_r | apply Ext.drew_r | apply Ext.drewN_r | refine Ext.trans ?_ ‹Ext _ _›)).kept kw2
  clear hw kw2
  have hdn := n.dn
  have hdd := n.dd
  have HA : Hid (ZV w2 sn An cn Ln q1.num) := n.num.zv
  have HD : Hid (NV w2 Bn dn Mn q1.den) := by rw [n.len]; exact n.den.nv
  clear n
  obtain ⟨P1, hP1⟩ : ∃ P : Nat, P = bl q1.num.natAbs := ⟨_, rfl⟩
  obtain ⟨P2, hP2⟩ : ∃ P : Nat, P = bl q1.den := ⟨_, rfl⟩
  have hq1 : P1 ≤ 32 * N1 := by rw [hP1]; exact Nat.le_trans bl_dl (by omega)
  have hq2 : P2 ≤ 32 * N1 := by rw [hP2]; exact Nat.le_trans bl_dl (by omega)
  rw [← hP1, ← hP2] at hlim
  have HP1 := Lib.hid hP1
  have HP2 := Lib.hid hP2
  clear hP1 hP2
  have HL1 : Hid (∀ w', Ext w2 w' → Calls Tryz.prog 95 #[.agg #[.bool sn, .slice An Ln cn]] w' fun e w'' => e = .returned (.int .i64 P1) ∧ Ext w' w'') := fun w' hx => by
    have h5 := zbitLen_z (HA.out.ext hx) (by omega)
    rw [← HP1.out] at h5
    exact h5
  have HL2 : Hid (∀ w', Ext w2 w' → Calls Tryz.prog 96 #[.slice Bn Mn dn] w' fun e w'' => e = .returned (.int .i64 P2) ∧ Ext w' w'') := fun w' hx => by
    have h5 := bitLen_v (HD.out.ext hx) (by omega)
    rw [← HP2.out] at h5
    refine h5.mono ?_
    rintro e w'' ⟨rfl, rfl⟩
    exact ⟨rfl, Ext.refl _⟩
  have ka_0 := bxa.c 0 (.bool sn) rfl
  have ka_1 := bxa.c 1 (.slice An Ln cn) rfl
  have ka_2 := bxa.c 2 (.slice Bn Mn dn) rfl
  have kr_0 := bxr.c 0 (.bool false) rfl
  have kr_1 := bxr.c 1 (.slice none 0 0) rfl
  have kr_2 := bxr.c 2 (.slice none 0 0) rfl
  go_wp2_with fail
  have HK : Hid (∀ w', Ext w2 w' → (w'.cell? ⟨w.heap.size, 0, none⟩ = some (.bool sn) ∧ w'.cell? ⟨w.heap.size, 1, none⟩ = some (.slice An Ln cn) ∧ w'.cell? ⟨w.heap.size, 2, none⟩ = some (.slice Bn Mn dn))) := fun w' hk => ⟨hk.cell ka_0, hk.cell ka_1, hk.cell ka_2⟩
  go_region_held3 (fun w' => w'.cell? ⟨w.heap.size, 0, none⟩ = some (.bool sn) ∧ w'.cell? ⟨w.heap.size, 1, none⟩ = some (.slice An Ln cn) ∧ w'.cell? ⟨w.heap.size, 2, none⟩ = some (.slice Bn Mn dn))
    ((with_reducible refine HK.out _ ?_; (with_reducible repeat' first | exact Ext.refl _ | assumption | apply Ext.alloc_r | apply Ext.drew_r | apply Ext.drewN_r | refine Ext.trans ?_ ‹Ext _ _›)))
    (first
      | (go_at_call 96; refine (HL2.out _ (by with_reducible repeat' first | exact Ext.refl _ | assumption | apply Ext.alloc_r | apply Ext.drew_r | apply Ext.drewN_r | refine Ext.trans ?_ ‹Ext _ _›)).mono ?_; rintro e w4 ⟨rfl, x4⟩)
      | (go_at_call 95; refine (HL1.out _ (by with_reducible repeat' first | exact Ext.refl _ | assumption | apply Ext.alloc_r | apply Ext.drew_r | apply Ext.drewN_r | refine Ext.trans ?_ ‹Ext _ _›)).mono ?_; rintro e w3 ⟨rfl, x3⟩))
  clear ka_0 ka_1 ka_2 kr_0 kr_1 kr_2
  clear HK
  have szw3 : w2.heap.size ≤ w3.heap.size := (show Ext w2 w3 from (by with_reducible repeat' first | exact Ext.refl _ | assumption | apply Ext.alloc_r | apply Ext.drew_r | apply Ext.drewN_r | refine Ext.trans ?_ ‹Ext _ _›)).size
  have xhw4 : Ext w2 w4 := (by with_reducible repeat' first | exact Ext.refl _ | assumption | apply Ext.alloc_r | apply Ext.drew_r | apply Ext.drewN_r | refine Ext.trans ?_ ‹Ext _ _›)
  have szw4 : w2.heap.size ≤ w4.heap.size := xhw4.size
  replace bxa := bxa.ext xhw4
  replace bxr := bxr.ext xhw4
  have hmx : max (P1 : Int) (P2 : Int) = ((max P1 P2 : Nat) : Int) := by omega
  have hLX : max P1 P2 ≤ 1280 := by omega
  rw [hmx]
  clear hmx HL1 HL2
  generalize max P1 P2 = LX at *
  have hPk : LX * k ≤ 1280 * 16777216 := Nat.mul_le_mul hLX hk
  have HMU : Hid (∀ w', Calls Tryz.prog 97 #[.int .u64 LX, .int .u64 k] w' fun e w'' => e = .returned (.tuple #[.int .u64 0, .int .u64 (LX * k : Nat)]) ∧ w'' = w') := fun w' => by
    have h5 := Tryz.bits_Mul64 LX k (by omega) (by omega) w'
    rw [Nat.div_eq_of_lt (by omega), Nat.mod_eq_of_lt (by omega)] at h5
    exact h5
  generalize LX * k = PP at *
  have x0w : Ext w w4 := (by with_reducible repeat' first | exact Ext.refl _ | assumption | apply Ext.alloc_r | apply Ext.drew_r | apply Ext.drewN_r | refine Ext.trans ?_ ‹Ext _ _›)
  have ka_0 := bxa.c 0 (.bool sn) rfl
  have ka_1 := bxa.c 1 (.slice An Ln cn) rfl
  have ka_2 := bxa.c 2 (.slice Bn Mn dn) rfl
  have kr_0 := bxr.c 0 (.bool false) rfl
  have kr_1 := bxr.c 1 (.slice none 0 0) rfl
  have kr_2 := bxr.c 2 (.slice none 0 0) rfl
  go_wp2_with fail
  clear ka_0 ka_1 ka_2 kr_0 kr_1 kr_2
  refine (HMU.out _).mono ?_
  rintro e w4 ⟨rfl, rfl⟩
  clear HMU HA HD
  have ka_0 := bxa.c 0 (.bool sn) rfl
  have ka_1 := bxa.c 1 (.slice An Ln cn) rfl
  have ka_2 := bxa.c 2 (.slice Bn Mn dn) rfl
  have kr_0 := bxr.c 0 (.bool false) rfl
  have fr_0 := bxr.f 0
  have kr_1 := bxr.c 1 (.slice none 0 0) rfl
  have fr_1 := bxr.f 1
  have kr_2 := bxr.c 2 (.slice none 0 0) rfl
  have fr_2 := bxr.f 2
  go_wp2_with fail
  clear ka_0 ka_1 ka_2 kr_0 fr_0 kr_1 fr_1 kr_2 fr_2
  obtain ⟨w5, hw⟩ : ∃ z : World, z = (((w4.setCell ⟨w.heap.size + 1, 0, none⟩ (.bool false)).setCell ⟨w.heap.size + 1, 1, none⟩ (.slice none 0 0)).setCell ⟨w.heap.size + 1, 2, none⟩ (.slice none 0 0)) := ⟨_, rfl⟩
  rw [← hw]
  have kw5 : Kept w4 w5 := by rw [hw]; exact (Kept.set_ (Kept.set_ (Kept.set_ (Kept.refl _) bxr.isBox plain_rat) (IsBox.set_ bxr.isBox) plain_rat) (IsBox.set_ (IsBox.set_ bxr.isBox)) plain_rat)
  have nba : BK w5 (w.heap.size) 27 #[.bool sn, .slice An Ln cn, .slice Bn Mn dn] := by rw [hw]; exact (BK.far (BK.far (BK.far bxa (show w.heap.size ≠ w.heap.size + 1 by omega) 0 _) (show w.heap.size ≠ w.heap.size + 1 by omega) 1 _) (show w.heap.size ≠ w.heap.size + 1 by omega) 2 _)
  have nbr : BK w5 (w.heap.size + 1) 27 #[.bool false, .slice none 0 0, .slice none 0 0] := by rw [hw]; exact (BK.set (i := 2) (u := .slice none 0 0) (vs' := #[.bool false, .slice none 0 0, .slice none 0 0]) (BK.set (i := 1) (u := .slice none 0 0) (vs' := #[.bool false, .slice none 0 0, .slice none 0 0]) (BK.set (i := 0) (u := .bool false) (vs' := #[.bool false, .slice none 0 0, .slice none 0 0]) bxr rfl) rfl) rfl)
  have x5 : Ext w w5 := by rw [hw]; have hxp : Ext w w4 := (by with_reducible repeat' first | exact Ext.refl _ | assumption | apply Ext.alloc_r | apply Ext.drew_r | apply Ext.drewN_r | refine Ext.trans ?_ ‹Ext _ _›); exact (Ext.set_ (Ext.set_ (Ext.set_ hxp (show _ ≤ w.heap.size + 1 by omega)) (show _ ≤ w.heap.size + 1 by omega)) (show _ ≤ w.heap.size + 1 by omega))
  clear bxa
  clear bxr
  have bxa := nba
  clear nba
  have bxr := nbr
  clear nbr
  have szw5 : w5.heap.size = w4.heap.size := by rw [hw]; simp
  clear hw kw5
  have kr_0 := bxr.c 0 (.bool false) rfl
  have kr_1 := bxr.c 1 (.slice none 0 0) rfl
  have kr_2 := bxr.c 2 (.slice none 0 0) rfl
  refine bodyPost_ret (v := .tuple #[.agg #[.bool false, .slice none 0 0, .slice none 0 0], .int .i64 8]) (by simp [results, Tryz.results70, go_sem, kr_0, kr_1, kr_2]) rfl ?_
  exact ⟨rfl, x5⟩
theorem far3 : 16777216 < max (bl ((3 : Int) : Rat).num.natAbs) (bl ((3 : Int) : Rat).den) * 16777216 := by
  have h : 2 ≤ bl 3 := by
    rcases Nat.lt_or_ge (bl 3) 2 with h | h
    · have h5 := lt_pow_len (B := 2) (by omega) 3
      have h6 : 2 ^ (digs 2 3).length ≤ 2 ^ 1 := Nat.pow_le_pow_right (by omega) (by unfold bl at h; omega)
      omega
    · exact h
  have h2 : bl 3 ≤ max (bl ((3 : Int) : Rat).num.natAbs) (bl ((3 : Int) : Rat).den) := Nat.le_max_left _ _
  omega
end Go.Proofs.YtehhkeenjlpikaaGreat
