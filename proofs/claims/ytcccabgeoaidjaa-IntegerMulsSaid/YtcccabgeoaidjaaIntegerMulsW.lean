/- The walk of IntegerMuls. -/
import Derived.Test.YtcccabgeoaidjaaLaw2
import Derived.Test.YtcccabgeoaidjaaIntD
import Derived.Test.YtcccabgeoaidjaaKept
namespace Go.Proofs.Ytcccabgeoaidjaa
open Go.RowKit
set_option maxHeartbeats 4000000 in
set_option maxRecDepth 100000 in
theorem integerMuls_walk {w : World} {s1 : Bool} {A1 : Option Addr} {c1 L1 : Nat} {z1 : Int} {s2 : Bool} {A2 : Option Addr} {c2 L2 : Nat} {z2 : Int} {n : Int} (h1 : ZV w s1 A1 c1 L1 z1) (h2 : ZV w s2 A2 c2 L2 z2) (hb : -9223372036854775808 ≤ n ∧ n ≤ 9223372036854775807) :
    Calls Try.prog 3 #[.agg #[.bool s1, .slice A1 L1 c1], .agg #[.bool s2, .slice A2 L2 c2], .int .i64 n] w fun e w' => e = .returned (.bool true) ∧ Ext w w' := by
  have p1 := h1.nv.cap
  have q1 := h1.nv.le
  have p2 := h2.nv.cap
  have q2 := h2.nv.le
  by_cases hf : (decide (L1 ≤ 10) && (decide (L2 ≤ 10) && decide (L1 ≤ 10))) = true
  · skip
    have k1 := hf
    simp only [Bool.and_eq_true, decide_eq_true_eq] at k1
    have HF := Lib.hid hf
    clear hf
    by_cases hn : n ≤ 2000
    · skip
      obtain ⟨m, hm⟩ : ∃ m : Nat, m = n.toNat := ⟨_, rfl⟩
      have HH := Lib.hid hm
      clear hm
      have b1 : dl z1.natAbs ≤ 10 := Nat.le_trans h1.nv.dl k1.1
      have b2 : dl z2.natAbs ≤ 10 := Nat.le_trans h2.nv.dl k1.2.1
      have b3 : bl z1.natAbs ≤ 320 := Nat.le_trans h1.nv.bl (by omega)
      have b4 : bl z2.natAbs ≤ 320 := Nat.le_trans h2.nv.bl (by omega)
      have b5 : bl (z1 * z2).natAbs ≤ 640 := by rw [Int.natAbs_mul]; have := bl_mul z1.natAbs z2.natAbs; omega
      have hbm : bl (z1 * 2 ^ m).natAbs ≤ 4000 := by
        have h3 : m ≤ 2000 := by rw [HH.out]; omega
        have h1' := bl_mul z1.natAbs (2 ^ m)
        have h2' : bl (2 ^ m) ≤ m + 1 := digs_len_le (by omega) (Nat.pow_lt_pow_right (by omega) (by omega))
        rw [natAbs_shl]
        omega
      go_enter Try.func3, Try.ntmps3
      go_wp2_with fail
      obtain ⟨w0, hw0⟩ : ∃ z : World, z = ((w.alloc (.cells #[.bool s1, .slice A1 L1 c1] 25)).alloc (.cells #[.bool s2, .slice A2 L2 c2] 25)) := ⟨_, rfl⟩
      rw [← hw0]
      have b0 := box_at w #[.bool s1, .slice A1 L1 c1] 25
      have b1 := box_at (w.alloc (.cells #[.bool s1, .slice A1 L1 c1] 25)) #[.bool s2, .slice A2 L2 c2] 25
      have hsz : w0.heap.size = w.heap.size + 1 + 1 := by rw [hw0]; simp
      rw [← hw0] at b1
      have y1 : Ext (w.alloc (.cells #[.bool s1, .slice A1 L1 c1] 25)) w0 := by rw [hw0]; exact Ext.alloc _ _
      have y0 : Ext w w0 := (Ext.alloc _ _).trans y1
      have x0 : Ext w w0 := y0
      have e0_0 := y1.cell (b0.1 0 (.bool s1) rfl)
      have e0_1 := y1.cell (b0.1 1 (.slice A1 L1 c1) rfl)
      have e1_0 := b1.1 0 (.bool s2) rfl
      have e1_1 := b1.1 1 (.slice A2 L2 c2) rfl
      simp only [World.size_alloc] at e1_0 e1_1
      clear hw0 b0 b1 y0 y1
      go_wp2_with fail
      refine (lawake_z _).mono ?_
      rintro e w1 ⟨rfl, x1⟩
      replace e0_0 := x1.cell e0_0
      replace e0_1 := x1.cell e0_1
      replace e1_0 := x1.cell e1_0
      replace e1_1 := x1.cell e1_1
      go_wp2_with fail
      refine (lfew_z (n := 10) (by omega) (by omega) (by omega)).mono ?_
      rintro e w2 ⟨rfl, x2⟩
      replace e0_0 := x2.cell e0_0
      replace e0_1 := x2.cell e0_1
      replace e1_0 := x2.cell e1_0
      replace e1_1 := x2.cell e1_1
      rw [HF.out]
      clear hsz
      go_wp2_with fail
      refine (lof_z (h1.ext (by repeat' (first | exact Ext.refl _ | assumption | refine Ext.trans ?_ (Ext.alloc _ _) | refine Ext.trans ?_ (Ext.drew _) | refine Ext.trans ?_ ‹Ext _ _›))) (by omega)).mono ?_
      rintro e w3 ⟨gp, Ap, cp, Lp, rfl, p, x3⟩
      replace e0_0 := x3.cell e0_0
      replace e0_1 := x3.cell e0_1
      replace e1_0 := x3.cell e1_0
      replace e1_1 := x3.cell e1_1
      go_wp2_with fail
      obtain ⟨w4, hw⟩ : ∃ z : World, z = (w3.alloc (.cells #[.int .i64 gp, .slice Ap Lp cp] 30)) := ⟨_, rfl⟩
      rw [← hw]
      have x4 : Ext w3 w4 := by rw [hw]; exact Ext.alloc _ _
      have bb := box_at w3 #[.int .i64 gp, .slice Ap Lp cp] 30
      rw [← hw] at bb
      replace e0_0 := x4.cell e0_0
      replace e0_1 := x4.cell e0_1
      replace e1_0 := x4.cell e1_0
      replace e1_1 := x4.cell e1_1
      have p_0 := bb.1 0 (.int .i64 gp) rfl
      have p_1 := bb.1 1 (.slice Ap Lp cp) rfl
      clear hw bb
      have HU : Hid (∀ w', Ext w3 w' → Calls Try.prog 15 #[.slice Ap Lp cp, .int .i64 (max n 0)] w' (RetB w' (z1.natAbs * 2 ^ m))) := fun w' hx => by
        rw [p.len, show max n 0 = (m : Int) from by rw [HH.out]; omega]
        exact up_any (p.bn.ext hx) (by show bl _ ≤ _; omega) (by have := HH.out; omega)
      have HM : Hid (∀ w' A c b, b = decide (gp < 0) → BN w' A c (z1.natAbs * 2 ^ m) → Calls Try.prog 14 #[.bool b, .slice A (digs 2 (z1.natAbs * 2 ^ m)).length c] w' (RetRZ w' (z1 * 2 ^ m))) := fun w' A c b hb h => by
        subst hb
        have hp : (0 : Int) ≤ 2 ^ m := Int.pow_nonneg (by omega)
        refine make_rz h (natAbs_shl _ _) (fun e => ?_) (fun e => ?_)
        · have h0 := of_decide_eq_true e
          rw [p.sign] at h0
          have hz : z1 ≤ 0 := by rcases sign_cases z1 with ⟨a, b⟩ | ⟨a, b⟩ | ⟨a, b⟩ <;> omega
          have := Int.mul_nonneg (Int.neg_nonneg_of_nonpos hz) hp
          rw [Int.neg_mul] at this
          omega
        · have h0 := of_decide_eq_false e
          rw [p.sign] at h0
          have hz : 0 ≤ z1 := by rcases sign_cases z1 with ⟨a, b⟩ | ⟨a, b⟩ | ⟨a, b⟩ <;> omega
          exact Int.mul_nonneg hz hp
      go_wp2_with fail
      go_cut [8] (fun s8 wx => PutRZ w4 wx (z1 * 2 ^ m) s8)
      case first =>
        have HK : Hid (∀ w', Ext w4 w' → Ext w4 w' ∧ w'.cell? ⟨w.heap.size, 0, none⟩ = some (.bool s1) ∧ w'.cell? ⟨w.heap.size, 1, none⟩ = some (.slice A1 L1 c1) ∧ w'.cell? ⟨w.heap.size + 1, 0, none⟩ = some (.bool s2) ∧ w'.cell? ⟨w.heap.size + 1, 1, none⟩ = some (.slice A2 L2 c2) ∧ w'.cell? ⟨w3.heap.size, 0, none⟩ = some (.int .i64 gp) ∧ w'.cell? ⟨w3.heap.size, 1, none⟩ = some (.slice Ap Lp cp)) := fun w' hk => ⟨hk, hk.cell e0_0, hk.cell e0_1, hk.cell e1_0, hk.cell e1_1, hk.cell p_0, hk.cell p_1⟩
        go_region_held3 (fun w' => Ext w4 w' ∧ w'.cell? ⟨w.heap.size, 0, none⟩ = some (.bool s1) ∧ w'.cell? ⟨w.heap.size, 1, none⟩ = some (.slice A1 L1 c1) ∧ w'.cell? ⟨w.heap.size + 1, 0, none⟩ = some (.bool s2) ∧ w'.cell? ⟨w.heap.size + 1, 1, none⟩ = some (.slice A2 L2 c2) ∧ w'.cell? ⟨w3.heap.size, 0, none⟩ = some (.int .i64 gp) ∧ w'.cell? ⟨w3.heap.size, 1, none⟩ = some (.slice Ap Lp cp))
          ((refine HK.out _ ?_; (repeat' (first | exact Ext.refl _ | assumption | refine Ext.trans ?_ (Ext.alloc _ _) | refine Ext.trans ?_ (Ext.drew _) | refine Ext.set_ ?_ (by first | exact Nat.le_refl _ | exact Nat.le_succ _ | exact Ext.size (by repeat' (first | exact Ext.refl _ | assumption | refine Ext.trans ?_ (Ext.alloc _ _) | refine Ext.trans ?_ (Ext.drew _) | refine Ext.trans ?_ ‹Ext _ _›)) | exact Nat.le_succ_of_le (Ext.size (by repeat' (first | exact Ext.refl _ | assumption | refine Ext.trans ?_ (Ext.alloc _ _) | refine Ext.trans ?_ (Ext.drew _) | refine Ext.trans ?_ ‹Ext _ _›)))) | refine Ext.trans ?_ ‹Ext _ _›))))
          (first
            | (go_at_call 15; refine (HU.out _ (by repeat' (first | exact Ext.refl _ | assumption | refine Ext.trans ?_ (Ext.alloc _ _) | refine Ext.trans ?_ (Ext.drew _) | refine Ext.trans ?_ ‹Ext _ _›))).mono ?_; rintro e w5 ⟨Au, cu, rfl, u, x5⟩)
            | (go_at_call 14; refine (HM.out _ _ _ _ rfl (u.ext (by repeat' (first | exact Ext.refl _ | assumption | refine Ext.trans ?_ (Ext.alloc _ _) | refine Ext.trans ?_ (Ext.drew _) | refine Ext.trans ?_ ‹Ext _ _›)))).mono ?_; rintro e w6 ⟨gup, Aup, cup, Lup, rfl, up, x6⟩; (try (have h6_1e : Ext (w4.alloc (.cells #[.int .i64 0, .slice none 0 0] 30)) w6 := ?h6_1g; (case h6_1g => ((repeat' (first | exact Ext.refl _ | assumption | refine Ext.trans ?_ (Ext.alloc _ _) | refine Ext.trans ?_ (Ext.drew _) | refine Ext.trans ?_ ‹Ext _ _›)); done)); have h6_1 := box_ext h6_1e; have h6_1c0 := (h6_1.1 0 (.int .i64 0) rfl).1; have h6_1f0 := (h6_1.1 0 (.int .i64 0) rfl).2; have h6_1c1 := (h6_1.1 1 (.slice none 0 0) rfl).1; have h6_1f1 := (h6_1.1 1 (.slice none 0 0) rfl).2; clear h6_1e; have h6_1b := h6_1.2.1; have h6_1z := h6_1.2.2; (try simp only [World.size_alloc] at h6_1b h6_1z h6_1c0 h6_1f0 h6_1c1 h6_1f1); clear h6_1)); (try (have h6_2e : Ext (w5.alloc (.cells #[.int .i64 0, .slice none 0 0] 30)) w6 := ?h6_2g; (case h6_2g => ((repeat' (first | exact Ext.refl _ | assumption | refine Ext.trans ?_ (Ext.alloc _ _) | refine Ext.trans ?_ (Ext.drew _) | refine Ext.trans ?_ ‹Ext _ _›)); done)); have h6_2 := box_ext h6_2e; have h6_2c0 := (h6_2.1 0 (.int .i64 0) rfl).1; have h6_2f0 := (h6_2.1 0 (.int .i64 0) rfl).2; have h6_2c1 := (h6_2.1 1 (.slice none 0 0) rfl).1; have h6_2f1 := (h6_2.1 1 (.slice none 0 0) rfl).2; clear h6_2e; have h6_2b := h6_2.2.1; have h6_2z := h6_2.2.2; (try simp only [World.size_alloc] at h6_2b h6_2z h6_2c0 h6_2f0 h6_2c1 h6_2f1); clear h6_2))))
        all_goals (clear HK; go_wp2_with fail; go_meet)
        all_goals
          refine PutRZ.mk (sg := gup) (A := Aup) (c := cup) (L := Lup) ?_ (up.kept ?_) ?_
          · refine Bx.mk2 ?_ ?_ ?_ ?_ ?_
            · (repeat' (first | assumption | exact IsBox.new _ _ (by first | rfl | simp) | refine IsBox.set_ ?_ | refine IsBox.alloc_ ?_ | refine IsBox.drew_ ?_ | refine IsBox.ext ?_ ‹Ext _ _›))
            · go_simp
            · go_simp
            · go_simp
            · go_simp
          · (repeat' (first | exact Kept.refl _ | refine Kept.trans ?_ (Ext.kept (Ext.alloc _ _)) | refine Kept.trans ?_ (Ext.kept (Ext.drew _)) | refine Kept.set_ (T := 30) ?_ (by (repeat' (first | assumption | exact IsBox.new _ _ (by first | rfl | simp) | refine IsBox.set_ ?_ | refine IsBox.alloc_ ?_ | refine IsBox.drew_ ?_ | refine IsBox.ext ?_ ‹Ext _ _›))) plain_Z | refine Kept.set_ (T := 25) ?_ (by (repeat' (first | assumption | exact IsBox.new _ _ (by first | rfl | simp) | refine IsBox.set_ ?_ | refine IsBox.alloc_ ?_ | refine IsBox.drew_ ?_ | refine IsBox.ext ?_ ‹Ext _ _›))) plain_int | refine Kept.trans ?_ (Ext.kept ‹Ext _ _›)))
          · (repeat' (first | exact Ext.refl _ | assumption | refine Ext.trans ?_ (Ext.alloc _ _) | refine Ext.trans ?_ (Ext.drew _) | refine Ext.set_ ?_ (by first | exact Nat.le_refl _ | exact Nat.le_succ _ | exact Ext.size (by repeat' (first | exact Ext.refl _ | assumption | refine Ext.trans ?_ (Ext.alloc _ _) | refine Ext.trans ?_ (Ext.drew _) | refine Ext.trans ?_ ‹Ext _ _›)) | exact Nat.le_succ_of_le (Ext.size (by repeat' (first | exact Ext.refl _ | assumption | refine Ext.trans ?_ (Ext.alloc _ _) | refine Ext.trans ?_ (Ext.drew _) | refine Ext.trans ?_ ‹Ext _ _›)))) | refine Ext.trans ?_ ‹Ext _ _›))
      case rest =>
        have hcw := hcut
        have hc_0 := hcw
        obtain ⟨gq, Aq, cq, Lq, ⟨bq, rfl, ibq, ccq⟩, q, xxq⟩ := hc_0
        have x7 := xxq
        clear xxq
        replace e0_0 := x7.cell e0_0
        replace e0_1 := x7.cell e0_1
        replace e1_0 := x7.cell e1_0
        replace e1_1 := x7.cell e1_1
        replace p_0 := x7.cell p_0
        replace p_1 := x7.cell p_1
        have q_0 := (ccq 0 _ rfl).1
        have q_1 := (ccq 1 _ rfl).1
        clear ccq
        go_wp2_with fail
        have HK : Hid (∀ w', Ext wc w' → Ext wc w' ∧ w'.cell? ⟨w.heap.size, 0, none⟩ = some (.bool s1) ∧ w'.cell? ⟨w.heap.size, 1, none⟩ = some (.slice A1 L1 c1) ∧ w'.cell? ⟨w.heap.size + 1, 0, none⟩ = some (.bool s2) ∧ w'.cell? ⟨w.heap.size + 1, 1, none⟩ = some (.slice A2 L2 c2) ∧ w'.cell? ⟨w3.heap.size, 0, none⟩ = some (.int .i64 gp) ∧ w'.cell? ⟨w3.heap.size, 1, none⟩ = some (.slice Ap Lp cp) ∧ w'.cell? ⟨bq, 0, none⟩ = some (.int .i64 gq) ∧ w'.cell? ⟨bq, 1, none⟩ = some (.slice Aq Lq cq)) := fun w' hk => ⟨hk, hk.cell e0_0, hk.cell e0_1, hk.cell e1_0, hk.cell e1_1, hk.cell p_0, hk.cell p_1, hk.cell q_0, hk.cell q_1⟩
        go_region_held3 (fun w' => Ext wc w' ∧ w'.cell? ⟨w.heap.size, 0, none⟩ = some (.bool s1) ∧ w'.cell? ⟨w.heap.size, 1, none⟩ = some (.slice A1 L1 c1) ∧ w'.cell? ⟨w.heap.size + 1, 0, none⟩ = some (.bool s2) ∧ w'.cell? ⟨w.heap.size + 1, 1, none⟩ = some (.slice A2 L2 c2) ∧ w'.cell? ⟨w3.heap.size, 0, none⟩ = some (.int .i64 gp) ∧ w'.cell? ⟨w3.heap.size, 1, none⟩ = some (.slice Ap Lp cp) ∧ w'.cell? ⟨bq, 0, none⟩ = some (.int .i64 gq) ∧ w'.cell? ⟨bq, 1, none⟩ = some (.slice Aq Lq cq))
          ((refine HK.out _ ?_; (repeat' (first | exact Ext.refl _ | assumption | refine Ext.trans ?_ (Ext.alloc _ _) | refine Ext.trans ?_ (Ext.drew _) | refine Ext.trans ?_ ‹Ext _ _›))))
          (first
            | (go_at_call 17; refine (mul_z (h1.ext (by repeat' (first | exact Ext.refl _ | assumption | refine Ext.trans ?_ (Ext.alloc _ _) | refine Ext.trans ?_ (Ext.drew _) | refine Ext.trans ?_ ‹Ext _ _›))) (h2.ext (by repeat' (first | exact Ext.refl _ | assumption | refine Ext.trans ?_ (Ext.alloc _ _) | refine Ext.trans ?_ (Ext.drew _) | refine Ext.trans ?_ ‹Ext _ _›))) (by omega) (by omega)).mono ?_; rintro e w8 ⟨sm1, Am1, cm1, Lm1, rfl, m1, x8⟩)
            | (go_at_call 13; refine (lof_z (h2.ext (by repeat' (first | exact Ext.refl _ | assumption | refine Ext.trans ?_ (Ext.alloc _ _) | refine Ext.trans ?_ (Ext.drew _) | refine Ext.trans ?_ ‹Ext _ _›))) (by omega)).mono ?_; rintro e w9 ⟨gr, Ar, cr, Lr, rfl, r, x9⟩)
            | (go_at_call 18; refine (mul_rz (p.ext (by repeat' (first | exact Ext.refl _ | assumption | refine Ext.trans ?_ (Ext.alloc _ _) | refine Ext.trans ?_ (Ext.drew _) | refine Ext.trans ?_ ‹Ext _ _›))) (r.ext (by repeat' (first | exact Ext.refl _ | assumption | refine Ext.trans ?_ (Ext.alloc _ _) | refine Ext.trans ?_ (Ext.drew _) | refine Ext.trans ?_ ‹Ext _ _›))) (by omega) (by omega)).mono ?_; rintro e w10 ⟨gpr, Apr, cpr, Lpr, rfl, pr, x10⟩)
            | (go_at_call_of 16 (Value.agg #[.bool sm1, .slice Am1 Lm1 cm1]); refine (lis_z (m1.ext (by repeat' (first | exact Ext.refl _ | assumption | refine Ext.trans ?_ (Ext.alloc _ _) | refine Ext.trans ?_ (Ext.drew _) | refine Ext.trans ?_ ‹Ext _ _›))) (pr.ext (by repeat' (first | exact Ext.refl _ | assumption | refine Ext.trans ?_ (Ext.alloc _ _) | refine Ext.trans ?_ (Ext.drew _) | refine Ext.trans ?_ ‹Ext _ _›))) (by omega)).mono ?_; rintro e w11 ⟨rfl, x11⟩)
            | (go_at_call 19; refine (zshl_z (h1.ext (by repeat' (first | exact Ext.refl _ | assumption | refine Ext.trans ?_ (Ext.alloc _ _) | refine Ext.trans ?_ (Ext.drew _) | refine Ext.trans ?_ ‹Ext _ _›))) (by omega) (by omega) HH.out).mono ?_; rintro e w12 ⟨sm2, Am2, cm2, Lm2, rfl, m2, x12⟩)
            | (go_at_call_of 16 (Value.agg #[.bool sm2, .slice Am2 Lm2 cm2]); refine (lis_z (m2.ext (by repeat' (first | exact Ext.refl _ | assumption | refine Ext.trans ?_ (Ext.alloc _ _) | refine Ext.trans ?_ (Ext.drew _) | refine Ext.trans ?_ ‹Ext _ _›))) (q.ext (by repeat' (first | exact Ext.refl _ | assumption | refine Ext.trans ?_ (Ext.alloc _ _) | refine Ext.trans ?_ (Ext.drew _) | refine Ext.trans ?_ ‹Ext _ _›))) (by omega)).mono ?_; rintro e w13 ⟨rfl, x13⟩))
        clear HK
        have xx : Ext w w13 := (by repeat' (first | exact Ext.refl _ | assumption | refine Ext.trans ?_ (Ext.alloc _ _) | refine Ext.trans ?_ (Ext.drew _) | refine Ext.trans ?_ ‹Ext _ _›))
        go_wp2_with fail
        go_ret
        exact ⟨rfl, (by repeat' (first | exact Ext.refl _ | assumption | refine Ext.trans ?_ (Ext.alloc _ _) | refine Ext.trans ?_ (Ext.drew _) | refine Ext.trans ?_ ‹Ext _ _›))⟩
    · have hn' : 2000 < n := by omega
      clear hn
      go_enter Try.func3, Try.ntmps3
      go_wp2_with fail
      obtain ⟨w0, hw0⟩ : ∃ z : World, z = ((w.alloc (.cells #[.bool s1, .slice A1 L1 c1] 25)).alloc (.cells #[.bool s2, .slice A2 L2 c2] 25)) := ⟨_, rfl⟩
      rw [← hw0]
      have b0 := box_at w #[.bool s1, .slice A1 L1 c1] 25
      have b1 := box_at (w.alloc (.cells #[.bool s1, .slice A1 L1 c1] 25)) #[.bool s2, .slice A2 L2 c2] 25
      have hsz : w0.heap.size = w.heap.size + 1 + 1 := by rw [hw0]; simp
      rw [← hw0] at b1
      have y1 : Ext (w.alloc (.cells #[.bool s1, .slice A1 L1 c1] 25)) w0 := by rw [hw0]; exact Ext.alloc _ _
      have y0 : Ext w w0 := (Ext.alloc _ _).trans y1
      have x0 : Ext w w0 := y0
      have e0_0 := y1.cell (b0.1 0 (.bool s1) rfl)
      have e0_1 := y1.cell (b0.1 1 (.slice A1 L1 c1) rfl)
      have e1_0 := b1.1 0 (.bool s2) rfl
      have e1_1 := b1.1 1 (.slice A2 L2 c2) rfl
      simp only [World.size_alloc] at e1_0 e1_1
      clear hw0 b0 b1 y0 y1
      go_wp2_with fail
      refine (lawake_z _).mono ?_
      rintro e w1 ⟨rfl, x1⟩
      replace e0_0 := x1.cell e0_0
      replace e0_1 := x1.cell e0_1
      replace e1_0 := x1.cell e1_0
      replace e1_1 := x1.cell e1_1
      go_wp2_with fail
      refine (lfew_z (n := 10) (by omega) (by omega) (by omega)).mono ?_
      rintro e w2 ⟨rfl, x2⟩
      replace e0_0 := x2.cell e0_0
      replace e0_1 := x2.cell e0_1
      replace e1_0 := x2.cell e1_0
      replace e1_1 := x2.cell e1_1
      rw [HF.out]
      clear hsz
      go_wp2_with fail
      refine (lawake_z _).mono ?_
      rintro e w3 ⟨rfl, x3⟩
      replace e0_0 := x3.cell e0_0
      replace e0_1 := x3.cell e0_1
      replace e1_0 := x3.cell e1_0
      replace e1_1 := x3.cell e1_1
      go_wp2_with fail
      go_ret
      exact ⟨rfl, (by repeat' (first | exact Ext.refl _ | assumption | refine Ext.trans ?_ (Ext.alloc _ _) | refine Ext.trans ?_ (Ext.drew _) | refine Ext.trans ?_ ‹Ext _ _›))⟩
  · have hf' : (decide (L1 ≤ 10) && (decide (L2 ≤ 10) && decide (L1 ≤ 10))) = false := by simpa using hf
    have HF := Lib.hid hf'
    clear hf hf'
    go_enter Try.func3, Try.ntmps3
    go_wp2_with fail
    obtain ⟨w0, hw0⟩ : ∃ z : World, z = ((w.alloc (.cells #[.bool s1, .slice A1 L1 c1] 25)).alloc (.cells #[.bool s2, .slice A2 L2 c2] 25)) := ⟨_, rfl⟩
    rw [← hw0]
    have b0 := box_at w #[.bool s1, .slice A1 L1 c1] 25
    have b1 := box_at (w.alloc (.cells #[.bool s1, .slice A1 L1 c1] 25)) #[.bool s2, .slice A2 L2 c2] 25
    have hsz : w0.heap.size = w.heap.size + 1 + 1 := by rw [hw0]; simp
    rw [← hw0] at b1
    have y1 : Ext (w.alloc (.cells #[.bool s1, .slice A1 L1 c1] 25)) w0 := by rw [hw0]; exact Ext.alloc _ _
    have y0 : Ext w w0 := (Ext.alloc _ _).trans y1
    have x0 : Ext w w0 := y0
    have e0_0 := y1.cell (b0.1 0 (.bool s1) rfl)
    have e0_1 := y1.cell (b0.1 1 (.slice A1 L1 c1) rfl)
    have e1_0 := b1.1 0 (.bool s2) rfl
    have e1_1 := b1.1 1 (.slice A2 L2 c2) rfl
    simp only [World.size_alloc] at e1_0 e1_1
    clear hw0 b0 b1 y0 y1
    go_wp2_with fail
    refine (lawake_z _).mono ?_
    rintro e w1 ⟨rfl, x1⟩
    replace e0_0 := x1.cell e0_0
    replace e0_1 := x1.cell e0_1
    replace e1_0 := x1.cell e1_0
    replace e1_1 := x1.cell e1_1
    go_wp2_with fail
    refine (lfew_z (n := 10) (by omega) (by omega) (by omega)).mono ?_
    rintro e w2 ⟨rfl, x2⟩
    replace e0_0 := x2.cell e0_0
    replace e0_1 := x2.cell e0_1
    replace e1_0 := x2.cell e1_0
    replace e1_1 := x2.cell e1_1
    rw [HF.out]
    clear hsz
    go_wp2_with fail
    refine (lawake_z _).mono ?_
    rintro e w3 ⟨rfl, x3⟩
    replace e0_0 := x3.cell e0_0
    replace e0_1 := x3.cell e0_1
    replace e1_0 := x3.cell e1_0
    replace e1_1 := x3.cell e1_1
    go_wp2_with fail
    go_ret
    exact ⟨rfl, (by repeat' (first | exact Ext.refl _ | assumption | refine Ext.trans ?_ (Ext.alloc _ _) | refine Ext.trans ?_ (Ext.drew _) | refine Ext.trans ?_ ‹Ext _ _›))⟩
end Go.Proofs.Ytcccabgeoaidjaa
