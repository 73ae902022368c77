/- The walk of IntegerAdds. -/
import Derived.Test.YtcccabgeoaidjaaLaw2
import Derived.Test.YtcccabgeoaidjaaIntD
import Derived.Test.YtcccabgeoaidjaaKept
namespace Go.Proofs.Ytcccabgeoaidjaa
open Go.RowKit
set_option maxHeartbeats 40000000 in
set_option maxRecDepth 100000 in
theorem integerAdds_walk {w : World} {s1 : Bool} {A1 : Option Addr} {c1 L1 : Nat} {z1 : Int} {s2 : Bool} {A2 : Option Addr} {c2 L2 : Nat} {z2 : Int} (h1 : ZV w s1 A1 c1 L1 z1) (h2 : ZV w s2 A2 c2 L2 z2) :
    Calls Try.prog 7 #[.agg #[.bool s1, .slice A1 L1 c1], .agg #[.bool s2, .slice A2 L2 c2]] w fun e w' => e = .returned (.bool true) ∧ Ext w w' := by
  have p1 := h1.nv.cap
  have q1 := h1.nv.le
  have p2 := h2.nv.cap
  have q2 := h2.nv.le
  by_cases hf : (decide (L1 ≤ 20) && (decide (L2 ≤ 20) && decide (L1 ≤ 20))) = true
  · skip
    have k1 := hf
    simp only [Bool.and_eq_true, decide_eq_true_eq] at k1
    have HF := Lib.hid hf
    clear hf
    have d1 : dl z1.natAbs ≤ 20 := Nat.le_trans h1.nv.dl (by omega)
    have l1 : bl z1.natAbs ≤ 640 := Nat.le_trans h1.nv.bl (by omega)
    have d2 : dl z2.natAbs ≤ 20 := Nat.le_trans h2.nv.dl (by omega)
    have l2 : bl z2.natAbs ≤ 640 := Nat.le_trans h2.nv.bl (by omega)
    have l3 : bl (z1 + z2).natAbs ≤ 1000 := Nat.le_trans (bl_mono (show (z1 + z2).natAbs ≤ z1.natAbs + z2.natAbs by omega)) (by have := bl_add z1.natAbs z2.natAbs; omega)
    have l4 : bl (z1 - z2).natAbs ≤ 1000 := Nat.le_trans (bl_mono (show (z1 - z2).natAbs ≤ z1.natAbs + z2.natAbs by omega)) (by have := bl_add z1.natAbs z2.natAbs; omega)
    rcases Int.lt_or_le z1 0 with hz | hz
    · have HN : Hid (z1.sign < 0) := Lib.hid (by rw [Int.sign_eq_neg_one_of_neg hz]; omega)
      have HA : Hid ((z1.natAbs : Int) = -z1) := by show _ = _; omega
      go_enter Try.func7, Try.ntmps7
      go_wp2_with fail
      obtain ⟨w0, hw0⟩ : ∃ z : World, z = ((w.alloc (.cells #[.bool s1, .slice A1 L1 c1] 25)).alloc (.cells #[.bool s2, .slice A2 L2 c2] 25)) := ⟨_, rfl⟩
      rw [← hw0]
      have b0 := box_at w #[.bool s1, .slice A1 L1 c1] 25
      have b1 := box_at (w.alloc (.cells #[.bool s1, .slice A1 L1 c1] 25)) #[.bool s2, .slice A2 L2 c2] 25
      have hsz : w0.heap.size = w.heap.size + 1 + 1 := by rw [hw0]; simp
      rw [← hw0] at b1
      have y1 : Ext (w.alloc (.cells #[.bool s1, .slice A1 L1 c1] 25)) w0 := by rw [hw0]; exact Ext.alloc _ _
      have y0 : Ext w w0 := (Ext.alloc _ _).trans y1
      have x0 : Ext w w0 := y0
      have e0_0 := y1.cell (b0.1 0 (.bool s1) rfl)
      have e0_1 := y1.cell (b0.1 1 (.slice A1 L1 c1) rfl)
      have e1_0 := b1.1 0 (.bool s2) rfl
      have e1_1 := b1.1 1 (.slice A2 L2 c2) rfl
      simp only [World.size_alloc] at e1_0 e1_1
      clear hw0 b0 b1 y0 y1
      go_wp2_with fail
      refine (lawake_z _).mono ?_
      rintro e w1 ⟨rfl, x1⟩
      replace e0_0 := x1.cell e0_0
      replace e0_1 := x1.cell e0_1
      replace e1_0 := x1.cell e1_0
      replace e1_1 := x1.cell e1_1
      go_wp2_with fail
      refine (lfew_z (n := 20) (by omega) (by omega) (by omega)).mono ?_
      rintro e w2 ⟨rfl, x2⟩
      replace e0_0 := x2.cell e0_0
      replace e0_1 := x2.cell e0_1
      replace e1_0 := x2.cell e1_0
      replace e1_1 := x2.cell e1_1
      rw [HF.out]
      clear hsz
      go_wp2_with fail
      go_cut [5, 6] (fun s5 s6 wx => PutRZ w2 wx z1 s5 ∧ PutRZ w2 wx z2 s6)
      case first =>
        have HK : Hid (∀ w', Ext w2 w' → Ext w2 w' ∧ w'.cell? ⟨w.heap.size, 0, none⟩ = some (.bool s1) ∧ w'.cell? ⟨w.heap.size, 1, none⟩ = some (.slice A1 L1 c1) ∧ w'.cell? ⟨w.heap.size + 1, 0, none⟩ = some (.bool s2) ∧ w'.cell? ⟨w.heap.size + 1, 1, none⟩ = some (.slice A2 L2 c2)) := fun w' hk => ⟨hk, hk.cell e0_0, hk.cell e0_1, hk.cell e1_0, hk.cell e1_1⟩
        go_region_held3 (fun w' => Ext w2 w' ∧ w'.cell? ⟨w.heap.size, 0, none⟩ = some (.bool s1) ∧ w'.cell? ⟨w.heap.size, 1, none⟩ = some (.slice A1 L1 c1) ∧ w'.cell? ⟨w.heap.size + 1, 0, none⟩ = some (.bool s2) ∧ w'.cell? ⟨w.heap.size + 1, 1, none⟩ = some (.slice A2 L2 c2))
          ((refine HK.out _ ?_; (repeat' (first | with_reducible exact Ext.refl _ | with_reducible assumption | with_reducible apply Ext.alloc_r | with_reducible apply Ext.drew_r | with_reducible apply Ext.set_r | with_reducible exact Nat.le_refl _ | omega | with_reducible refine Ext.trans ?_ ‹Ext _ _›))))
          (first
            | (go_at_call 13; refine (lof_z (h2.ext (by repeat' (first | with_reducible exact Ext.refl _ | with_reducible assumption | with_reducible apply Ext.alloc_r | with_reducible apply Ext.drew_r | with_reducible refine Ext.trans ?_ ‹Ext _ _›))) (by omega)).mono ?_; rintro e w4 ⟨gq, Aq, cq, Lq, rfl, q, x4⟩; (have zs4 := x4.size); (try simp only [World.size_alloc] at zs4); (try ((with_reducible have h4_0 := box_ext (vs := #[.int .i64 0, .slice none 0 0]) x4); have h4_0c0 := (h4_0.1 0 (.int .i64 0) rfl).1; have h4_0f0 := (h4_0.1 0 (.int .i64 0) rfl).2; have h4_0c1 := (h4_0.1 1 (.slice none 0 0) rfl).1; have h4_0f1 := (h4_0.1 1 (.slice none 0 0) rfl).2; have h4_0b := h4_0.2.1; have h4_0z := h4_0.2.2; (try simp only [World.size_alloc] at h4_0b h4_0z h4_0c0 h4_0f0 h4_0c1 h4_0f1); have h4_0m := Nat.ne_of_lt h4_0z; have h4_0n := Nat.ne_of_gt h4_0z; clear h4_0)); (try ((with_reducible have h4_1 := box_ext (vs := #[.int .i64 0, .slice none 0 0]) ((Ext.alloc _ _).trans x4)); have h4_1c0 := (h4_1.1 0 (.int .i64 0) rfl).1; have h4_1f0 := (h4_1.1 0 (.int .i64 0) rfl).2; have h4_1c1 := (h4_1.1 1 (.slice none 0 0) rfl).1; have h4_1f1 := (h4_1.1 1 (.slice none 0 0) rfl).2; have h4_1b := h4_1.2.1; have h4_1z := h4_1.2.2; (try simp only [World.size_alloc] at h4_1b h4_1z h4_1c0 h4_1f0 h4_1c1 h4_1f1); have h4_1m := Nat.ne_of_lt h4_1z; have h4_1n := Nat.ne_of_gt h4_1z; clear h4_1)); (try (have hh : Ext w3 w4 := ?g400; (case g400 => ((repeat' (first | with_reducible exact Ext.refl _ | with_reducible assumption | with_reducible apply Ext.alloc_r | with_reducible apply Ext.drew_r | with_reducible refine Ext.trans ?_ ‹Ext _ _›)); done)); replace h3_0f0 := hh.frozen h3_0c0 h3_0f0; replace h3_0c0 := hh.cell h3_0c0; replace h3_0f1 := hh.frozen h3_0c1 h3_0f1; replace h3_0c1 := hh.cell h3_0c1; replace h3_0b := h3_0b.ext hh; have h3_0z2 := Nat.lt_of_lt_of_le h3_0z hh.size; have h3_0m2 := Nat.ne_of_lt h3_0z2; have h3_0n2 := Nat.ne_of_gt h3_0z2; clear hh)); (try (have hh : Ext w3 w4 := ?g401; (case g401 => ((repeat' (first | with_reducible exact Ext.refl _ | with_reducible assumption | with_reducible apply Ext.alloc_r | with_reducible apply Ext.drew_r | with_reducible refine Ext.trans ?_ ‹Ext _ _›)); done)); replace h3_1f0 := hh.frozen h3_1c0 h3_1f0; replace h3_1c0 := hh.cell h3_1c0; replace h3_1f1 := hh.frozen h3_1c1 h3_1f1; replace h3_1c1 := hh.cell h3_1c1; replace h3_1b := h3_1b.ext hh; have h3_1z2 := Nat.lt_of_lt_of_le h3_1z hh.size; have h3_1m2 := Nat.ne_of_lt h3_1z2; have h3_1n2 := Nat.ne_of_gt h3_1z2; clear hh)))
            | (go_at_call 13; refine (lof_z (h1.ext (by repeat' (first | with_reducible exact Ext.refl _ | with_reducible assumption | with_reducible apply Ext.alloc_r | with_reducible apply Ext.drew_r | with_reducible refine Ext.trans ?_ ‹Ext _ _›))) (by omega)).mono ?_; rintro e w3 ⟨gp, Ap, cp, Lp, rfl, p, x3⟩; (have zs3 := x3.size); (try simp only [World.size_alloc, World.size_drew] at zs3); (try ((with_reducible have h3_0 := box_ext (vs := #[.int .i64 0, .slice none 0 0]) ((Ext.drew _).trans x3)); have h3_0c0 := (h3_0.1 0 (.int .i64 0) rfl).1; have h3_0f0 := (h3_0.1 0 (.int .i64 0) rfl).2; have h3_0c1 := (h3_0.1 1 (.slice none 0 0) rfl).1; have h3_0f1 := (h3_0.1 1 (.slice none 0 0) rfl).2; have h3_0b := h3_0.2.1; have h3_0z := h3_0.2.2; (try simp only [World.size_alloc] at h3_0b h3_0z h3_0c0 h3_0f0 h3_0c1 h3_0f1); have h3_0m := Nat.ne_of_lt h3_0z; have h3_0n := Nat.ne_of_gt h3_0z; clear h3_0)); (try ((with_reducible have h3_1 := box_ext (vs := #[.int .i64 0, .slice none 0 0]) (((Ext.alloc _ _).trans (Ext.drew _)).trans x3)); have h3_1c0 := (h3_1.1 0 (.int .i64 0) rfl).1; have h3_1f0 := (h3_1.1 0 (.int .i64 0) rfl).2; have h3_1c1 := (h3_1.1 1 (.slice none 0 0) rfl).1; have h3_1f1 := (h3_1.1 1 (.slice none 0 0) rfl).2; have h3_1b := h3_1.2.1; have h3_1z := h3_1.2.2; (try simp only [World.size_alloc] at h3_1b h3_1z h3_1c0 h3_1f0 h3_1c1 h3_1f1); have h3_1m := Nat.ne_of_lt h3_1z; have h3_1n := Nat.ne_of_gt h3_1z; clear h3_1))))
        all_goals (clear HK; go_wp2_with fail; go_meet)
        all_goals
          constructor
          · refine PutRZ.mk (sg := gp) (A := Ap) (c := cp) (L := Lp) ?_ (p.kept ?_) ?_
            · refine Bx.mk2 ?_ ?_
              · go_simp
              · go_simp
            · (repeat' (first | with_reducible exact Kept.refl _ | with_reducible apply Kept.alloc_r | with_reducible apply Kept.drew_r | (with_reducible apply Kept.setZ; (case hb => ((repeat' (first | with_reducible assumption | with_reducible apply IsBox.set_ | (with_reducible apply IsBox.new; (first | (with_reducible rfl) | simp); done) | with_reducible apply IsBox.alloc_ | with_reducible apply IsBox.drew_ | with_reducible refine IsBox.ext ?_ ‹Ext _ _›)); done))) | (with_reducible apply Kept.setI; (case hb => ((repeat' (first | with_reducible assumption | with_reducible apply IsBox.set_ | (with_reducible apply IsBox.new; (first | (with_reducible rfl) | simp); done) | with_reducible apply IsBox.alloc_ | with_reducible apply IsBox.drew_ | with_reducible refine IsBox.ext ?_ ‹Ext _ _›)); done))) | with_reducible refine Kept.trans ?_ (Ext.kept ‹Ext _ _›)))
            · (repeat' (first | with_reducible exact Ext.refl _ | with_reducible assumption | with_reducible apply Ext.alloc_r | with_reducible apply Ext.drew_r | with_reducible apply Ext.set_r | with_reducible exact Nat.le_refl _ | omega | with_reducible refine Ext.trans ?_ ‹Ext _ _›))
          · refine PutRZ.mk (sg := gq) (A := Aq) (c := cq) (L := Lq) ?_ (q.kept ?_) ?_
            · refine Bx.mk2 ?_ ?_
              · go_simp
              · go_simp
            · (repeat' (first | with_reducible exact Kept.refl _ | with_reducible apply Kept.alloc_r | with_reducible apply Kept.drew_r | (with_reducible apply Kept.setZ; (case hb => ((repeat' (first | with_reducible assumption | with_reducible apply IsBox.set_ | (with_reducible apply IsBox.new; (first | (with_reducible rfl) | simp); done) | with_reducible apply IsBox.alloc_ | with_reducible apply IsBox.drew_ | with_reducible refine IsBox.ext ?_ ‹Ext _ _›)); done))) | (with_reducible apply Kept.setI; (case hb => ((repeat' (first | with_reducible assumption | with_reducible apply IsBox.set_ | (with_reducible apply IsBox.new; (first | (with_reducible rfl) | simp); done) | with_reducible apply IsBox.alloc_ | with_reducible apply IsBox.drew_ | with_reducible refine IsBox.ext ?_ ‹Ext _ _›)); done))) | with_reducible refine Kept.trans ?_ (Ext.kept ‹Ext _ _›)))
            · (repeat' (first | with_reducible exact Ext.refl _ | with_reducible assumption | with_reducible apply Ext.alloc_r | with_reducible apply Ext.drew_r | with_reducible apply Ext.set_r | with_reducible exact Nat.le_refl _ | omega | with_reducible refine Ext.trans ?_ ‹Ext _ _›))
      case rest =>
        have hcw := hcut
        obtain ⟨hc_0, hc_1⟩ := hcw
        obtain ⟨gx, Ax, cx, Lx, ⟨bkx, rfl, ccx⟩, x, xxx⟩ := hc_0
        obtain ⟨gy, Ay, cy, Ly, ⟨bky, rfl, ccy⟩, y, xxy⟩ := hc_1
        have x5 := xxx
        clear xxx
        clear xxy
        replace e0_0 := x5.cell e0_0
        replace e0_1 := x5.cell e0_1
        replace e1_0 := x5.cell e1_0
        replace e1_1 := x5.cell e1_1
        have x_0 := ccx 0 (.int .i64 gx) rfl
        have x_1 := ccx 1 (.slice Ax Lx cx) rfl
        clear ccx
        have y_0 := ccy 0 (.int .i64 gy) rfl
        have y_1 := ccy 1 (.slice Ay Ly cy) rfl
        clear ccy
        have hs : gx < 0 := by rw [x.sign]; exact HN.out
        have HA_ab := Lib.hid (And.intro True.intro (And.intro e0_0 (And.intro e0_1 (And.intro e1_0 (And.intro e1_1 (And.intro x_0 (And.intro x_1 (And.intro y_0 y_1))))))))
        have te0_0 := fun o => (Ext.alloc wc o).cell e0_0
        have te0_1 := fun o => (Ext.alloc wc o).cell e0_1
        have te1_0 := fun o => (Ext.alloc wc o).cell e1_0
        have te1_1 := fun o => (Ext.alloc wc o).cell e1_1
        have tx_0 := fun o => (Ext.alloc wc o).cell x_0
        have tx_1 := fun o => (Ext.alloc wc o).cell x_1
        have ty_0 := fun o => (Ext.alloc wc o).cell y_0
        have ty_1 := fun o => (Ext.alloc wc o).cell y_1
        go_wp2_with fail
        clear te0_0 te0_1 te1_0 te1_1 tx_0 tx_1 ty_0 ty_1
        obtain ⟨w6, hw⟩ : ∃ z : World, z = (wc.alloc (.cells #[.int .i64 gx, .slice Ax Lx cx] 30)) := ⟨_, rfl⟩
        rw [← hw]
        have x6 : Ext wc w6 := by rw [hw]; exact Ext.alloc _ _
        have bb := box_at wc #[.int .i64 gx, .slice Ax Lx cx] 30
        rw [← hw] at bb
        replace e0_0 := x6.cell e0_0
        replace e0_1 := x6.cell e0_1
        replace e1_0 := x6.cell e1_0
        replace e1_1 := x6.cell e1_1
        replace x_0 := x6.cell x_0
        replace x_1 := x6.cell x_1
        replace y_0 := x6.cell y_0
        replace y_1 := x6.cell y_1
        have ab_0 := bb.1 0 (.int .i64 gx) rfl
        have fab_0 := bb.2 0
        have ab_1 := bb.1 1 (.slice Ax Lx cx) rfl
        have fab_1 := bb.2 1
        have ibab : IsBox w6 wc.heap.size 30 := by rw [hw]; exact IsBox.new _ _ rfl
        clear hw bb
        go_wp2_with fail
        refine (neg_rz (x.ext (by repeat' (first | with_reducible exact Ext.refl _ | with_reducible assumption | with_reducible apply Ext.alloc_r | with_reducible apply Ext.drew_r | with_reducible refine Ext.trans ?_ ‹Ext _ _›)))).mono ?_
        rintro e w7 ⟨gng, Ang, cng, Lng, rfl, ng, x7⟩
        replace fab_0 := x7.frozen ab_0 fab_0
        replace fab_1 := x7.frozen ab_1 fab_1
        replace e0_0 := x7.cell e0_0
        replace e0_1 := x7.cell e0_1
        replace e1_0 := x7.cell e1_0
        replace e1_1 := x7.cell e1_1
        replace x_0 := x7.cell x_0
        replace x_1 := x7.cell x_1
        replace y_0 := x7.cell y_0
        replace y_1 := x7.cell y_1
        replace ab_0 := x7.cell ab_0
        replace ab_1 := x7.cell ab_1
        obtain ⟨oe0_0, oe0_1, oe1_0, oe1_1, ox_0, ox_1, oy_0, oy_1⟩ := HA_ab.out.2
        have ne0_0 := Nat.ne_of_lt (World.block_lt_of_cell? wc _ oe0_0)
        have me0_0 := Nat.ne_of_gt (World.block_lt_of_cell? wc _ oe0_0)
        simp only at ne0_0 me0_0
        have ne1_0 := Nat.ne_of_lt (World.block_lt_of_cell? wc _ oe1_0)
        have me1_0 := Nat.ne_of_gt (World.block_lt_of_cell? wc _ oe1_0)
        simp only at ne1_0 me1_0
        have nx_0 := Nat.ne_of_lt (World.block_lt_of_cell? wc _ ox_0)
        have mx_0 := Nat.ne_of_gt (World.block_lt_of_cell? wc _ ox_0)
        simp only at nx_0 mx_0
        have ny_0 := Nat.ne_of_lt (World.block_lt_of_cell? wc _ oy_0)
        have my_0 := Nat.ne_of_gt (World.block_lt_of_cell? wc _ oy_0)
        simp only at ny_0 my_0
        go_wp2_with fail
        clear ne0_0 me0_0 ne1_0 me1_0 nx_0 mx_0 ny_0 my_0
        obtain ⟨w8, hw⟩ : ∃ z : World, z = ((w7.setCell ⟨wc.heap.size, 0, none⟩ (.int .i64 gng)).setCell ⟨wc.heap.size, 1, none⟩ (.slice Ang Lng cng)) := ⟨_, rfl⟩
        rw [← hw]
        have x8 : Ext wc w8 := by rw [hw]; (repeat' (first | with_reducible exact Ext.refl _ | with_reducible assumption | with_reducible apply Ext.alloc_r | with_reducible apply Ext.drew_r | with_reducible apply Ext.set_r | with_reducible exact Nat.le_refl _ | omega | with_reducible refine Ext.trans ?_ ‹Ext _ _›))
        have ib : IsBox w7 wc.heap.size 30 := IsBox.ext ibab (by repeat' (first | with_reducible exact Ext.refl _ | with_reducible assumption | with_reducible apply Ext.alloc_r | with_reducible apply Ext.drew_r | with_reducible refine Ext.trans ?_ ‹Ext _ _›))
        have kw8 : Kept w7 w8 := by rw [hw]; exact Kept.set_ (Kept.set_ (Kept.refl _) ib plain_Z) (IsBox.set_ ib) plain_Z
        replace ng := ng.kept kw8
        clear fab_0
        clear fab_1
        replace e0_0 := x8.cell oe0_0
        replace e0_1 := x8.cell oe0_1
        replace e1_0 := x8.cell oe1_0
        replace e1_1 := x8.cell oe1_1
        replace x_0 := x8.cell ox_0
        replace x_1 := x8.cell ox_1
        replace y_0 := x8.cell oy_0
        replace y_1 := x8.cell oy_1
        clear oe0_0 oe0_1 oe1_0 oe1_1 ox_0 ox_1 oy_0 oy_1
        replace ab_0 : w8.cell? ⟨wc.heap.size, 0, none⟩ = some (.int .i64 gng) := by rw [hw]; go_simp
        replace ab_1 : w8.cell? ⟨wc.heap.size, 1, none⟩ = some (.slice Ang Lng cng) := by rw [hw]; go_simp
        clear hw ib ibab kw8 HA_ab
        have ab : RZ w8 gng Ang cng Lng (z1.natAbs : Int) := by rw [HA.out]; exact ng
        go_wp2_with fail
        refine (rzcmp_z (x.ext (by repeat' (first | with_reducible exact Ext.refl _ | with_reducible assumption | with_reducible apply Ext.alloc_r | with_reducible apply Ext.drew_r | with_reducible refine Ext.trans ?_ ‹Ext _ _›))) (y.ext (by repeat' (first | with_reducible exact Ext.refl _ | with_reducible assumption | with_reducible apply Ext.alloc_r | with_reducible apply Ext.drew_r | with_reducible refine Ext.trans ?_ ‹Ext _ _›))) (by omega) (by omega)).mono ?_
        rintro e w9 ⟨rfl, x9⟩
        replace e0_0 := x9.cell e0_0
        replace e0_1 := x9.cell e0_1
        replace e1_0 := x9.cell e1_0
        replace e1_1 := x9.cell e1_1
        replace x_0 := x9.cell x_0
        replace x_1 := x9.cell x_1
        replace y_0 := x9.cell y_0
        replace y_1 := x9.cell y_1
        replace ab_0 := x9.cell ab_0
        replace ab_1 := x9.cell ab_1
        have HSg : Hid (∀ w', Ext w w' → Calls Try.prog 26 #[.agg #[.bool s1, .slice A1 L1 c1]] w' fun e w'' => e = .returned (.int .i64 gx) ∧ Ext w' w'') := fun w' hk => by rw [x.sign]; exact sign_z (h1.ext hk)
        have HSm : Hid (∀ w', Ext w w' → Calls Try.prog 29 #[.agg #[.bool s1, .slice A1 L1 c1], .agg #[.bool s2, .slice A2 L2 c2]] w' fun e w'' => e = .returned (.bool (cmpZ z1 z2 == 0)) ∧ Ext w' w'') := fun w' hk => by rw [cmpZ_eq0]; exact same_z (h1.ext hk) (h2.ext hk)
        go_wp2_with fail
        have HK : Hid (∀ w', Ext w9 w' → Ext w9 w' ∧ w'.cell? ⟨w.heap.size, 0, none⟩ = some (.bool s1) ∧ w'.cell? ⟨w.heap.size, 1, none⟩ = some (.slice A1 L1 c1) ∧ w'.cell? ⟨w.heap.size + 1, 0, none⟩ = some (.bool s2) ∧ w'.cell? ⟨w.heap.size + 1, 1, none⟩ = some (.slice A2 L2 c2) ∧ w'.cell? ⟨bkx, 0, none⟩ = some (.int .i64 gx) ∧ w'.cell? ⟨bkx, 1, none⟩ = some (.slice Ax Lx cx) ∧ w'.cell? ⟨bky, 0, none⟩ = some (.int .i64 gy) ∧ w'.cell? ⟨bky, 1, none⟩ = some (.slice Ay Ly cy) ∧ w'.cell? ⟨wc.heap.size, 0, none⟩ = some (.int .i64 gng) ∧ w'.cell? ⟨wc.heap.size, 1, none⟩ = some (.slice Ang Lng cng)) := fun w' hk => ⟨hk, hk.cell e0_0, hk.cell e0_1, hk.cell e1_0, hk.cell e1_1, hk.cell x_0, hk.cell x_1, hk.cell y_0, hk.cell y_1, hk.cell ab_0, hk.cell ab_1⟩
        go_region_held3 (fun w' => Ext w9 w' ∧ w'.cell? ⟨w.heap.size, 0, none⟩ = some (.bool s1) ∧ w'.cell? ⟨w.heap.size, 1, none⟩ = some (.slice A1 L1 c1) ∧ w'.cell? ⟨w.heap.size + 1, 0, none⟩ = some (.bool s2) ∧ w'.cell? ⟨w.heap.size + 1, 1, none⟩ = some (.slice A2 L2 c2) ∧ w'.cell? ⟨bkx, 0, none⟩ = some (.int .i64 gx) ∧ w'.cell? ⟨bkx, 1, none⟩ = some (.slice Ax Lx cx) ∧ w'.cell? ⟨bky, 0, none⟩ = some (.int .i64 gy) ∧ w'.cell? ⟨bky, 1, none⟩ = some (.slice Ay Ly cy) ∧ w'.cell? ⟨wc.heap.size, 0, none⟩ = some (.int .i64 gng) ∧ w'.cell? ⟨wc.heap.size, 1, none⟩ = some (.slice Ang Lng cng))
          ((refine HK.out _ ?_; (repeat' (first | with_reducible exact Ext.refl _ | with_reducible assumption | with_reducible apply Ext.alloc_r | with_reducible apply Ext.drew_r | with_reducible refine Ext.trans ?_ ‹Ext _ _›))))
          (first
            | (go_at_call 29; refine (HSm.out _ (by repeat' (first | with_reducible exact Ext.refl _ | with_reducible assumption | with_reducible apply Ext.alloc_r | with_reducible apply Ext.drew_r | with_reducible refine Ext.trans ?_ ‹Ext _ _›))).mono ?_; rintro e w24 ⟨rfl, x24⟩)
            | (go_at_call 24; refine (cmp_z (h1.ext (by repeat' (first | with_reducible exact Ext.refl _ | with_reducible assumption | with_reducible apply Ext.alloc_r | with_reducible apply Ext.drew_r | with_reducible refine Ext.trans ?_ ‹Ext _ _›))) (h2.ext (by repeat' (first | with_reducible exact Ext.refl _ | with_reducible assumption | with_reducible apply Ext.alloc_r | with_reducible apply Ext.drew_r | with_reducible refine Ext.trans ?_ ‹Ext _ _›)))).mono ?_; rintro e w23 ⟨rfl, x23⟩)
            | (go_at_call 26; refine (HSg.out _ (by repeat' (first | with_reducible exact Ext.refl _ | with_reducible assumption | with_reducible apply Ext.alloc_r | with_reducible apply Ext.drew_r | with_reducible refine Ext.trans ?_ ‹Ext _ _›))).mono ?_; rintro e w22 ⟨rfl, x22⟩)
            | (go_at_call 16; refine (lis_z (a4.ext (by repeat' (first | with_reducible exact Ext.refl _ | with_reducible assumption | with_reducible apply Ext.alloc_r | with_reducible apply Ext.drew_r | with_reducible refine Ext.trans ?_ ‹Ext _ _›))) (ab.ext (by repeat' (first | with_reducible exact Ext.refl _ | with_reducible assumption | with_reducible apply Ext.alloc_r | with_reducible apply Ext.drew_r | with_reducible refine Ext.trans ?_ ‹Ext _ _›))) (by rw [Int.natAbs_natCast]; omega)).mono ?_; rintro e w21 ⟨rfl, x21⟩)
            | (go_at_call 34; refine (abs_z (h1.ext (by repeat' (first | with_reducible exact Ext.refl _ | with_reducible assumption | with_reducible apply Ext.alloc_r | with_reducible apply Ext.drew_r | with_reducible refine Ext.trans ?_ ‹Ext _ _›))) (by omega)).mono ?_; rintro e w20 ⟨sa4, Aa4, ca4, La4, rfl, a4, x20⟩)
            | (go_at_call 16; refine (lis_z (a3.ext (by repeat' (first | with_reducible exact Ext.refl _ | with_reducible assumption | with_reducible apply Ext.alloc_r | with_reducible apply Ext.drew_r | with_reducible refine Ext.trans ?_ ‹Ext _ _›))) (nx.ext (by repeat' (first | with_reducible exact Ext.refl _ | with_reducible assumption | with_reducible apply Ext.alloc_r | with_reducible apply Ext.drew_r | with_reducible refine Ext.trans ?_ ‹Ext _ _›))) (by rw [Int.natAbs_neg]; omega)).mono ?_; rintro e w19 ⟨rfl, x19⟩)
            | (go_at_call 30; refine (neg_rz (x.ext (by repeat' (first | with_reducible exact Ext.refl _ | with_reducible assumption | with_reducible apply Ext.alloc_r | with_reducible apply Ext.drew_r | with_reducible refine Ext.trans ?_ ‹Ext _ _›)))).mono ?_; rintro e w18 ⟨gnx, Anx, cnx, Lnx, rfl, nx, x18⟩)
            | (go_at_call 33; refine (neg_z (h1.ext (by repeat' (first | with_reducible exact Ext.refl _ | with_reducible assumption | with_reducible apply Ext.alloc_r | with_reducible apply Ext.drew_r | with_reducible refine Ext.trans ?_ ‹Ext _ _›))) (by omega)).mono ?_; rintro e w17 ⟨sa3, Aa3, ca3, La3, rfl, a3, x17⟩)
            | (go_at_call 16; refine (lis_z (a2.ext (by repeat' (first | with_reducible exact Ext.refl _ | with_reducible assumption | with_reducible apply Ext.alloc_r | with_reducible apply Ext.drew_r | with_reducible refine Ext.trans ?_ ‹Ext _ _›))) (by rw [Int.sub_eq_add_neg]; exact r2.ext (by repeat' (first | with_reducible exact Ext.refl _ | with_reducible assumption | with_reducible apply Ext.alloc_r | with_reducible apply Ext.drew_r | with_reducible refine Ext.trans ?_ ‹Ext _ _›))) (by omega)).mono ?_; rintro e w16 ⟨rfl, x16⟩)
            | (go_at_call 32; refine (add_rz (x.ext (by repeat' (first | with_reducible exact Ext.refl _ | with_reducible assumption | with_reducible apply Ext.alloc_r | with_reducible apply Ext.drew_r | with_reducible refine Ext.trans ?_ ‹Ext _ _›))) (ny.ext (by repeat' (first | with_reducible exact Ext.refl _ | with_reducible assumption | with_reducible apply Ext.alloc_r | with_reducible apply Ext.drew_r | with_reducible refine Ext.trans ?_ ‹Ext _ _›))) (by omega) (by rw [Int.natAbs_neg]; omega)).mono ?_; rintro e w15 ⟨gr2, Ar2, cr2, Lr2, rfl, r2, x15⟩)
            | (go_at_call 30; refine (neg_rz (y.ext (by repeat' (first | with_reducible exact Ext.refl _ | with_reducible assumption | with_reducible apply Ext.alloc_r | with_reducible apply Ext.drew_r | with_reducible refine Ext.trans ?_ ‹Ext _ _›)))).mono ?_; rintro e w14 ⟨gny, Any, cny, Lny, rfl, ny, x14⟩)
            | (go_at_call 27; refine (sub_z (h1.ext (by repeat' (first | with_reducible exact Ext.refl _ | with_reducible assumption | with_reducible apply Ext.alloc_r | with_reducible apply Ext.drew_r | with_reducible refine Ext.trans ?_ ‹Ext _ _›))) (h2.ext (by repeat' (first | with_reducible exact Ext.refl _ | with_reducible assumption | with_reducible apply Ext.alloc_r | with_reducible apply Ext.drew_r | with_reducible refine Ext.trans ?_ ‹Ext _ _›))) (by omega) (by omega)).mono ?_; rintro e w13 ⟨sa2, Aa2, ca2, La2, rfl, a2, x13⟩)
            | (go_at_call 16; refine (lis_z (a1.ext (by repeat' (first | with_reducible exact Ext.refl _ | with_reducible assumption | with_reducible apply Ext.alloc_r | with_reducible apply Ext.drew_r | with_reducible refine Ext.trans ?_ ‹Ext _ _›))) (r1.ext (by repeat' (first | with_reducible exact Ext.refl _ | with_reducible assumption | with_reducible apply Ext.alloc_r | with_reducible apply Ext.drew_r | with_reducible refine Ext.trans ?_ ‹Ext _ _›))) (by omega)).mono ?_; rintro e w12 ⟨rfl, x12⟩)
            | (go_at_call 32; refine (add_rz (x.ext (by repeat' (first | with_reducible exact Ext.refl _ | with_reducible assumption | with_reducible apply Ext.alloc_r | with_reducible apply Ext.drew_r | with_reducible refine Ext.trans ?_ ‹Ext _ _›))) (y.ext (by repeat' (first | with_reducible exact Ext.refl _ | with_reducible assumption | with_reducible apply Ext.alloc_r | with_reducible apply Ext.drew_r | with_reducible refine Ext.trans ?_ ‹Ext _ _›))) (by omega) (by omega)).mono ?_; rintro e w11 ⟨gr1, Ar1, cr1, Lr1, rfl, r1, x11⟩)
            | (go_at_call 25; refine (add_z (h1.ext (by repeat' (first | with_reducible exact Ext.refl _ | with_reducible assumption | with_reducible apply Ext.alloc_r | with_reducible apply Ext.drew_r | with_reducible refine Ext.trans ?_ ‹Ext _ _›))) (h2.ext (by repeat' (first | with_reducible exact Ext.refl _ | with_reducible assumption | with_reducible apply Ext.alloc_r | with_reducible apply Ext.drew_r | with_reducible refine Ext.trans ?_ ‹Ext _ _›))) (by omega) (by omega)).mono ?_; rintro e w10 ⟨sa1, Aa1, ca1, La1, rfl, a1, x10⟩))
        clear HK
        have xx : Ext w w24 := (by repeat' (first | with_reducible exact Ext.refl _ | with_reducible assumption | with_reducible apply Ext.alloc_r | with_reducible apply Ext.drew_r | with_reducible refine Ext.trans ?_ ‹Ext _ _›))
        go_wp2_with fail
        go_ret
        exact ⟨rfl, (by repeat' (first | with_reducible exact Ext.refl _ | with_reducible assumption | with_reducible apply Ext.alloc_r | with_reducible apply Ext.drew_r | with_reducible refine Ext.trans ?_ ‹Ext _ _›))⟩
    · have HN : Hid (0 ≤ z1.sign) := Lib.hid (by rcases sign_cases z1 with ⟨a, b⟩ | ⟨a, b⟩ | ⟨a, b⟩ <;> omega)
      have HA : Hid ((z1.natAbs : Int) = z1) := by show _ = _; omega
      go_enter Try.func7, Try.ntmps7
      go_wp2_with fail
      obtain ⟨w0, hw0⟩ : ∃ z : World, z = ((w.alloc (.cells #[.bool s1, .slice A1 L1 c1] 25)).alloc (.cells #[.bool s2, .slice A2 L2 c2] 25)) := ⟨_, rfl⟩
      rw [← hw0]
      have b0 := box_at w #[.bool s1, .slice A1 L1 c1] 25
      have b1 := box_at (w.alloc (.cells #[.bool s1, .slice A1 L1 c1] 25)) #[.bool s2, .slice A2 L2 c2] 25
      have hsz : w0.heap.size = w.heap.size + 1 + 1 := by rw [hw0]; simp
      rw [← hw0] at b1
      have y1 : Ext (w.alloc (.cells #[.bool s1, .slice A1 L1 c1] 25)) w0 := by rw [hw0]; exact Ext.alloc _ _
      have y0 : Ext w w0 := (Ext.alloc _ _).trans y1
      have x0 : Ext w w0 := y0
      have e0_0 := y1.cell (b0.1 0 (.bool s1) rfl)
      have e0_1 := y1.cell (b0.1 1 (.slice A1 L1 c1) rfl)
      have e1_0 := b1.1 0 (.bool s2) rfl
      have e1_1 := b1.1 1 (.slice A2 L2 c2) rfl
      simp only [World.size_alloc] at e1_0 e1_1
      clear hw0 b0 b1 y0 y1
      go_wp2_with fail
      refine (lawake_z _).mono ?_
      rintro e w1 ⟨rfl, x1⟩
      replace e0_0 := x1.cell e0_0
      replace e0_1 := x1.cell e0_1
      replace e1_0 := x1.cell e1_0
      replace e1_1 := x1.cell e1_1
      go_wp2_with fail
      refine (lfew_z (n := 20) (by omega) (by omega) (by omega)).mono ?_
      rintro e w2 ⟨rfl, x2⟩
      replace e0_0 := x2.cell e0_0
      replace e0_1 := x2.cell e0_1
      replace e1_0 := x2.cell e1_0
      replace e1_1 := x2.cell e1_1
      rw [HF.out]
      clear hsz
      go_wp2_with fail
      go_cut [5, 6] (fun s5 s6 wx => PutRZ w2 wx z1 s5 ∧ PutRZ w2 wx z2 s6)
      case first =>
        have HK : Hid (∀ w', Ext w2 w' → Ext w2 w' ∧ w'.cell? ⟨w.heap.size, 0, none⟩ = some (.bool s1) ∧ w'.cell? ⟨w.heap.size, 1, none⟩ = some (.slice A1 L1 c1) ∧ w'.cell? ⟨w.heap.size + 1, 0, none⟩ = some (.bool s2) ∧ w'.cell? ⟨w.heap.size + 1, 1, none⟩ = some (.slice A2 L2 c2)) := fun w' hk => ⟨hk, hk.cell e0_0, hk.cell e0_1, hk.cell e1_0, hk.cell e1_1⟩
        go_region_held3 (fun w' => Ext w2 w' ∧ w'.cell? ⟨w.heap.size, 0, none⟩ = some (.bool s1) ∧ w'.cell? ⟨w.heap.size, 1, none⟩ = some (.slice A1 L1 c1) ∧ w'.cell? ⟨w.heap.size + 1, 0, none⟩ = some (.bool s2) ∧ w'.cell? ⟨w.heap.size + 1, 1, none⟩ = some (.slice A2 L2 c2))
          ((refine HK.out _ ?_; (repeat' (first | with_reducible exact Ext.refl _ | with_reducible assumption | with_reducible apply Ext.alloc_r | with_reducible apply Ext.drew_r | with_reducible apply Ext.set_r | with_reducible exact Nat.le_refl _ | omega | with_reducible refine Ext.trans ?_ ‹Ext _ _›))))
          (first
            | (go_at_call 13; refine (lof_z (h2.ext (by repeat' (first | with_reducible exact Ext.refl _ | with_reducible assumption | with_reducible apply Ext.alloc_r | with_reducible apply Ext.drew_r | with_reducible refine Ext.trans ?_ ‹Ext _ _›))) (by omega)).mono ?_; rintro e w4 ⟨gq, Aq, cq, Lq, rfl, q, x4⟩; (have zs4 := x4.size); (try simp only [World.size_alloc] at zs4); (try ((with_reducible have h4_0 := box_ext (vs := #[.int .i64 0, .slice none 0 0]) x4); have h4_0c0 := (h4_0.1 0 (.int .i64 0) rfl).1; have h4_0f0 := (h4_0.1 0 (.int .i64 0) rfl).2; have h4_0c1 := (h4_0.1 1 (.slice none 0 0) rfl).1; have h4_0f1 := (h4_0.1 1 (.slice none 0 0) rfl).2; have h4_0b := h4_0.2.1; have h4_0z := h4_0.2.2; (try simp only [World.size_alloc] at h4_0b h4_0z h4_0c0 h4_0f0 h4_0c1 h4_0f1); have h4_0m := Nat.ne_of_lt h4_0z; have h4_0n := Nat.ne_of_gt h4_0z; clear h4_0)); (try ((with_reducible have h4_1 := box_ext (vs := #[.int .i64 0, .slice none 0 0]) ((Ext.alloc _ _).trans x4)); have h4_1c0 := (h4_1.1 0 (.int .i64 0) rfl).1; have h4_1f0 := (h4_1.1 0 (.int .i64 0) rfl).2; have h4_1c1 := (h4_1.1 1 (.slice none 0 0) rfl).1; have h4_1f1 := (h4_1.1 1 (.slice none 0 0) rfl).2; have h4_1b := h4_1.2.1; have h4_1z := h4_1.2.2; (try simp only [World.size_alloc] at h4_1b h4_1z h4_1c0 h4_1f0 h4_1c1 h4_1f1); have h4_1m := Nat.ne_of_lt h4_1z; have h4_1n := Nat.ne_of_gt h4_1z; clear h4_1)); (try (have hh : Ext w3 w4 := ?g400; (case g400 => ((repeat' (first | with_reducible exact Ext.refl _ | with_reducible assumption | with_reducible apply Ext.alloc_r | with_reducible apply Ext.drew_r | with_reducible refine Ext.trans ?_ ‹Ext _ _›)); done)); replace h3_0f0 := hh.frozen h3_0c0 h3_0f0; replace h3_0c0 := hh.cell h3_0c0; replace h3_0f1 := hh.frozen h3_0c1 h3_0f1; replace h3_0c1 := hh.cell h3_0c1; replace h3_0b := h3_0b.ext hh; have h3_0z2 := Nat.lt_of_lt_of_le h3_0z hh.size; have h3_0m2 := Nat.ne_of_lt h3_0z2; have h3_0n2 := Nat.ne_of_gt h3_0z2; clear hh)); (try (have hh : Ext w3 w4 := ?g401; (case g401 => ((repeat' (first | with_reducible exact Ext.refl _ | with_reducible assumption | with_reducible apply Ext.alloc_r | with_reducible apply Ext.drew_r | with_reducible refine Ext.trans ?_ ‹Ext _ _›)); done)); replace h3_1f0 := hh.frozen h3_1c0 h3_1f0; replace h3_1c0 := hh.cell h3_1c0; replace h3_1f1 := hh.frozen h3_1c1 h3_1f1; replace h3_1c1 := hh.cell h3_1c1; replace h3_1b := h3_1b.ext hh; have h3_1z2 := Nat.lt_of_lt_of_le h3_1z hh.size; have h3_1m2 := Nat.ne_of_lt h3_1z2; have h3_1n2 := Nat.ne_of_gt h3_1z2; clear hh)))
            | (go_at_call 13; refine (lof_z (h1.ext (by repeat' (first | with_reducible exact Ext.refl _ | with_reducible assumption | with_reducible apply Ext.alloc_r | with_reducible apply Ext.drew_r | with_reducible refine Ext.trans ?_ ‹Ext _ _›))) (by omega)).mono ?_; rintro e w3 ⟨gp, Ap, cp, Lp, rfl, p, x3⟩; (have zs3 := x3.size); (try simp only [World.size_alloc, World.size_drew] at zs3); (try ((with_reducible have h3_0 := box_ext (vs := #[.int .i64 0, .slice none 0 0]) ((Ext.drew _).trans x3)); have h3_0c0 := (h3_0.1 0 (.int .i64 0) rfl).1; have h3_0f0 := (h3_0.1 0 (.int .i64 0) rfl).2; have h3_0c1 := (h3_0.1 1 (.slice none 0 0) rfl).1; have h3_0f1 := (h3_0.1 1 (.slice none 0 0) rfl).2; have h3_0b := h3_0.2.1; have h3_0z := h3_0.2.2; (try simp only [World.size_alloc] at h3_0b h3_0z h3_0c0 h3_0f0 h3_0c1 h3_0f1); have h3_0m := Nat.ne_of_lt h3_0z; have h3_0n := Nat.ne_of_gt h3_0z; clear h3_0)); (try ((with_reducible have h3_1 := box_ext (vs := #[.int .i64 0, .slice none 0 0]) (((Ext.alloc _ _).trans (Ext.drew _)).trans x3)); have h3_1c0 := (h3_1.1 0 (.int .i64 0) rfl).1; have h3_1f0 := (h3_1.1 0 (.int .i64 0) rfl).2; have h3_1c1 := (h3_1.1 1 (.slice none 0 0) rfl).1; have h3_1f1 := (h3_1.1 1 (.slice none 0 0) rfl).2; have h3_1b := h3_1.2.1; have h3_1z := h3_1.2.2; (try simp only [World.size_alloc] at h3_1b h3_1z h3_1c0 h3_1f0 h3_1c1 h3_1f1); have h3_1m := Nat.ne_of_lt h3_1z; have h3_1n := Nat.ne_of_gt h3_1z; clear h3_1))))
        all_goals (clear HK; go_wp2_with fail; go_meet)
        all_goals
          constructor
          · refine PutRZ.mk (sg := gp) (A := Ap) (c := cp) (L := Lp) ?_ (p.kept ?_) ?_
            · refine Bx.mk2 ?_ ?_
              · go_simp
              · go_simp
            · (repeat' (first | with_reducible exact Kept.refl _ | with_reducible apply Kept.alloc_r | with_reducible apply Kept.drew_r | (with_reducible apply Kept.setZ; (case hb => ((repeat' (first | with_reducible assumption | with_reducible apply IsBox.set_ | (with_reducible apply IsBox.new; (first | (with_reducible rfl) | simp); done) | with_reducible apply IsBox.alloc_ | with_reducible apply IsBox.drew_ | with_reducible refine IsBox.ext ?_ ‹Ext _ _›)); done))) | (with_reducible apply Kept.setI; (case hb => ((repeat' (first | with_reducible assumption | with_reducible apply IsBox.set_ | (with_reducible apply IsBox.new; (first | (with_reducible rfl) | simp); done) | with_reducible apply IsBox.alloc_ | with_reducible apply IsBox.drew_ | with_reducible refine IsBox.ext ?_ ‹Ext _ _›)); done))) | with_reducible refine Kept.trans ?_ (Ext.kept ‹Ext _ _›)))
            · (repeat' (first | with_reducible exact Ext.refl _ | with_reducible assumption | with_reducible apply Ext.alloc_r | with_reducible apply Ext.drew_r | with_reducible apply Ext.set_r | with_reducible exact Nat.le_refl _ | omega | with_reducible refine Ext.trans ?_ ‹Ext _ _›))
          · refine PutRZ.mk (sg := gq) (A := Aq) (c := cq) (L := Lq) ?_ (q.kept ?_) ?_
            · refine Bx.mk2 ?_ ?_
              · go_simp
              · go_simp
            · (repeat' (first | with_reducible exact Kept.refl _ | with_reducible apply Kept.alloc_r | with_reducible apply Kept.drew_r | (with_reducible apply Kept.setZ; (case hb => ((repeat' (first | with_reducible assumption | with_reducible apply IsBox.set_ | (with_reducible apply IsBox.new; (first | (with_reducible rfl) | simp); done) | with_reducible apply IsBox.alloc_ | with_reducible apply IsBox.drew_ | with_reducible refine IsBox.ext ?_ ‹Ext _ _›)); done))) | (with_reducible apply Kept.setI; (case hb => ((repeat' (first | with_reducible assumption | with_reducible apply IsBox.set_ | (with_reducible apply IsBox.new; (first | (with_reducible rfl) | simp); done) | with_reducible apply IsBox.alloc_ | with_reducible apply IsBox.drew_ | with_reducible refine IsBox.ext ?_ ‹Ext _ _›)); done))) | with_reducible refine Kept.trans ?_ (Ext.kept ‹Ext _ _›)))
            · (repeat' (first | with_reducible exact Ext.refl _ | with_reducible assumption | with_reducible apply Ext.alloc_r | with_reducible apply Ext.drew_r | with_reducible apply Ext.set_r | with_reducible exact Nat.le_refl _ | omega | with_reducible refine Ext.trans ?_ ‹Ext _ _›))
      case rest =>
        have hcw := hcut
        obtain ⟨hc_0, hc_1⟩ := hcw
        obtain ⟨gx, Ax, cx, Lx, ⟨bkx, rfl, ccx⟩, x, xxx⟩ := hc_0
        obtain ⟨gy, Ay, cy, Ly, ⟨bky, rfl, ccy⟩, y, xxy⟩ := hc_1
        have x5 := xxx
        clear xxx
        clear xxy
        replace e0_0 := x5.cell e0_0
        replace e0_1 := x5.cell e0_1
        replace e1_0 := x5.cell e1_0
        replace e1_1 := x5.cell e1_1
        have x_0 := ccx 0 (.int .i64 gx) rfl
        have x_1 := ccx 1 (.slice Ax Lx cx) rfl
        clear ccx
        have y_0 := ccy 0 (.int .i64 gy) rfl
        have y_1 := ccy 1 (.slice Ay Ly cy) rfl
        clear ccy
        have hs : ¬ gx < 0 := by rw [x.sign]; have := HN.out; omega
        have te0_0 := fun o => (Ext.alloc wc o).cell e0_0
        have te0_1 := fun o => (Ext.alloc wc o).cell e0_1
        have te1_0 := fun o => (Ext.alloc wc o).cell e1_0
        have te1_1 := fun o => (Ext.alloc wc o).cell e1_1
        have tx_0 := fun o => (Ext.alloc wc o).cell x_0
        have tx_1 := fun o => (Ext.alloc wc o).cell x_1
        have ty_0 := fun o => (Ext.alloc wc o).cell y_0
        have ty_1 := fun o => (Ext.alloc wc o).cell y_1
        go_wp2_with fail
        clear te0_0 te0_1 te1_0 te1_1 tx_0 tx_1 ty_0 ty_1
        obtain ⟨w6, hw⟩ : ∃ z : World, z = (wc.alloc (.cells #[.int .i64 gx, .slice Ax Lx cx] 30)) := ⟨_, rfl⟩
        rw [← hw]
        have x6 : Ext wc w6 := by rw [hw]; exact Ext.alloc _ _
        have bb := box_at wc #[.int .i64 gx, .slice Ax Lx cx] 30
        rw [← hw] at bb
        replace e0_0 := x6.cell e0_0
        replace e0_1 := x6.cell e0_1
        replace e1_0 := x6.cell e1_0
        replace e1_1 := x6.cell e1_1
        replace x_0 := x6.cell x_0
        replace x_1 := x6.cell x_1
        replace y_0 := x6.cell y_0
        replace y_1 := x6.cell y_1
        have ab_0 := bb.1 0 (.int .i64 gx) rfl
        have ab_1 := bb.1 1 (.slice Ax Lx cx) rfl
        clear hw bb
        have ab : RZ w6 gx Ax cx Lx (z1.natAbs : Int) := by rw [HA.out]; exact x.ext (by repeat' (first | with_reducible exact Ext.refl _ | with_reducible assumption | with_reducible apply Ext.alloc_r | with_reducible apply Ext.drew_r | with_reducible refine Ext.trans ?_ ‹Ext _ _›))
        go_wp2_with fail
        refine (rzcmp_z (x.ext (by repeat' (first | with_reducible exact Ext.refl _ | with_reducible assumption | with_reducible apply Ext.alloc_r | with_reducible apply Ext.drew_r | with_reducible refine Ext.trans ?_ ‹Ext _ _›))) (y.ext (by repeat' (first | with_reducible exact Ext.refl _ | with_reducible assumption | with_reducible apply Ext.alloc_r | with_reducible apply Ext.drew_r | with_reducible refine Ext.trans ?_ ‹Ext _ _›))) (by omega) (by omega)).mono ?_
        rintro e w7 ⟨rfl, x7⟩
        replace e0_0 := x7.cell e0_0
        replace e0_1 := x7.cell e0_1
        replace e1_0 := x7.cell e1_0
        replace e1_1 := x7.cell e1_1
        replace x_0 := x7.cell x_0
        replace x_1 := x7.cell x_1
        replace y_0 := x7.cell y_0
        replace y_1 := x7.cell y_1
        replace ab_0 := x7.cell ab_0
        replace ab_1 := x7.cell ab_1
        have HSg : Hid (∀ w', Ext w w' → Calls Try.prog 26 #[.agg #[.bool s1, .slice A1 L1 c1]] w' fun e w'' => e = .returned (.int .i64 gx) ∧ Ext w' w'') := fun w' hk => by rw [x.sign]; exact sign_z (h1.ext hk)
        have HSm : Hid (∀ w', Ext w w' → Calls Try.prog 29 #[.agg #[.bool s1, .slice A1 L1 c1], .agg #[.bool s2, .slice A2 L2 c2]] w' fun e w'' => e = .returned (.bool (cmpZ z1 z2 == 0)) ∧ Ext w' w'') := fun w' hk => by rw [cmpZ_eq0]; exact same_z (h1.ext hk) (h2.ext hk)
        go_wp2_with fail
        have HK : Hid (∀ w', Ext w7 w' → Ext w7 w' ∧ w'.cell? ⟨w.heap.size, 0, none⟩ = some (.bool s1) ∧ w'.cell? ⟨w.heap.size, 1, none⟩ = some (.slice A1 L1 c1) ∧ w'.cell? ⟨w.heap.size + 1, 0, none⟩ = some (.bool s2) ∧ w'.cell? ⟨w.heap.size + 1, 1, none⟩ = some (.slice A2 L2 c2) ∧ w'.cell? ⟨bkx, 0, none⟩ = some (.int .i64 gx) ∧ w'.cell? ⟨bkx, 1, none⟩ = some (.slice Ax Lx cx) ∧ w'.cell? ⟨bky, 0, none⟩ = some (.int .i64 gy) ∧ w'.cell? ⟨bky, 1, none⟩ = some (.slice Ay Ly cy) ∧ w'.cell? ⟨wc.heap.size, 0, none⟩ = some (.int .i64 gx) ∧ w'.cell? ⟨wc.heap.size, 1, none⟩ = some (.slice Ax Lx cx)) := fun w' hk => ⟨hk, hk.cell e0_0, hk.cell e0_1, hk.cell e1_0, hk.cell e1_1, hk.cell x_0, hk.cell x_1, hk.cell y_0, hk.cell y_1, hk.cell ab_0, hk.cell ab_1⟩
        go_region_held3 (fun w' => Ext w7 w' ∧ w'.cell? ⟨w.heap.size, 0, none⟩ = some (.bool s1) ∧ w'.cell? ⟨w.heap.size, 1, none⟩ = some (.slice A1 L1 c1) ∧ w'.cell? ⟨w.heap.size + 1, 0, none⟩ = some (.bool s2) ∧ w'.cell? ⟨w.heap.size + 1, 1, none⟩ = some (.slice A2 L2 c2) ∧ w'.cell? ⟨bkx, 0, none⟩ = some (.int .i64 gx) ∧ w'.cell? ⟨bkx, 1, none⟩ = some (.slice Ax Lx cx) ∧ w'.cell? ⟨bky, 0, none⟩ = some (.int .i64 gy) ∧ w'.cell? ⟨bky, 1, none⟩ = some (.slice Ay Ly cy) ∧ w'.cell? ⟨wc.heap.size, 0, none⟩ = some (.int .i64 gx) ∧ w'.cell? ⟨wc.heap.size, 1, none⟩ = some (.slice Ax Lx cx))
          ((refine HK.out _ ?_; (repeat' (first | with_reducible exact Ext.refl _ | with_reducible assumption | with_reducible apply Ext.alloc_r | with_reducible apply Ext.drew_r | with_reducible refine Ext.trans ?_ ‹Ext _ _›))))
          (first
            | (go_at_call 29; refine (HSm.out _ (by repeat' (first | with_reducible exact Ext.refl _ | with_reducible assumption | with_reducible apply Ext.alloc_r | with_reducible apply Ext.drew_r | with_reducible refine Ext.trans ?_ ‹Ext _ _›))).mono ?_; rintro e w22 ⟨rfl, x22⟩)
            | (go_at_call 24; refine (cmp_z (h1.ext (by repeat' (first | with_reducible exact Ext.refl _ | with_reducible assumption | with_reducible apply Ext.alloc_r | with_reducible apply Ext.drew_r | with_reducible refine Ext.trans ?_ ‹Ext _ _›))) (h2.ext (by repeat' (first | with_reducible exact Ext.refl _ | with_reducible assumption | with_reducible apply Ext.alloc_r | with_reducible apply Ext.drew_r | with_reducible refine Ext.trans ?_ ‹Ext _ _›)))).mono ?_; rintro e w21 ⟨rfl, x21⟩)
            | (go_at_call 26; refine (HSg.out _ (by repeat' (first | with_reducible exact Ext.refl _ | with_reducible assumption | with_reducible apply Ext.alloc_r | with_reducible apply Ext.drew_r | with_reducible refine Ext.trans ?_ ‹Ext _ _›))).mono ?_; rintro e w20 ⟨rfl, x20⟩)
            | (go_at_call 16; refine (lis_z (a4.ext (by repeat' (first | with_reducible exact Ext.refl _ | with_reducible assumption | with_reducible apply Ext.alloc_r | with_reducible apply Ext.drew_r | with_reducible refine Ext.trans ?_ ‹Ext _ _›))) (ab.ext (by repeat' (first | with_reducible exact Ext.refl _ | with_reducible assumption | with_reducible apply Ext.alloc_r | with_reducible apply Ext.drew_r | with_reducible refine Ext.trans ?_ ‹Ext _ _›))) (by rw [Int.natAbs_natCast]; omega)).mono ?_; rintro e w19 ⟨rfl, x19⟩)
            | (go_at_call 34; refine (abs_z (h1.ext (by repeat' (first | with_reducible exact Ext.refl _ | with_reducible assumption | with_reducible apply Ext.alloc_r | with_reducible apply Ext.drew_r | with_reducible refine Ext.trans ?_ ‹Ext _ _›))) (by omega)).mono ?_; rintro e w18 ⟨sa4, Aa4, ca4, La4, rfl, a4, x18⟩)
            | (go_at_call 16; refine (lis_z (a3.ext (by repeat' (first | with_reducible exact Ext.refl _ | with_reducible assumption | with_reducible apply Ext.alloc_r | with_reducible apply Ext.drew_r | with_reducible refine Ext.trans ?_ ‹Ext _ _›))) (nx.ext (by repeat' (first | with_reducible exact Ext.refl _ | with_reducible assumption | with_reducible apply Ext.alloc_r | with_reducible apply Ext.drew_r | with_reducible refine Ext.trans ?_ ‹Ext _ _›))) (by rw [Int.natAbs_neg]; omega)).mono ?_; rintro e w17 ⟨rfl, x17⟩)
            | (go_at_call 30; refine (neg_rz (x.ext (by repeat' (first | with_reducible exact Ext.refl _ | with_reducible assumption | with_reducible apply Ext.alloc_r | with_reducible apply Ext.drew_r | with_reducible refine Ext.trans ?_ ‹Ext _ _›)))).mono ?_; rintro e w16 ⟨gnx, Anx, cnx, Lnx, rfl, nx, x16⟩)
            | (go_at_call 33; refine (neg_z (h1.ext (by repeat' (first | with_reducible exact Ext.refl _ | with_reducible assumption | with_reducible apply Ext.alloc_r | with_reducible apply Ext.drew_r | with_reducible refine Ext.trans ?_ ‹Ext _ _›))) (by omega)).mono ?_; rintro e w15 ⟨sa3, Aa3, ca3, La3, rfl, a3, x15⟩)
            | (go_at_call 16; refine (lis_z (a2.ext (by repeat' (first | with_reducible exact Ext.refl _ | with_reducible assumption | with_reducible apply Ext.alloc_r | with_reducible apply Ext.drew_r | with_reducible refine Ext.trans ?_ ‹Ext _ _›))) (by rw [Int.sub_eq_add_neg]; exact r2.ext (by repeat' (first | with_reducible exact Ext.refl _ | with_reducible assumption | with_reducible apply Ext.alloc_r | with_reducible apply Ext.drew_r | with_reducible refine Ext.trans ?_ ‹Ext _ _›))) (by omega)).mono ?_; rintro e w14 ⟨rfl, x14⟩)
            | (go_at_call 32; refine (add_rz (x.ext (by repeat' (first | with_reducible exact Ext.refl _ | with_reducible assumption | with_reducible apply Ext.alloc_r | with_reducible apply Ext.drew_r | with_reducible refine Ext.trans ?_ ‹Ext _ _›))) (ny.ext (by repeat' (first | with_reducible exact Ext.refl _ | with_reducible assumption | with_reducible apply Ext.alloc_r | with_reducible apply Ext.drew_r | with_reducible refine Ext.trans ?_ ‹Ext _ _›))) (by omega) (by rw [Int.natAbs_neg]; omega)).mono ?_; rintro e w13 ⟨gr2, Ar2, cr2, Lr2, rfl, r2, x13⟩)
            | (go_at_call 30; refine (neg_rz (y.ext (by repeat' (first | with_reducible exact Ext.refl _ | with_reducible assumption | with_reducible apply Ext.alloc_r | with_reducible apply Ext.drew_r | with_reducible refine Ext.trans ?_ ‹Ext _ _›)))).mono ?_; rintro e w12 ⟨gny, Any, cny, Lny, rfl, ny, x12⟩)
            | (go_at_call 27; refine (sub_z (h1.ext (by repeat' (first | with_reducible exact Ext.refl _ | with_reducible assumption | with_reducible apply Ext.alloc_r | with_reducible apply Ext.drew_r | with_reducible refine Ext.trans ?_ ‹Ext _ _›))) (h2.ext (by repeat' (first | with_reducible exact Ext.refl _ | with_reducible assumption | with_reducible apply Ext.alloc_r | with_reducible apply Ext.drew_r | with_reducible refine Ext.trans ?_ ‹Ext _ _›))) (by omega) (by omega)).mono ?_; rintro e w11 ⟨sa2, Aa2, ca2, La2, rfl, a2, x11⟩)
            | (go_at_call 16; refine (lis_z (a1.ext (by repeat' (first | with_reducible exact Ext.refl _ | with_reducible assumption | with_reducible apply Ext.alloc_r | with_reducible apply Ext.drew_r | with_reducible refine Ext.trans ?_ ‹Ext _ _›))) (r1.ext (by repeat' (first | with_reducible exact Ext.refl _ | with_reducible assumption | with_reducible apply Ext.alloc_r | with_reducible apply Ext.drew_r | with_reducible refine Ext.trans ?_ ‹Ext _ _›))) (by omega)).mono ?_; rintro e w10 ⟨rfl, x10⟩)
            | (go_at_call 32; refine (add_rz (x.ext (by repeat' (first | with_reducible exact Ext.refl _ | with_reducible assumption | with_reducible apply Ext.alloc_r | with_reducible apply Ext.drew_r | with_reducible refine Ext.trans ?_ ‹Ext _ _›))) (y.ext (by repeat' (first | with_reducible exact Ext.refl _ | with_reducible assumption | with_reducible apply Ext.alloc_r | with_reducible apply Ext.drew_r | with_reducible refine Ext.trans ?_ ‹Ext _ _›))) (by omega) (by omega)).mono ?_; rintro e w9 ⟨gr1, Ar1, cr1, Lr1, rfl, r1, x9⟩)
            | (go_at_call 25; refine (add_z (h1.ext (by repeat' (first | with_reducible exact Ext.refl _ | with_reducible assumption | with_reducible apply Ext.alloc_r | with_reducible apply Ext.drew_r | with_reducible refine Ext.trans ?_ ‹Ext _ _›))) (h2.ext (by repeat' (first | with_reducible exact Ext.refl _ | with_reducible assumption | with_reducible apply Ext.alloc_r | with_reducible apply Ext.drew_r | with_reducible refine Ext.trans ?_ ‹Ext _ _›))) (by omega) (by omega)).mono ?_; rintro e w8 ⟨sa1, Aa1, ca1, La1, rfl, a1, x8⟩))
        clear HK
        have xx : Ext w w22 := (by repeat' (first | with_reducible exact Ext.refl _ | with_reducible assumption | with_reducible apply Ext.alloc_r | with_reducible apply Ext.drew_r | with_reducible refine Ext.trans ?_ ‹Ext _ _›))
        go_wp2_with fail
        go_ret
        exact ⟨rfl, (by repeat' (first | with_reducible exact Ext.refl _ | with_reducible assumption | with_reducible apply Ext.alloc_r | with_reducible apply Ext.drew_r | with_reducible refine Ext.trans ?_ ‹Ext _ _›))⟩
  · have hf' : (decide (L1 ≤ 20) && (decide (L2 ≤ 20) && decide (L1 ≤ 20))) = false := by simpa using hf
    have HF := Lib.hid hf'
    clear hf hf'
    go_enter Try.func7, Try.ntmps7
    go_wp2_with fail
    obtain ⟨w0, hw0⟩ : ∃ z : World, z = ((w.alloc (.cells #[.bool s1, .slice A1 L1 c1] 25)).alloc (.cells #[.bool s2, .slice A2 L2 c2] 25)) := ⟨_, rfl⟩
    rw [← hw0]
    have b0 := box_at w #[.bool s1, .slice A1 L1 c1] 25
    have b1 := box_at (w.alloc (.cells #[.bool s1, .slice A1 L1 c1] 25)) #[.bool s2, .slice A2 L2 c2] 25
    have hsz : w0.heap.size = w.heap.size + 1 + 1 := by rw [hw0]; simp
    rw [← hw0] at b1
    have y1 : Ext (w.alloc (.cells #[.bool s1, .slice A1 L1 c1] 25)) w0 := by rw [hw0]; exact Ext.alloc _ _
    have y0 : Ext w w0 := (Ext.alloc _ _).trans y1
    have x0 : Ext w w0 := y0
    have e0_0 := y1.cell (b0.1 0 (.bool s1) rfl)
    have e0_1 := y1.cell (b0.1 1 (.slice A1 L1 c1) rfl)
    have e1_0 := b1.1 0 (.bool s2) rfl
    have e1_1 := b1.1 1 (.slice A2 L2 c2) rfl
    simp only [World.size_alloc] at e1_0 e1_1
    clear hw0 b0 b1 y0 y1
    go_wp2_with fail
    refine (lawake_z _).mono ?_
    rintro e w1 ⟨rfl, x1⟩
    replace e0_0 := x1.cell e0_0
    replace e0_1 := x1.cell e0_1
    replace e1_0 := x1.cell e1_0
    replace e1_1 := x1.cell e1_1
    go_wp2_with fail
    refine (lfew_z (n := 20) (by omega) (by omega) (by omega)).mono ?_
    rintro e w2 ⟨rfl, x2⟩
    replace e0_0 := x2.cell e0_0
    replace e0_1 := x2.cell e0_1
    replace e1_0 := x2.cell e1_0
    replace e1_1 := x2.cell e1_1
    rw [HF.out]
    clear hsz
    go_wp2_with fail
    refine (lawake_z _).mono ?_
    rintro e w3 ⟨rfl, x3⟩
    replace e0_0 := x3.cell e0_0
    replace e0_1 := x3.cell e0_1
    replace e1_0 := x3.cell e1_0
    replace e1_1 := x3.cell e1_1
    go_wp2_with fail
    go_ret
    exact ⟨rfl, (by repeat' (first | with_reducible exact Ext.refl _ | with_reducible assumption | with_reducible apply Ext.alloc_r | with_reducible apply Ext.drew_r | with_reducible refine Ext.trans ?_ ‹Ext _ _›))⟩
end Go.Proofs.Ytcccabgeoaidjaa
