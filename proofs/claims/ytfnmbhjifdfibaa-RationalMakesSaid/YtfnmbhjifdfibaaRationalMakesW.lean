/- The walk of RationalMakes. -/
import Derived.Test.YtfnmbhjifdfibaaLaw5d
import Derived.Test.YtfnmbhjifdfibaaKept
namespace Go.Proofs.Ytfnmbhjifdfibaa
open Go.RowKit
set_option maxHeartbeats 40000000 in
set_option maxRecDepth 100000 in
theorem rationalMakes_walk {w : World} {s1 : Bool} {A1 : Option Addr} {c1 L1 : Nat} {z1 : Int} {s2 : Bool} {A2 : Option Addr} {c2 L2 : Nat} {z2 : Int} (h1 : ZV w s1 A1 c1 L1 z1) (h2 : ZV w s2 A2 c2 L2 z2) :
    Calls Try.prog 4 #[.agg #[.bool s1, .slice A1 L1 c1], .agg #[.bool s2, .slice A2 L2 c2]] w fun e w' => e = .returned (.bool true) ∧ Ext w w' := by
  have p1 := h1.nv.cap
  have k1 := h1.nv.le
  have p2 := h2.nv.cap
  have k2 := h2.nv.le
  by_cases hf : L1 ≤ 6 ∧ L2 ≤ 6
  · have b1 : dl z1.natAbs ≤ 6 := Nat.le_trans h1.nv.dl hf.1
    have b2 : dl z2.natAbs ≤ 6 := Nat.le_trans h2.nv.dl hf.2
    have v1 : bl z1.natAbs ≤ 192 := Nat.le_trans h1.nv.bl (by omega)
    have v2 : bl z2.natAbs ≤ 192 := Nat.le_trans h2.nv.bl (by omega)
    have HF : Hid ((decide (L1 ≤ 6) && decide (L2 ≤ 6)) = true) := by show _ = _; simp only [decide_eq_true_eq, Bool.and_eq_true]; omega
    have l1 : L1 ≤ 6 := hf.1
    have l2 : L2 ≤ 6 := hf.2
    clear hf
    go_enter Try.func4, Try.ntmps4
    go_wp2_with fail
    obtain ⟨w0, hw0⟩ : ∃ z : World, z = ((w.alloc (.cells #[.bool s1, .slice A1 L1 c1] 25)).alloc (.cells #[.bool s2, .slice A2 L2 c2] 25)) := ⟨_, rfl⟩
    rw [← hw0]
    have b0 := box_at w #[.bool s1, .slice A1 L1 c1] 25
    have b1 := box_at (w.alloc (.cells #[.bool s1, .slice A1 L1 c1] 25)) #[.bool s2, .slice A2 L2 c2] 25
    have hsz : w0.heap.size = w.heap.size + 1 + 1 := by rw [hw0]; simp
    rw [← hw0] at b1
    have y1 : Ext (w.alloc (.cells #[.bool s1, .slice A1 L1 c1] 25)) w0 := by rw [hw0]; exact Ext.alloc _ _
    have y0 : Ext w w0 := (Ext.alloc _ _).trans y1
    have x0 : Ext w w0 := y0
    have e0_0 := y1.cell (b0.1 0 (.bool s1) rfl)
    have e0_1 := y1.cell (b0.1 1 (.slice A1 L1 c1) rfl)
    have e1_0 := b1.1 0 (.bool s2) rfl
    have e1_1 := b1.1 1 (.slice A2 L2 c2) rfl
    simp only [World.size_alloc] at e1_0 e1_1
    clear hw0 b0 b1 y0 y1
    go_wp2_with fail
    refine (awake5 _).mono ?_
    rintro e w1 ⟨rfl, x1⟩
    replace e0_0 := x1.cell e0_0
    replace e0_1 := x1.cell e0_1
    replace e1_0 := x1.cell e1_0
    replace e1_1 := x1.cell e1_1
    go_wp2_with fail
    refine (few2 (n := 6) (w := w1) (by omega) (by omega)).mono ?_
    rintro e w2 ⟨rfl, x2⟩
    replace e0_0 := x2.cell e0_0
    replace e0_1 := x2.cell e0_1
    replace e1_0 := x2.cell e1_0
    replace e1_1 := x2.cell e1_1
    rw [HF.out]
    clear hsz
    go_wp2_with fail
    go_cut [5, 6] (fun s5 s6 wx => PutRZ w2 wx z1 s5 ∧ PutRZ w2 wx z2 s6)
    case first =>
      have HK : Hid (∀ w', Ext w2 w' → Ext w2 w' ∧ w'.cell? ⟨w.heap.size, 0, none⟩ = some (.bool s1) ∧ w'.cell? ⟨w.heap.size, 1, none⟩ = some (.slice A1 L1 c1) ∧ w'.cell? ⟨w.heap.size + 1, 0, none⟩ = some (.bool s2) ∧ w'.cell? ⟨w.heap.size + 1, 1, none⟩ = some (.slice A2 L2 c2)) := fun w' hk => ⟨hk, hk.cell e0_0, hk.cell e0_1, hk.cell e1_0, hk.cell e1_1⟩
      first
      | go_region_held3 (fun w' => Ext w2 w' ∧ w'.cell? ⟨w.heap.size, 0, none⟩ = some (.bool s1) ∧ w'.cell? ⟨w.heap.size, 1, none⟩ = some (.slice A1 L1 c1) ∧ w'.cell? ⟨w.heap.size + 1, 0, none⟩ = some (.bool s2) ∧ w'.cell? ⟨w.heap.size + 1, 1, none⟩ = some (.slice A2 L2 c2))
          ((with_reducible refine HK.out _ ?_; (repeat' (first | with_reducible exact Ext.refl _ | with_reducible assumption | with_reducible apply Ext.alloc_r | with_reducible apply Ext.drew_r | with_reducible apply Ext.drewN_r | with_reducible apply Ext.set_r | with_reducible exact Nat.le_refl _ | omega | with_reducible refine Ext.trans ?_ ‹Ext _ _›))))
          (first
            | (go_at_call_of 18 (#[Value.bool s2, Value.slice A2 L2 c2]); have hgd := oa; clear hgd; refine (of_rz (h2.ext (by repeat' (first | with_reducible exact Ext.refl _ | with_reducible assumption | with_reducible apply Ext.alloc_r | with_reducible apply Ext.drew_r | with_reducible apply Ext.drewN_r | with_reducible refine Ext.trans ?_ ‹Ext _ _›))) (by omega)).mono ?_; rintro e w4 ⟨gob, Aob, cob, Lob, rfl, ob, x4⟩; (have zs4 := x4.size); (try simp only [World.size_alloc] at zs4); (try ((with_reducible have h4_0 := box_ext (vs := #[.int .i64 0, .slice none 0 0]) x4); have h4_0c0 := (h4_0.1 0 (.int .i64 0) rfl).1; have h4_0f0 := (h4_0.1 0 (.int .i64 0) rfl).2; have h4_0c1 := (h4_0.1 1 (.slice none 0 0) rfl).1; have h4_0f1 := (h4_0.1 1 (.slice none 0 0) rfl).2; have h4_0b := h4_0.2.1; have h4_0z := h4_0.2.2; (try simp only [World.size_alloc] at h4_0b h4_0z h4_0c0 h4_0f0 h4_0c1 h4_0f1); have h4_0m := Nat.ne_of_lt h4_0z; have h4_0n := Nat.ne_of_gt h4_0z; clear h4_0)); (try ((with_reducible have h4_1 := box_ext (vs := #[.int .i64 0, .slice none 0 0]) ((Ext.alloc _ _).trans x4)); have h4_1c0 := (h4_1.1 0 (.int .i64 0) rfl).1; have h4_1f0 := (h4_1.1 0 (.int .i64 0) rfl).2; have h4_1c1 := (h4_1.1 1 (.slice none 0 0) rfl).1; have h4_1f1 := (h4_1.1 1 (.slice none 0 0) rfl).2; have h4_1b := h4_1.2.1; have h4_1z := h4_1.2.2; (try simp only [World.size_alloc] at h4_1b h4_1z h4_1c0 h4_1f0 h4_1c1 h4_1f1); have h4_1m := Nat.ne_of_lt h4_1z; have h4_1n := Nat.ne_of_gt h4_1z; clear h4_1)); (try (have hh : Ext w3 w4 := ?g400; (case g400 => ((repeat' (first | with_reducible exact Ext.refl _ | with_reducible assumption | with_reducible apply Ext.alloc_r | with_reducible apply Ext.drew_r | with_reducible apply Ext.drewN_r | with_reducible refine Ext.trans ?_ ‹Ext _ _›)); done)); replace h3_0f0 := hh.frozen h3_0c0 h3_0f0; replace h3_0c0 := hh.cell h3_0c0; replace h3_0f1 := hh.frozen h3_0c1 h3_0f1; replace h3_0c1 := hh.cell h3_0c1; replace h3_0b := h3_0b.ext hh; have h3_0z2 := Nat.lt_of_lt_of_le h3_0z hh.size; have h3_0m2 := Nat.ne_of_lt h3_0z2; have h3_0n2 := Nat.ne_of_gt h3_0z2; clear hh)); (try (have hh : Ext w3 w4 := ?g401; (case g401 => ((repeat' (first | with_reducible exact Ext.refl _ | with_reducible assumption | with_reducible apply Ext.alloc_r | with_reducible apply Ext.drew_r | with_reducible apply Ext.drewN_r | with_reducible refine Ext.trans ?_ ‹Ext _ _›)); done)); replace h3_1f0 := hh.frozen h3_1c0 h3_1f0; replace h3_1c0 := hh.cell h3_1c0; replace h3_1f1 := hh.frozen h3_1c1 h3_1f1; replace h3_1c1 := hh.cell h3_1c1; replace h3_1b := h3_1b.ext hh; have h3_1z2 := Nat.lt_of_lt_of_le h3_1z hh.size; have h3_1m2 := Nat.ne_of_lt h3_1z2; have h3_1n2 := Nat.ne_of_gt h3_1z2; clear hh)))
            | (go_at_call_of 18 (#[Value.bool s1, Value.slice A1 L1 c1]); refine (of_rz (h1.ext (by repeat' (first | with_reducible exact Ext.refl _ | with_reducible assumption | with_reducible apply Ext.alloc_r | with_reducible apply Ext.drew_r | with_reducible apply Ext.drewN_r | with_reducible refine Ext.trans ?_ ‹Ext _ _›))) (by omega)).mono ?_; rintro e w3 ⟨goa, Aoa, coa, Loa, rfl, oa, x3⟩; (have zs3 := x3.size); (try simp only [World.size_alloc, World.size_drew] at zs3); (try ((with_reducible have h3_0 := box_ext (vs := #[.int .i64 0, .slice none 0 0]) ((Ext.drew _).trans x3)); have h3_0c0 := (h3_0.1 0 (.int .i64 0) rfl).1; have h3_0f0 := (h3_0.1 0 (.int .i64 0) rfl).2; have h3_0c1 := (h3_0.1 1 (.slice none 0 0) rfl).1; have h3_0f1 := (h3_0.1 1 (.slice none 0 0) rfl).2; have h3_0b := h3_0.2.1; have h3_0z := h3_0.2.2; (try simp only [World.size_alloc] at h3_0b h3_0z h3_0c0 h3_0f0 h3_0c1 h3_0f1); have h3_0m := Nat.ne_of_lt h3_0z; have h3_0n := Nat.ne_of_gt h3_0z; clear h3_0)); (try ((with_reducible have h3_1 := box_ext (vs := #[.int .i64 0, .slice none 0 0]) (((Ext.alloc _ _).trans (Ext.drew _)).trans x3)); have h3_1c0 := (h3_1.1 0 (.int .i64 0) rfl).1; have h3_1f0 := (h3_1.1 0 (.int .i64 0) rfl).2; have h3_1c1 := (h3_1.1 1 (.slice none 0 0) rfl).1; have h3_1f1 := (h3_1.1 1 (.slice none 0 0) rfl).2; have h3_1b := h3_1.2.1; have h3_1z := h3_1.2.2; (try simp only [World.size_alloc] at h3_1b h3_1z h3_1c0 h3_1f0 h3_1c1 h3_1f1); have h3_1m := Nat.ne_of_lt h3_1z; have h3_1n := Nat.ne_of_gt h3_1z; clear h3_1))))
      | fail
      all_goals (clear HK; go_wp2_with fail; go_meet)
      all_goals
        refine ⟨?_, ?_⟩
        · refine PutRZ.mk (sg := goa) (A := Aoa) (c := coa) (L := Loa) ?_ (oa.kept ?_) ?_
          · refine Bx.mk2 ?_ ?_
            · go_simp
            · go_simp
          · (repeat' (first | with_reducible exact Kept.refl _ | with_reducible apply Kept.alloc_r | with_reducible apply Kept.drew_r | (with_reducible apply Kept.setZ; (case hb => ((repeat' (first | with_reducible assumption | with_reducible apply IsBox.set_ | (with_reducible apply IsBox.new; (first | (with_reducible rfl) | simp); done) | with_reducible apply IsBox.alloc_ | with_reducible apply IsBox.drew_ | with_reducible refine IsBox.ext ?_ ‹Ext _ _›)); done))) | (with_reducible apply Kept.setI; (case hb => ((repeat' (first | with_reducible assumption | with_reducible apply IsBox.set_ | (with_reducible apply IsBox.new; (first | (with_reducible rfl) | simp); done) | with_reducible apply IsBox.alloc_ | with_reducible apply IsBox.drew_ | with_reducible refine IsBox.ext ?_ ‹Ext _ _›)); done))) | with_reducible refine Kept.trans ?_ (Ext.kept ‹Ext _ _›)))
          · (repeat' (first | with_reducible exact Ext.refl _ | with_reducible assumption | with_reducible apply Ext.alloc_r | with_reducible apply Ext.drew_r | with_reducible apply Ext.drewN_r | with_reducible apply Ext.set_r | with_reducible exact Nat.le_refl _ | omega | with_reducible refine Ext.trans ?_ ‹Ext _ _›))
        · refine PutRZ.mk (sg := gob) (A := Aob) (c := cob) (L := Lob) ?_ (ob.kept ?_) ?_
          · refine Bx.mk2 ?_ ?_
            · go_simp
            · go_simp
          · (repeat' (first | with_reducible exact Kept.refl _ | with_reducible apply Kept.alloc_r | with_reducible apply Kept.drew_r | (with_reducible apply Kept.setZ; (case hb => ((repeat' (first | with_reducible assumption | with_reducible apply IsBox.set_ | (with_reducible apply IsBox.new; (first | (with_reducible rfl) | simp); done) | with_reducible apply IsBox.alloc_ | with_reducible apply IsBox.drew_ | with_reducible refine IsBox.ext ?_ ‹Ext _ _›)); done))) | (with_reducible apply Kept.setI; (case hb => ((repeat' (first | with_reducible assumption | with_reducible apply IsBox.set_ | (with_reducible apply IsBox.new; (first | (with_reducible rfl) | simp); done) | with_reducible apply IsBox.alloc_ | with_reducible apply IsBox.drew_ | with_reducible refine IsBox.ext ?_ ‹Ext _ _›)); done))) | with_reducible refine Kept.trans ?_ (Ext.kept ‹Ext _ _›)))
          · (repeat' (first | with_reducible exact Ext.refl _ | with_reducible assumption | with_reducible apply Ext.alloc_r | with_reducible apply Ext.drew_r | with_reducible apply Ext.drewN_r | with_reducible apply Ext.set_r | with_reducible exact Nat.le_refl _ | omega | with_reducible refine Ext.trans ?_ ‹Ext _ _›))
    case rest =>
      have hcw := hcut
      obtain ⟨hc_0, hc_1⟩ := hcw
      obtain ⟨gx, Ax, cx, Lx, ⟨bkx, rfl, ccx⟩, x, xxx⟩ := hc_0
      obtain ⟨gy, Ay, cy, Ly, ⟨bky, rfl, ccy⟩, y, xxy⟩ := hc_1
      have x5 := xxx
      clear xxx
      clear xxy
      obtain ⟨wc5, rfl⟩ : ∃ z : World, z = wc := ⟨_, rfl⟩
      replace e0_0 := x5.cell e0_0
      replace e0_1 := x5.cell e0_1
      replace e1_0 := x5.cell e1_0
      replace e1_1 := x5.cell e1_1
      have x_0 := ccx 0 (.int .i64 gx) rfl
      have x_1 := ccx 1 (.slice Ax Lx cx) rfl
      clear ccx
      have y_0 := ccy 0 (.int .i64 gy) rfl
      have y_1 := ccy 1 (.slice Ay Ly cy) rfl
      clear ccy
      have hgy := y.sign
      by_cases h0 : z2 = 0
      · have hg0 : (gy == 0) = true := by rw [hgy, h0]; rfl
        clear hgy
        go_wp2_with fail
        refine (rmake_zero (h2.ext (by repeat' (first | with_reducible exact Ext.refl _ | with_reducible assumption | with_reducible apply Ext.alloc_r | with_reducible apply Ext.drew_r | with_reducible apply Ext.drewN_r | with_reducible refine Ext.trans ?_ ‹Ext _ _›))) h0).mono ?_
        rintro e w6 ⟨rfl, x6⟩
        replace e0_0 := x6.cell e0_0
        replace e0_1 := x6.cell e0_1
        replace e1_0 := x6.cell e1_0
        replace e1_1 := x6.cell e1_1
        replace x_0 := x6.cell x_0
        replace x_1 := x6.cell x_1
        replace y_0 := x6.cell y_0
        replace y_1 := x6.cell y_1
        clear h0
        have te0_0 := fun o => (Ext.alloc w6 o).cell e0_0
        have te0_1 := fun o => (Ext.alloc w6 o).cell e0_1
        have te1_0 := fun o => (Ext.alloc w6 o).cell e1_0
        have te1_1 := fun o => (Ext.alloc w6 o).cell e1_1
        have tx_0 := fun o => (Ext.alloc w6 o).cell x_0
        have tx_1 := fun o => (Ext.alloc w6 o).cell x_1
        have ty_0 := fun o => (Ext.alloc w6 o).cell y_0
        have ty_1 := fun o => (Ext.alloc w6 o).cell y_1
        go_wp2_with fail
        clear te0_0 te0_1 te1_0 te1_1 tx_0 tx_1 ty_0 ty_1
        obtain ⟨w7, hw⟩ : ∃ z : World, z = (w6.alloc (.cells #[.bool false, .slice none 0 0, .slice none 0 0] 27)) := ⟨_, rfl⟩
        rw [← hw]
        have x7 : Ext w6 w7 := by rw [hw]; exact Ext.alloc _ _
        have bb := box_at w6 #[.bool false, .slice none 0 0, .slice none 0 0] 27
        rw [← hw] at bb
        replace e0_0 := x7.cell e0_0
        replace e0_1 := x7.cell e0_1
        replace e1_0 := x7.cell e1_0
        replace e1_1 := x7.cell e1_1
        replace x_0 := x7.cell x_0
        replace x_1 := x7.cell x_1
        replace y_0 := x7.cell y_0
        replace y_1 := x7.cell y_1
        have qb_0 := bb.1 0 (.bool false) rfl
        have qb_1 := bb.1 1 (.slice none 0 0) rfl
        have qb_2 := bb.1 2 (.slice none 0 0) rfl
        clear hw bb
        go_wp2_with fail
        go_cut [9] (fun s9 wx => PutQ w7 wx 192 (z1 : Rat) s9)
        case first =>
          have HK : Hid (∀ w', Ext w7 w' → Ext w7 w' ∧ w'.cell? ⟨w.heap.size, 0, none⟩ = some (.bool s1) ∧ w'.cell? ⟨w.heap.size, 1, none⟩ = some (.slice A1 L1 c1) ∧ w'.cell? ⟨w.heap.size + 1, 0, none⟩ = some (.bool s2) ∧ w'.cell? ⟨w.heap.size + 1, 1, none⟩ = some (.slice A2 L2 c2) ∧ w'.cell? ⟨bkx, 0, none⟩ = some (.int .i64 gx) ∧ w'.cell? ⟨bkx, 1, none⟩ = some (.slice Ax Lx cx) ∧ w'.cell? ⟨bky, 0, none⟩ = some (.int .i64 gy) ∧ w'.cell? ⟨bky, 1, none⟩ = some (.slice Ay Ly cy) ∧ w'.cell? ⟨w6.heap.size, 0, none⟩ = some (.bool false) ∧ w'.cell? ⟨w6.heap.size, 1, none⟩ = some (.slice none 0 0) ∧ w'.cell? ⟨w6.heap.size, 2, none⟩ = some (.slice none 0 0)) := fun w' hk => ⟨hk, hk.cell e0_0, hk.cell e0_1, hk.cell e1_0, hk.cell e1_1, hk.cell x_0, hk.cell x_1, hk.cell y_0, hk.cell y_1, hk.cell qb_0, hk.cell qb_1, hk.cell qb_2⟩
          first
          | go_region_held3 (fun w' => Ext w7 w' ∧ w'.cell? ⟨w.heap.size, 0, none⟩ = some (.bool s1) ∧ w'.cell? ⟨w.heap.size, 1, none⟩ = some (.slice A1 L1 c1) ∧ w'.cell? ⟨w.heap.size + 1, 0, none⟩ = some (.bool s2) ∧ w'.cell? ⟨w.heap.size + 1, 1, none⟩ = some (.slice A2 L2 c2) ∧ w'.cell? ⟨bkx, 0, none⟩ = some (.int .i64 gx) ∧ w'.cell? ⟨bkx, 1, none⟩ = some (.slice Ax Lx cx) ∧ w'.cell? ⟨bky, 0, none⟩ = some (.int .i64 gy) ∧ w'.cell? ⟨bky, 1, none⟩ = some (.slice Ay Ly cy) ∧ w'.cell? ⟨w6.heap.size, 0, none⟩ = some (.bool false) ∧ w'.cell? ⟨w6.heap.size, 1, none⟩ = some (.slice none 0 0) ∧ w'.cell? ⟨w6.heap.size, 2, none⟩ = some (.slice none 0 0))
              ((with_reducible refine HK.out _ ?_; (repeat' (first | with_reducible exact Ext.refl _ | with_reducible assumption | with_reducible apply Ext.alloc_r | with_reducible apply Ext.drew_r | with_reducible apply Ext.drewN_r | with_reducible apply Ext.set_r | with_reducible exact Nat.le_refl _ | omega | with_reducible refine Ext.trans ?_ ‹Ext _ _›))))
              (first
                | (go_at_call 20; refine (small_rz (n := 1) (by omega)).mono ?_; rintro e w8 ⟨go, Ao, co, Lo, rfl, o, x8⟩; (have zs8 := x8.size); (try simp only [World.size_alloc, World.size_drew] at zs8); (try ((with_reducible have h8_0 := box_ext (vs := #[.int .i64 0, .slice none 0 0, .int .i64 0, .slice none 0 0]) ((Ext.drew _).trans x8)); have h8_0c0 := (h8_0.1 0 (.int .i64 0) rfl).1; have h8_0f0 := (h8_0.1 0 (.int .i64 0) rfl).2; have h8_0c1 := (h8_0.1 1 (.slice none 0 0) rfl).1; have h8_0f1 := (h8_0.1 1 (.slice none 0 0) rfl).2; have h8_0c2 := (h8_0.1 2 (.int .i64 0) rfl).1; have h8_0f2 := (h8_0.1 2 (.int .i64 0) rfl).2; have h8_0c3 := (h8_0.1 3 (.slice none 0 0) rfl).1; have h8_0f3 := (h8_0.1 3 (.slice none 0 0) rfl).2; have h8_0b := h8_0.2.1; have h8_0z := h8_0.2.2; (try simp only [World.size_alloc] at h8_0b h8_0z h8_0c0 h8_0f0 h8_0c1 h8_0f1 h8_0c2 h8_0f2 h8_0c3 h8_0f3); have h8_0m := Nat.ne_of_lt h8_0z; have h8_0n := Nat.ne_of_gt h8_0z; clear h8_0))))
          | fail
          all_goals (clear HK; go_wp2_with fail; go_meet)
          all_goals
            refine PutQ.mk (g := gx) (A := Ax) (c := cx) (L := Lx) (h := go) (B := Ao) (d := co) (M := Lo) ?_ ((qr_int (x.ext (by repeat' (first | with_reducible exact Ext.refl _ | with_reducible assumption | with_reducible apply Ext.alloc_r | with_reducible apply Ext.drew_r | with_reducible apply Ext.drewN_r | with_reducible refine Ext.trans ?_ ‹Ext _ _›))) o v1 (by omega)).kept ?_) ?_
            · refine Bx.mk4 ?_ ?_ ?_ ?_
              · go_simp
              · go_simp
              · go_simp
              · go_simp
            · (repeat' (first | with_reducible exact Kept.refl _ | with_reducible apply Kept.alloc_r | with_reducible apply Kept.drew_r | (with_reducible apply Kept.setQ; (case hb => ((repeat' (first | with_reducible assumption | with_reducible apply IsBox.set_ | (with_reducible apply IsBox.new; (first | (with_reducible rfl) | simp); done) | with_reducible apply IsBox.alloc_ | with_reducible apply IsBox.drew_ | with_reducible refine IsBox.ext ?_ ‹Ext _ _›)); done))) | (with_reducible apply Kept.setR; (case hb => ((repeat' (first | with_reducible assumption | with_reducible apply IsBox.set_ | (with_reducible apply IsBox.new; (first | (with_reducible rfl) | simp); done) | with_reducible apply IsBox.alloc_ | with_reducible apply IsBox.drew_ | with_reducible refine IsBox.ext ?_ ‹Ext _ _›)); done))) | (with_reducible apply Kept.setZ; (case hb => ((repeat' (first | with_reducible assumption | with_reducible apply IsBox.set_ | (with_reducible apply IsBox.new; (first | (with_reducible rfl) | simp); done) | with_reducible apply IsBox.alloc_ | with_reducible apply IsBox.drew_ | with_reducible refine IsBox.ext ?_ ‹Ext _ _›)); done))) | (with_reducible apply Kept.setI; (case hb => ((repeat' (first | with_reducible assumption | with_reducible apply IsBox.set_ | (with_reducible apply IsBox.new; (first | (with_reducible rfl) | simp); done) | with_reducible apply IsBox.alloc_ | with_reducible apply IsBox.drew_ | with_reducible refine IsBox.ext ?_ ‹Ext _ _›)); done))) | with_reducible refine Kept.trans ?_ (Ext.kept ‹Ext _ _›)))
            · (repeat' (first | with_reducible exact Ext.refl _ | with_reducible assumption | with_reducible apply Ext.alloc_r | with_reducible apply Ext.drew_r | with_reducible apply Ext.drewN_r | with_reducible apply Ext.set_r | with_reducible exact Nat.le_refl _ | omega | with_reducible refine Ext.trans ?_ ‹Ext _ _›))
        case rest =>
          have hcw := hcut
          have hc_0 := hcw
          obtain ⟨gone, Aone, cone, Lone, hone, Bone, done, Mone, ⟨bkone, rfl, ccone⟩, one, xxone⟩ := hc_0
          have x9 := xxone
          clear xxone
          obtain ⟨wc9, rfl⟩ : ∃ z : World, z = wc := ⟨_, rfl⟩
          replace e0_0 := x9.cell e0_0
          replace e0_1 := x9.cell e0_1
          replace e1_0 := x9.cell e1_0
          replace e1_1 := x9.cell e1_1
          replace x_0 := x9.cell x_0
          replace x_1 := x9.cell x_1
          replace y_0 := x9.cell y_0
          replace y_1 := x9.cell y_1
          replace qb_0 := x9.cell qb_0
          replace qb_1 := x9.cell qb_1
          replace qb_2 := x9.cell qb_2
          have one_0 := ccone 0 (.int .i64 gone) rfl
          have one_1 := ccone 1 (.slice Aone Lone cone) rfl
          have one_2 := ccone 2 (.int .i64 hone) rfl
          have one_3 := ccone 3 (.slice Bone Mone done) rfl
          clear ccone
          go_wp2_with fail
          have HK : Hid (∀ w', Ext wc9 w' → Ext wc9 w' ∧ w'.cell? ⟨w.heap.size, 0, none⟩ = some (.bool s1) ∧ w'.cell? ⟨w.heap.size, 1, none⟩ = some (.slice A1 L1 c1) ∧ w'.cell? ⟨w.heap.size + 1, 0, none⟩ = some (.bool s2) ∧ w'.cell? ⟨w.heap.size + 1, 1, none⟩ = some (.slice A2 L2 c2) ∧ w'.cell? ⟨bkx, 0, none⟩ = some (.int .i64 gx) ∧ w'.cell? ⟨bkx, 1, none⟩ = some (.slice Ax Lx cx) ∧ w'.cell? ⟨bky, 0, none⟩ = some (.int .i64 gy) ∧ w'.cell? ⟨bky, 1, none⟩ = some (.slice Ay Ly cy) ∧ w'.cell? ⟨w6.heap.size, 0, none⟩ = some (.bool false) ∧ w'.cell? ⟨w6.heap.size, 1, none⟩ = some (.slice none 0 0) ∧ w'.cell? ⟨w6.heap.size, 2, none⟩ = some (.slice none 0 0) ∧ w'.cell? ⟨bkone, 0, none⟩ = some (.int .i64 gone) ∧ w'.cell? ⟨bkone, 1, none⟩ = some (.slice Aone Lone cone) ∧ w'.cell? ⟨bkone, 2, none⟩ = some (.int .i64 hone) ∧ w'.cell? ⟨bkone, 3, none⟩ = some (.slice Bone Mone done)) := fun w' hk => ⟨hk, hk.cell e0_0, hk.cell e0_1, hk.cell e1_0, hk.cell e1_1, hk.cell x_0, hk.cell x_1, hk.cell y_0, hk.cell y_1, hk.cell qb_0, hk.cell qb_1, hk.cell qb_2, hk.cell one_0, hk.cell one_1, hk.cell one_2, hk.cell one_3⟩
          first
          | go_region_held3 (fun w' => Ext wc9 w' ∧ w'.cell? ⟨w.heap.size, 0, none⟩ = some (.bool s1) ∧ w'.cell? ⟨w.heap.size, 1, none⟩ = some (.slice A1 L1 c1) ∧ w'.cell? ⟨w.heap.size + 1, 0, none⟩ = some (.bool s2) ∧ w'.cell? ⟨w.heap.size + 1, 1, none⟩ = some (.slice A2 L2 c2) ∧ w'.cell? ⟨bkx, 0, none⟩ = some (.int .i64 gx) ∧ w'.cell? ⟨bkx, 1, none⟩ = some (.slice Ax Lx cx) ∧ w'.cell? ⟨bky, 0, none⟩ = some (.int .i64 gy) ∧ w'.cell? ⟨bky, 1, none⟩ = some (.slice Ay Ly cy) ∧ w'.cell? ⟨w6.heap.size, 0, none⟩ = some (.bool false) ∧ w'.cell? ⟨w6.heap.size, 1, none⟩ = some (.slice none 0 0) ∧ w'.cell? ⟨w6.heap.size, 2, none⟩ = some (.slice none 0 0) ∧ w'.cell? ⟨bkone, 0, none⟩ = some (.int .i64 gone) ∧ w'.cell? ⟨bkone, 1, none⟩ = some (.slice Aone Lone cone) ∧ w'.cell? ⟨bkone, 2, none⟩ = some (.int .i64 hone) ∧ w'.cell? ⟨bkone, 3, none⟩ = some (.slice Bone Mone done))
              ((with_reducible refine HK.out _ ?_; (repeat' (first | with_reducible exact Ext.refl _ | with_reducible assumption | with_reducible apply Ext.alloc_r | with_reducible apply Ext.drew_r | with_reducible apply Ext.drewN_r | with_reducible refine Ext.trans ?_ ‹Ext _ _›))))
              (first
                | (go_at_call_of 21 (#[Value.agg #[Value.bool sfr, Value.slice Afr Lfr cfr, Value.slice Bfr Mfr dfr], Value.agg #[Value.int IntKind.i64 gone, Value.slice Aone Lone cone, Value.int IntKind.i64 hone, Value.slice Bone Mone done]]); have hgd := fr; clear hgd; refine (lis5 (fr.ext (by repeat' (first | with_reducible exact Ext.refl _ | with_reducible assumption | with_reducible apply Ext.alloc_r | with_reducible apply Ext.drew_r | with_reducible apply Ext.drewN_r | with_reducible refine Ext.trans ?_ ‹Ext _ _›))) (one.ext (by repeat' (first | with_reducible exact Ext.refl _ | with_reducible assumption | with_reducible apply Ext.alloc_r | with_reducible apply Ext.drew_r | with_reducible apply Ext.drewN_r | with_reducible refine Ext.trans ?_ ‹Ext _ _›))) (rfl) (by omega)).mono ?_; rintro e w11 ⟨rfl, x11⟩)
                | (go_at_call 22; refine (rfrom_r (N := 6) (h1.ext (by repeat' (first | with_reducible exact Ext.refl _ | with_reducible assumption | with_reducible apply Ext.alloc_r | with_reducible apply Ext.drew_r | with_reducible apply Ext.drewN_r | with_reducible refine Ext.trans ?_ ‹Ext _ _›))) b1 (by omega) (by omega)).mono ?_; rintro e w10 ⟨sfr, Afr, cfr, Lfr, Bfr, dfr, Mfr, rfl, fr, x10⟩))
          | fail
          clear HK
          have xh : Ext wc9 w11 := (by repeat' (first | with_reducible exact Ext.refl _ | with_reducible assumption | with_reducible apply Ext.alloc_r | with_reducible apply Ext.drew_r | with_reducible apply Ext.drewN_r | with_reducible refine Ext.trans ?_ ‹Ext _ _›))
          replace e0_0 := xh.cell e0_0
          replace e0_1 := xh.cell e0_1
          replace e1_0 := xh.cell e1_0
          replace e1_1 := xh.cell e1_1
          replace x_0 := xh.cell x_0
          replace x_1 := xh.cell x_1
          replace y_0 := xh.cell y_0
          replace y_1 := xh.cell y_1
          replace qb_0 := xh.cell qb_0
          replace qb_1 := xh.cell qb_1
          replace qb_2 := xh.cell qb_2
          replace one_0 := xh.cell one_0
          replace one_1 := xh.cell one_1
          replace one_2 := xh.cell one_2
          replace one_3 := xh.cell one_3
          clear xh
          go_wp2_with fail
          refine (rsign_is (k := 0) (rv_zero _) rfl).mono ?_
          rintro e w12 ⟨rfl, x12⟩
          replace e0_0 := x12.cell e0_0
          replace e0_1 := x12.cell e0_1
          replace e1_0 := x12.cell e1_0
          replace e1_1 := x12.cell e1_1
          replace x_0 := x12.cell x_0
          replace x_1 := x12.cell x_1
          replace y_0 := x12.cell y_0
          replace y_1 := x12.cell y_1
          replace qb_0 := x12.cell qb_0
          replace qb_1 := x12.cell qb_1
          replace qb_2 := x12.cell qb_2
          replace one_0 := x12.cell one_0
          replace one_1 := x12.cell one_1
          replace one_2 := x12.cell one_2
          replace one_3 := x12.cell one_3
          go_wp2_with fail
          go_ret
          exact ⟨rfl, (by repeat' (first | with_reducible exact Ext.refl _ | with_reducible assumption | with_reducible apply Ext.alloc_r | with_reducible apply Ext.drew_r | with_reducible apply Ext.drewN_r | with_reducible refine Ext.trans ?_ ‹Ext _ _›))⟩
      · have hg0 : (gy == 0) = false := by rw [hgy, beq_eq_false_iff_ne]; exact fun h5 => h0 (Int.sign_eq_zero_iff_zero.1 h5)
        clear hgy
        have hB := mk_sign_bl h0 v1
        have H0 := Lib.hid h0
        have HM : Hid (∀ w', Ext w w' → Calls Try.prog 19 #[.agg #[.bool s1, .slice A1 L1 c1], .agg #[.bool s2, .slice A2 L2 c2]] w' (RetRE w' 6 (mkRat (z1 * z2.sign) z2.natAbs))) := fun w' hx => rmake_r (h1.ext hx) (h2.ext hx) h0 b1 b2 (by omega)
        have HK5 : Hid (∀ w' g1 A1 c1 L1 g2 A2 c2 L2, RZ w' g1 A1 c1 L1 z1 → RZ w' g2 A2 c2 L2 z2 → Calls Try.prog 24 #[.agg #[.int .i64 g1, .slice A1 L1 c1], .agg #[.int .i64 g2, .slice A2 L2 c2]] w' (RetQ w' 192 (mkRat (z1 * z2.sign) z2.natAbs))) := fun w' g1 A1 c1 L1 g2 A2 c2 L2 hu hv => qmake_r hu hv h0 v1 v2
        generalize mkRat (z1 * z2.sign) z2.natAbs = T at *
        have hT1 : bl (floorQ T).natAbs ≤ 192 := floor_bl hB
        have hT2 : bl (-floorQ (-T)).natAbs ≤ 192 := by rw [Int.natAbs_neg]; exact floor_bl (by rw [Rat.neg_num, Int.natAbs_neg]; exact hB)
        have hT3 : bl (floorQ (-T)).natAbs ≤ 192 := by rw [Int.natAbs_neg] at hT2; exact hT2
        clear h0
        go_wp2_with fail
        refine (HM.out _ (by repeat' (first | with_reducible exact Ext.refl _ | with_reducible assumption | with_reducible apply Ext.alloc_r | with_reducible apply Ext.drew_r | with_reducible apply Ext.drewN_r | with_reducible refine Ext.trans ?_ ‹Ext _ _›))).mono ?_
        rintro e w6 ⟨sz, Az, cz, Lz, Bz, dz, Mz, rfl, z, x6⟩
        replace e0_0 := x6.cell e0_0
        replace e0_1 := x6.cell e0_1
        replace e1_0 := x6.cell e1_0
        replace e1_1 := x6.cell e1_1
        replace x_0 := x6.cell x_0
        replace x_1 := x6.cell x_1
        replace y_0 := x6.cell y_0
        replace y_1 := x6.cell y_1
        have te0_0 := fun o => (Ext.alloc w6 o).cell e0_0
        have te0_1 := fun o => (Ext.alloc w6 o).cell e0_1
        have te1_0 := fun o => (Ext.alloc w6 o).cell e1_0
        have te1_1 := fun o => (Ext.alloc w6 o).cell e1_1
        have tx_0 := fun o => (Ext.alloc w6 o).cell x_0
        have tx_1 := fun o => (Ext.alloc w6 o).cell x_1
        have ty_0 := fun o => (Ext.alloc w6 o).cell y_0
        have ty_1 := fun o => (Ext.alloc w6 o).cell y_1
        go_wp2_with fail
        clear te0_0 te0_1 te1_0 te1_1 tx_0 tx_1 ty_0 ty_1
        obtain ⟨w7, hw⟩ : ∃ z : World, z = (w6.alloc (.cells #[.bool sz, .slice Az Lz cz, .slice Bz Mz dz] 27)) := ⟨_, rfl⟩
        rw [← hw]
        have x7 : Ext w6 w7 := by rw [hw]; exact Ext.alloc _ _
        have bb := box_at w6 #[.bool sz, .slice Az Lz cz, .slice Bz Mz dz] 27
        rw [← hw] at bb
        replace e0_0 := x7.cell e0_0
        replace e0_1 := x7.cell e0_1
        replace e1_0 := x7.cell e1_0
        replace e1_1 := x7.cell e1_1
        replace x_0 := x7.cell x_0
        replace x_1 := x7.cell x_1
        replace y_0 := x7.cell y_0
        replace y_1 := x7.cell y_1
        have z_0 := bb.1 0 (.bool sz) rfl
        have z_1 := bb.1 1 (.slice Az Lz cz) rfl
        have z_2 := bb.1 2 (.slice Bz Mz dz) rfl
        clear hw bb
        go_wp2_with fail
        go_cut [9] (fun s9 wx => PutQ w7 wx 192 (z1 : Rat) s9)
        case first =>
          have HK : Hid (∀ w', Ext w7 w' → Ext w7 w' ∧ w'.cell? ⟨w.heap.size, 0, none⟩ = some (.bool s1) ∧ w'.cell? ⟨w.heap.size, 1, none⟩ = some (.slice A1 L1 c1) ∧ w'.cell? ⟨w.heap.size + 1, 0, none⟩ = some (.bool s2) ∧ w'.cell? ⟨w.heap.size + 1, 1, none⟩ = some (.slice A2 L2 c2) ∧ w'.cell? ⟨bkx, 0, none⟩ = some (.int .i64 gx) ∧ w'.cell? ⟨bkx, 1, none⟩ = some (.slice Ax Lx cx) ∧ w'.cell? ⟨bky, 0, none⟩ = some (.int .i64 gy) ∧ w'.cell? ⟨bky, 1, none⟩ = some (.slice Ay Ly cy) ∧ w'.cell? ⟨w6.heap.size, 0, none⟩ = some (.bool sz) ∧ w'.cell? ⟨w6.heap.size, 1, none⟩ = some (.slice Az Lz cz) ∧ w'.cell? ⟨w6.heap.size, 2, none⟩ = some (.slice Bz Mz dz)) := fun w' hk => ⟨hk, hk.cell e0_0, hk.cell e0_1, hk.cell e1_0, hk.cell e1_1, hk.cell x_0, hk.cell x_1, hk.cell y_0, hk.cell y_1, hk.cell z_0, hk.cell z_1, hk.cell z_2⟩
          first
          | go_region_held3 (fun w' => Ext w7 w' ∧ w'.cell? ⟨w.heap.size, 0, none⟩ = some (.bool s1) ∧ w'.cell? ⟨w.heap.size, 1, none⟩ = some (.slice A1 L1 c1) ∧ w'.cell? ⟨w.heap.size + 1, 0, none⟩ = some (.bool s2) ∧ w'.cell? ⟨w.heap.size + 1, 1, none⟩ = some (.slice A2 L2 c2) ∧ w'.cell? ⟨bkx, 0, none⟩ = some (.int .i64 gx) ∧ w'.cell? ⟨bkx, 1, none⟩ = some (.slice Ax Lx cx) ∧ w'.cell? ⟨bky, 0, none⟩ = some (.int .i64 gy) ∧ w'.cell? ⟨bky, 1, none⟩ = some (.slice Ay Ly cy) ∧ w'.cell? ⟨w6.heap.size, 0, none⟩ = some (.bool sz) ∧ w'.cell? ⟨w6.heap.size, 1, none⟩ = some (.slice Az Lz cz) ∧ w'.cell? ⟨w6.heap.size, 2, none⟩ = some (.slice Bz Mz dz))
              ((with_reducible refine HK.out _ ?_; (repeat' (first | with_reducible exact Ext.refl _ | with_reducible assumption | with_reducible apply Ext.alloc_r | with_reducible apply Ext.drew_r | with_reducible apply Ext.drewN_r | with_reducible apply Ext.set_r | with_reducible exact Nat.le_refl _ | omega | with_reducible refine Ext.trans ?_ ‹Ext _ _›))))
              (first
                | (go_at_call 20; refine (small_rz (n := 1) (by omega)).mono ?_; rintro e w8 ⟨go, Ao, co, Lo, rfl, o, x8⟩; (have zs8 := x8.size); (try simp only [World.size_alloc, World.size_drew] at zs8); (try ((with_reducible have h8_0 := box_ext (vs := #[.int .i64 0, .slice none 0 0, .int .i64 0, .slice none 0 0]) ((Ext.drew _).trans x8)); have h8_0c0 := (h8_0.1 0 (.int .i64 0) rfl).1; have h8_0f0 := (h8_0.1 0 (.int .i64 0) rfl).2; have h8_0c1 := (h8_0.1 1 (.slice none 0 0) rfl).1; have h8_0f1 := (h8_0.1 1 (.slice none 0 0) rfl).2; have h8_0c2 := (h8_0.1 2 (.int .i64 0) rfl).1; have h8_0f2 := (h8_0.1 2 (.int .i64 0) rfl).2; have h8_0c3 := (h8_0.1 3 (.slice none 0 0) rfl).1; have h8_0f3 := (h8_0.1 3 (.slice none 0 0) rfl).2; have h8_0b := h8_0.2.1; have h8_0z := h8_0.2.2; (try simp only [World.size_alloc] at h8_0b h8_0z h8_0c0 h8_0f0 h8_0c1 h8_0f1 h8_0c2 h8_0f2 h8_0c3 h8_0f3); have h8_0m := Nat.ne_of_lt h8_0z; have h8_0n := Nat.ne_of_gt h8_0z; clear h8_0))))
          | fail
          all_goals (clear HK; go_wp2_with fail; go_meet)
          all_goals
            refine PutQ.mk (g := gx) (A := Ax) (c := cx) (L := Lx) (h := go) (B := Ao) (d := co) (M := Lo) ?_ ((qr_int (x.ext (by repeat' (first | with_reducible exact Ext.refl _ | with_reducible assumption | with_reducible apply Ext.alloc_r | with_reducible apply Ext.drew_r | with_reducible apply Ext.drewN_r | with_reducible refine Ext.trans ?_ ‹Ext _ _›))) o v1 (by omega)).kept ?_) ?_
            · refine Bx.mk4 ?_ ?_ ?_ ?_
              · go_simp
              · go_simp
              · go_simp
              · go_simp
            · (repeat' (first | with_reducible exact Kept.refl _ | with_reducible apply Kept.alloc_r | with_reducible apply Kept.drew_r | (with_reducible apply Kept.setQ; (case hb => ((repeat' (first | with_reducible assumption | with_reducible apply IsBox.set_ | (with_reducible apply IsBox.new; (first | (with_reducible rfl) | simp); done) | with_reducible apply IsBox.alloc_ | with_reducible apply IsBox.drew_ | with_reducible refine IsBox.ext ?_ ‹Ext _ _›)); done))) | (with_reducible apply Kept.setR; (case hb => ((repeat' (first | with_reducible assumption | with_reducible apply IsBox.set_ | (with_reducible apply IsBox.new; (first | (with_reducible rfl) | simp); done) | with_reducible apply IsBox.alloc_ | with_reducible apply IsBox.drew_ | with_reducible refine IsBox.ext ?_ ‹Ext _ _›)); done))) | (with_reducible apply Kept.setZ; (case hb => ((repeat' (first | with_reducible assumption | with_reducible apply IsBox.set_ | (with_reducible apply IsBox.new; (first | (with_reducible rfl) | simp); done) | with_reducible apply IsBox.alloc_ | with_reducible apply IsBox.drew_ | with_reducible refine IsBox.ext ?_ ‹Ext _ _›)); done))) | (with_reducible apply Kept.setI; (case hb => ((repeat' (first | with_reducible assumption | with_reducible apply IsBox.set_ | (with_reducible apply IsBox.new; (first | (with_reducible rfl) | simp); done) | with_reducible apply IsBox.alloc_ | with_reducible apply IsBox.drew_ | with_reducible refine IsBox.ext ?_ ‹Ext _ _›)); done))) | with_reducible refine Kept.trans ?_ (Ext.kept ‹Ext _ _›)))
            · (repeat' (first | with_reducible exact Ext.refl _ | with_reducible assumption | with_reducible apply Ext.alloc_r | with_reducible apply Ext.drew_r | with_reducible apply Ext.drewN_r | with_reducible apply Ext.set_r | with_reducible exact Nat.le_refl _ | omega | with_reducible refine Ext.trans ?_ ‹Ext _ _›))
        case rest =>
          have hcw := hcut
          have hc_0 := hcw
          obtain ⟨gone, Aone, cone, Lone, hone, Bone, done, Mone, ⟨bkone, rfl, ccone⟩, one, xxone⟩ := hc_0
          have x9 := xxone
          clear xxone
          obtain ⟨wc9, rfl⟩ : ∃ z : World, z = wc := ⟨_, rfl⟩
          replace e0_0 := x9.cell e0_0
          replace e0_1 := x9.cell e0_1
          replace e1_0 := x9.cell e1_0
          replace e1_1 := x9.cell e1_1
          replace x_0 := x9.cell x_0
          replace x_1 := x9.cell x_1
          replace y_0 := x9.cell y_0
          replace y_1 := x9.cell y_1
          replace z_0 := x9.cell z_0
          replace z_1 := x9.cell z_1
          replace z_2 := x9.cell z_2
          have one_0 := ccone 0 (.int .i64 gone) rfl
          have one_1 := ccone 1 (.slice Aone Lone cone) rfl
          have one_2 := ccone 2 (.int .i64 hone) rfl
          have one_3 := ccone 3 (.slice Bone Mone done) rfl
          clear ccone
          go_wp2_with fail
          have HK : Hid (∀ w', Ext wc9 w' → Ext wc9 w' ∧ w'.cell? ⟨w.heap.size, 0, none⟩ = some (.bool s1) ∧ w'.cell? ⟨w.heap.size, 1, none⟩ = some (.slice A1 L1 c1) ∧ w'.cell? ⟨w.heap.size + 1, 0, none⟩ = some (.bool s2) ∧ w'.cell? ⟨w.heap.size + 1, 1, none⟩ = some (.slice A2 L2 c2) ∧ w'.cell? ⟨bkx, 0, none⟩ = some (.int .i64 gx) ∧ w'.cell? ⟨bkx, 1, none⟩ = some (.slice Ax Lx cx) ∧ w'.cell? ⟨bky, 0, none⟩ = some (.int .i64 gy) ∧ w'.cell? ⟨bky, 1, none⟩ = some (.slice Ay Ly cy) ∧ w'.cell? ⟨w6.heap.size, 0, none⟩ = some (.bool sz) ∧ w'.cell? ⟨w6.heap.size, 1, none⟩ = some (.slice Az Lz cz) ∧ w'.cell? ⟨w6.heap.size, 2, none⟩ = some (.slice Bz Mz dz) ∧ w'.cell? ⟨bkone, 0, none⟩ = some (.int .i64 gone) ∧ w'.cell? ⟨bkone, 1, none⟩ = some (.slice Aone Lone cone) ∧ w'.cell? ⟨bkone, 2, none⟩ = some (.int .i64 hone) ∧ w'.cell? ⟨bkone, 3, none⟩ = some (.slice Bone Mone done)) := fun w' hk => ⟨hk, hk.cell e0_0, hk.cell e0_1, hk.cell e1_0, hk.cell e1_1, hk.cell x_0, hk.cell x_1, hk.cell y_0, hk.cell y_1, hk.cell z_0, hk.cell z_1, hk.cell z_2, hk.cell one_0, hk.cell one_1, hk.cell one_2, hk.cell one_3⟩
          first
          | go_region_held3 (fun w' => Ext wc9 w' ∧ w'.cell? ⟨w.heap.size, 0, none⟩ = some (.bool s1) ∧ w'.cell? ⟨w.heap.size, 1, none⟩ = some (.slice A1 L1 c1) ∧ w'.cell? ⟨w.heap.size + 1, 0, none⟩ = some (.bool s2) ∧ w'.cell? ⟨w.heap.size + 1, 1, none⟩ = some (.slice A2 L2 c2) ∧ w'.cell? ⟨bkx, 0, none⟩ = some (.int .i64 gx) ∧ w'.cell? ⟨bkx, 1, none⟩ = some (.slice Ax Lx cx) ∧ w'.cell? ⟨bky, 0, none⟩ = some (.int .i64 gy) ∧ w'.cell? ⟨bky, 1, none⟩ = some (.slice Ay Ly cy) ∧ w'.cell? ⟨w6.heap.size, 0, none⟩ = some (.bool sz) ∧ w'.cell? ⟨w6.heap.size, 1, none⟩ = some (.slice Az Lz cz) ∧ w'.cell? ⟨w6.heap.size, 2, none⟩ = some (.slice Bz Mz dz) ∧ w'.cell? ⟨bkone, 0, none⟩ = some (.int .i64 gone) ∧ w'.cell? ⟨bkone, 1, none⟩ = some (.slice Aone Lone cone) ∧ w'.cell? ⟨bkone, 2, none⟩ = some (.int .i64 hone) ∧ w'.cell? ⟨bkone, 3, none⟩ = some (.slice Bone Mone done))
              ((with_reducible refine HK.out _ ?_; (repeat' (first | with_reducible exact Ext.refl _ | with_reducible assumption | with_reducible apply Ext.alloc_r | with_reducible apply Ext.drew_r | with_reducible apply Ext.drewN_r | with_reducible refine Ext.trans ?_ ‹Ext _ _›))))
              (first
                | (go_at_call_of 21 (#[Value.agg #[Value.bool sfr, Value.slice Afr Lfr cfr, Value.slice Bfr Mfr dfr], Value.agg #[Value.int IntKind.i64 gone, Value.slice Aone Lone cone, Value.int IntKind.i64 hone, Value.slice Bone Mone done]]); have hgd := fr; clear hgd; refine (lis5 (fr.ext (by repeat' (first | with_reducible exact Ext.refl _ | with_reducible assumption | with_reducible apply Ext.alloc_r | with_reducible apply Ext.drew_r | with_reducible apply Ext.drewN_r | with_reducible refine Ext.trans ?_ ‹Ext _ _›))) (one.ext (by repeat' (first | with_reducible exact Ext.refl _ | with_reducible assumption | with_reducible apply Ext.alloc_r | with_reducible apply Ext.drew_r | with_reducible apply Ext.drewN_r | with_reducible refine Ext.trans ?_ ‹Ext _ _›))) (rfl) (by omega)).mono ?_; rintro e w11 ⟨rfl, x11⟩)
                | (go_at_call 22; refine (rfrom_r (N := 6) (h1.ext (by repeat' (first | with_reducible exact Ext.refl _ | with_reducible assumption | with_reducible apply Ext.alloc_r | with_reducible apply Ext.drew_r | with_reducible apply Ext.drewN_r | with_reducible refine Ext.trans ?_ ‹Ext _ _›))) b1 (by omega) (by omega)).mono ?_; rintro e w10 ⟨sfr, Afr, cfr, Lfr, Bfr, dfr, Mfr, rfl, fr, x10⟩))
          | fail
          clear HK
          have xh : Ext wc9 w11 := (by repeat' (first | with_reducible exact Ext.refl _ | with_reducible assumption | with_reducible apply Ext.alloc_r | with_reducible apply Ext.drew_r | with_reducible apply Ext.drewN_r | with_reducible refine Ext.trans ?_ ‹Ext _ _›))
          replace e0_0 := xh.cell e0_0
          replace e0_1 := xh.cell e0_1
          replace e1_0 := xh.cell e1_0
          replace e1_1 := xh.cell e1_1
          replace x_0 := xh.cell x_0
          replace x_1 := xh.cell x_1
          replace y_0 := xh.cell y_0
          replace y_1 := xh.cell y_1
          replace z_0 := xh.cell z_0
          replace z_1 := xh.cell z_1
          replace z_2 := xh.cell z_2
          replace one_0 := xh.cell one_0
          replace one_1 := xh.cell one_1
          replace one_2 := xh.cell one_2
          replace one_3 := xh.cell one_3
          clear xh
          go_wp2_with fail
          refine (HK5.out _ _ _ _ _ _ _ _ _ (x.ext (by repeat' (first | with_reducible exact Ext.refl _ | with_reducible assumption | with_reducible apply Ext.alloc_r | with_reducible apply Ext.drew_r | with_reducible apply Ext.drewN_r | with_reducible refine Ext.trans ?_ ‹Ext _ _›))) (y.ext (by repeat' (first | with_reducible exact Ext.refl _ | with_reducible assumption | with_reducible apply Ext.alloc_r | with_reducible apply Ext.drew_r | with_reducible apply Ext.drewN_r | with_reducible refine Ext.trans ?_ ‹Ext _ _›)))).mono ?_
          rintro e w12 ⟨gq, Aq, cq, Lq, hq, Bq, dq, Mq, rfl, q, x12⟩
          replace e0_0 := x12.cell e0_0
          replace e0_1 := x12.cell e0_1
          replace e1_0 := x12.cell e1_0
          replace e1_1 := x12.cell e1_1
          replace x_0 := x12.cell x_0
          replace x_1 := x12.cell x_1
          replace y_0 := x12.cell y_0
          replace y_1 := x12.cell y_1
          replace z_0 := x12.cell z_0
          replace z_1 := x12.cell z_1
          replace z_2 := x12.cell z_2
          replace one_0 := x12.cell one_0
          replace one_1 := x12.cell one_1
          replace one_2 := x12.cell one_2
          replace one_3 := x12.cell one_3
          have te0_0 := fun o => (Ext.alloc w12 o).cell e0_0
          have te0_1 := fun o => (Ext.alloc w12 o).cell e0_1
          have te1_0 := fun o => (Ext.alloc w12 o).cell e1_0
          have te1_1 := fun o => (Ext.alloc w12 o).cell e1_1
          have tx_0 := fun o => (Ext.alloc w12 o).cell x_0
          have tx_1 := fun o => (Ext.alloc w12 o).cell x_1
          have ty_0 := fun o => (Ext.alloc w12 o).cell y_0
          have ty_1 := fun o => (Ext.alloc w12 o).cell y_1
          have tz_0 := fun o => (Ext.alloc w12 o).cell z_0
          have tz_1 := fun o => (Ext.alloc w12 o).cell z_1
          have tz_2 := fun o => (Ext.alloc w12 o).cell z_2
          have tone_0 := fun o => (Ext.alloc w12 o).cell one_0
          have tone_1 := fun o => (Ext.alloc w12 o).cell one_1
          have tone_2 := fun o => (Ext.alloc w12 o).cell one_2
          have tone_3 := fun o => (Ext.alloc w12 o).cell one_3
          go_wp2_with fail
          clear te0_0 te0_1 te1_0 te1_1 tx_0 tx_1 ty_0 ty_1 tz_0 tz_1 tz_2 tone_0 tone_1 tone_2 tone_3
          obtain ⟨w13, hw⟩ : ∃ z : World, z = (w12.alloc (.cells #[.int .i64 gq, .slice Aq Lq cq, .int .i64 hq, .slice Bq Mq dq] 38)) := ⟨_, rfl⟩
          rw [← hw]
          have x13 : Ext w12 w13 := by rw [hw]; exact Ext.alloc _ _
          have bb := box_at w12 #[.int .i64 gq, .slice Aq Lq cq, .int .i64 hq, .slice Bq Mq dq] 38
          rw [← hw] at bb
          replace e0_0 := x13.cell e0_0
          replace e0_1 := x13.cell e0_1
          replace e1_0 := x13.cell e1_0
          replace e1_1 := x13.cell e1_1
          replace x_0 := x13.cell x_0
          replace x_1 := x13.cell x_1
          replace y_0 := x13.cell y_0
          replace y_1 := x13.cell y_1
          replace z_0 := x13.cell z_0
          replace z_1 := x13.cell z_1
          replace z_2 := x13.cell z_2
          replace one_0 := x13.cell one_0
          replace one_1 := x13.cell one_1
          replace one_2 := x13.cell one_2
          replace one_3 := x13.cell one_3
          have q_0 := bb.1 0 (.int .i64 gq) rfl
          have q_1 := bb.1 1 (.slice Aq Lq cq) rfl
          have q_2 := bb.1 2 (.int .i64 hq) rfl
          have q_3 := bb.1 3 (.slice Bq Mq dq) rfl
          clear hw bb
          go_wp2_with fail
          go_cut [11, 12] (fun s11 s12 wx => PutZ w13 wx (floorQ T) s11 ∧ PutZ w13 wx (-floorQ (-T)) s12)
          case first =>
            have HK : Hid (∀ w', Ext w13 w' → Ext w13 w' ∧ w'.cell? ⟨w.heap.size, 0, none⟩ = some (.bool s1) ∧ w'.cell? ⟨w.heap.size, 1, none⟩ = some (.slice A1 L1 c1) ∧ w'.cell? ⟨w.heap.size + 1, 0, none⟩ = some (.bool s2) ∧ w'.cell? ⟨w.heap.size + 1, 1, none⟩ = some (.slice A2 L2 c2) ∧ w'.cell? ⟨bkx, 0, none⟩ = some (.int .i64 gx) ∧ w'.cell? ⟨bkx, 1, none⟩ = some (.slice Ax Lx cx) ∧ w'.cell? ⟨bky, 0, none⟩ = some (.int .i64 gy) ∧ w'.cell? ⟨bky, 1, none⟩ = some (.slice Ay Ly cy) ∧ w'.cell? ⟨w6.heap.size, 0, none⟩ = some (.bool sz) ∧ w'.cell? ⟨w6.heap.size, 1, none⟩ = some (.slice Az Lz cz) ∧ w'.cell? ⟨w6.heap.size, 2, none⟩ = some (.slice Bz Mz dz) ∧ w'.cell? ⟨bkone, 0, none⟩ = some (.int .i64 gone) ∧ w'.cell? ⟨bkone, 1, none⟩ = some (.slice Aone Lone cone) ∧ w'.cell? ⟨bkone, 2, none⟩ = some (.int .i64 hone) ∧ w'.cell? ⟨bkone, 3, none⟩ = some (.slice Bone Mone done) ∧ w'.cell? ⟨w12.heap.size, 0, none⟩ = some (.int .i64 gq) ∧ w'.cell? ⟨w12.heap.size, 1, none⟩ = some (.slice Aq Lq cq) ∧ w'.cell? ⟨w12.heap.size, 2, none⟩ = some (.int .i64 hq) ∧ w'.cell? ⟨w12.heap.size, 3, none⟩ = some (.slice Bq Mq dq)) := fun w' hk => ⟨hk, hk.cell e0_0, hk.cell e0_1, hk.cell e1_0, hk.cell e1_1, hk.cell x_0, hk.cell x_1, hk.cell y_0, hk.cell y_1, hk.cell z_0, hk.cell z_1, hk.cell z_2, hk.cell one_0, hk.cell one_1, hk.cell one_2, hk.cell one_3, hk.cell q_0, hk.cell q_1, hk.cell q_2, hk.cell q_3⟩
            first
            | go_region_held3 (fun w' => Ext w13 w' ∧ w'.cell? ⟨w.heap.size, 0, none⟩ = some (.bool s1) ∧ w'.cell? ⟨w.heap.size, 1, none⟩ = some (.slice A1 L1 c1) ∧ w'.cell? ⟨w.heap.size + 1, 0, none⟩ = some (.bool s2) ∧ w'.cell? ⟨w.heap.size + 1, 1, none⟩ = some (.slice A2 L2 c2) ∧ w'.cell? ⟨bkx, 0, none⟩ = some (.int .i64 gx) ∧ w'.cell? ⟨bkx, 1, none⟩ = some (.slice Ax Lx cx) ∧ w'.cell? ⟨bky, 0, none⟩ = some (.int .i64 gy) ∧ w'.cell? ⟨bky, 1, none⟩ = some (.slice Ay Ly cy) ∧ w'.cell? ⟨w6.heap.size, 0, none⟩ = some (.bool sz) ∧ w'.cell? ⟨w6.heap.size, 1, none⟩ = some (.slice Az Lz cz) ∧ w'.cell? ⟨w6.heap.size, 2, none⟩ = some (.slice Bz Mz dz) ∧ w'.cell? ⟨bkone, 0, none⟩ = some (.int .i64 gone) ∧ w'.cell? ⟨bkone, 1, none⟩ = some (.slice Aone Lone cone) ∧ w'.cell? ⟨bkone, 2, none⟩ = some (.int .i64 hone) ∧ w'.cell? ⟨bkone, 3, none⟩ = some (.slice Bone Mone done) ∧ w'.cell? ⟨w12.heap.size, 0, none⟩ = some (.int .i64 gq) ∧ w'.cell? ⟨w12.heap.size, 1, none⟩ = some (.slice Aq Lq cq) ∧ w'.cell? ⟨w12.heap.size, 2, none⟩ = some (.int .i64 hq) ∧ w'.cell? ⟨w12.heap.size, 3, none⟩ = some (.slice Bq Mq dq))
                ((with_reducible refine HK.out _ ?_; (repeat' (first | with_reducible exact Ext.refl _ | with_reducible assumption | with_reducible apply Ext.alloc_r | with_reducible apply Ext.drew_r | with_reducible apply Ext.drewN_r | with_reducible apply Ext.set_r | with_reducible exact Nat.le_refl _ | omega | with_reducible refine Ext.trans ?_ ‹Ext _ _›))))
                (first
                  | (go_at_call 26; have hgd := ff; clear hgd; refine (rceil_r (z.rv.ext (by repeat' (first | with_reducible exact Ext.refl _ | with_reducible assumption | with_reducible apply Ext.alloc_r | with_reducible apply Ext.drew_r | with_reducible apply Ext.drewN_r | with_reducible refine Ext.trans ?_ ‹Ext _ _›))) (by omega)).mono ?_; rintro e w15 ⟨scc, Acc, ccc, Lcc, rfl, cc, x15⟩; (have zs15 := x15.size); (try simp only [World.size_alloc] at zs15); (try ((with_reducible have h15_0 := box_ext (vs := #[.bool false, .slice none 0 0]) x15); have h15_0c0 := (h15_0.1 0 (.bool false) rfl).1; have h15_0f0 := (h15_0.1 0 (.bool false) rfl).2; have h15_0c1 := (h15_0.1 1 (.slice none 0 0) rfl).1; have h15_0f1 := (h15_0.1 1 (.slice none 0 0) rfl).2; have h15_0b := h15_0.2.1; have h15_0z := h15_0.2.2; (try simp only [World.size_alloc] at h15_0b h15_0z h15_0c0 h15_0f0 h15_0c1 h15_0f1); have h15_0m := Nat.ne_of_lt h15_0z; have h15_0n := Nat.ne_of_gt h15_0z; clear h15_0)); (try ((with_reducible have h15_1 := box_ext (vs := #[.bool false, .slice none 0 0]) ((Ext.alloc _ _).trans x15)); have h15_1c0 := (h15_1.1 0 (.bool false) rfl).1; have h15_1f0 := (h15_1.1 0 (.bool false) rfl).2; have h15_1c1 := (h15_1.1 1 (.slice none 0 0) rfl).1; have h15_1f1 := (h15_1.1 1 (.slice none 0 0) rfl).2; have h15_1b := h15_1.2.1; have h15_1z := h15_1.2.2; (try simp only [World.size_alloc] at h15_1b h15_1z h15_1c0 h15_1f0 h15_1c1 h15_1f1); have h15_1m := Nat.ne_of_lt h15_1z; have h15_1n := Nat.ne_of_gt h15_1z; clear h15_1)); (try (have hh : Ext w14 w15 := ?g1500; (case g1500 => ((repeat' (first | with_reducible exact Ext.refl _ | with_reducible assumption | with_reducible apply Ext.alloc_r | with_reducible apply Ext.drew_r | with_reducible apply Ext.drewN_r | with_reducible refine Ext.trans ?_ ‹Ext _ _›)); done)); replace h14_0f0 := hh.frozen h14_0c0 h14_0f0; replace h14_0c0 := hh.cell h14_0c0; replace h14_0f1 := hh.frozen h14_0c1 h14_0f1; replace h14_0c1 := hh.cell h14_0c1; replace h14_0b := h14_0b.ext hh; have h14_0z2 := Nat.lt_of_lt_of_le h14_0z hh.size; have h14_0m2 := Nat.ne_of_lt h14_0z2; have h14_0n2 := Nat.ne_of_gt h14_0z2; clear hh)); (try (have hh : Ext w14 w15 := ?g1501; (case g1501 => ((repeat' (first | with_reducible exact Ext.refl _ | with_reducible assumption | with_reducible apply Ext.alloc_r | with_reducible apply Ext.drew_r | with_reducible apply Ext.drewN_r | with_reducible refine Ext.trans ?_ ‹Ext _ _›)); done)); replace h14_1f0 := hh.frozen h14_1c0 h14_1f0; replace h14_1c0 := hh.cell h14_1c0; replace h14_1f1 := hh.frozen h14_1c1 h14_1f1; replace h14_1c1 := hh.cell h14_1c1; replace h14_1b := h14_1b.ext hh; have h14_1z2 := Nat.lt_of_lt_of_le h14_1z hh.size; have h14_1m2 := Nat.ne_of_lt h14_1z2; have h14_1n2 := Nat.ne_of_gt h14_1z2; clear hh)))
                  | (go_at_call 25; refine (rfloor_r (z.rv.ext (by repeat' (first | with_reducible exact Ext.refl _ | with_reducible assumption | with_reducible apply Ext.alloc_r | with_reducible apply Ext.drew_r | with_reducible apply Ext.drewN_r | with_reducible refine Ext.trans ?_ ‹Ext _ _›))) (by omega)).mono ?_; rintro e w14 ⟨sff, Aff, cff, Lff, rfl, ff, x14⟩; (have zs14 := x14.size); (try simp only [World.size_alloc, World.size_drew] at zs14); (try ((with_reducible have h14_0 := box_ext (vs := #[.bool false, .slice none 0 0]) ((Ext.drew _).trans x14)); have h14_0c0 := (h14_0.1 0 (.bool false) rfl).1; have h14_0f0 := (h14_0.1 0 (.bool false) rfl).2; have h14_0c1 := (h14_0.1 1 (.slice none 0 0) rfl).1; have h14_0f1 := (h14_0.1 1 (.slice none 0 0) rfl).2; have h14_0b := h14_0.2.1; have h14_0z := h14_0.2.2; (try simp only [World.size_alloc] at h14_0b h14_0z h14_0c0 h14_0f0 h14_0c1 h14_0f1); have h14_0m := Nat.ne_of_lt h14_0z; have h14_0n := Nat.ne_of_gt h14_0z; clear h14_0)); (try ((with_reducible have h14_1 := box_ext (vs := #[.bool false, .slice none 0 0]) (((Ext.alloc _ _).trans (Ext.drew _)).trans x14)); have h14_1c0 := (h14_1.1 0 (.bool false) rfl).1; have h14_1f0 := (h14_1.1 0 (.bool false) rfl).2; have h14_1c1 := (h14_1.1 1 (.slice none 0 0) rfl).1; have h14_1f1 := (h14_1.1 1 (.slice none 0 0) rfl).2; have h14_1b := h14_1.2.1; have h14_1z := h14_1.2.2; (try simp only [World.size_alloc] at h14_1b h14_1z h14_1c0 h14_1f0 h14_1c1 h14_1f1); have h14_1m := Nat.ne_of_lt h14_1z; have h14_1n := Nat.ne_of_gt h14_1z; clear h14_1))))
            | fail
            all_goals (clear HK; go_wp2_with fail; go_meet)
            all_goals
              refine ⟨?_, ?_⟩
              · refine PutZ.mk (sb := sff) (A := Aff) (c := cff) (L := Lff) ?_ ((ff.mono (Ext.size (by repeat' (first | with_reducible exact Ext.refl _ | with_reducible assumption | with_reducible apply Ext.alloc_r | with_reducible apply Ext.drew_r | with_reducible apply Ext.drewN_r | with_reducible refine Ext.trans ?_ ‹Ext _ _›)))).kept ?_) ?_
                · refine Bx.mk2 ?_ ?_
                  · go_simp
                  · go_simp
                · (repeat' (first | with_reducible exact Kept.refl _ | with_reducible apply Kept.alloc_r | with_reducible apply Kept.drew_r | (with_reducible apply Kept.setZ; (case hb => ((repeat' (first | with_reducible assumption | with_reducible apply IsBox.set_ | (with_reducible apply IsBox.new; (first | (with_reducible rfl) | simp); done) | with_reducible apply IsBox.alloc_ | with_reducible apply IsBox.drew_ | with_reducible refine IsBox.ext ?_ ‹Ext _ _›)); done))) | (with_reducible apply Kept.setI; (case hb => ((repeat' (first | with_reducible assumption | with_reducible apply IsBox.set_ | (with_reducible apply IsBox.new; (first | (with_reducible rfl) | simp); done) | with_reducible apply IsBox.alloc_ | with_reducible apply IsBox.drew_ | with_reducible refine IsBox.ext ?_ ‹Ext _ _›)); done))) | with_reducible refine Kept.trans ?_ (Ext.kept ‹Ext _ _›)))
                · (repeat' (first | with_reducible exact Ext.refl _ | with_reducible assumption | with_reducible apply Ext.alloc_r | with_reducible apply Ext.drew_r | with_reducible apply Ext.drewN_r | with_reducible apply Ext.set_r | with_reducible exact Nat.le_refl _ | omega | with_reducible refine Ext.trans ?_ ‹Ext _ _›))
              · refine PutZ.mk (sb := scc) (A := Acc) (c := ccc) (L := Lcc) ?_ ((cc.mono (Ext.size (by repeat' (first | with_reducible exact Ext.refl _ | with_reducible assumption | with_reducible apply Ext.alloc_r | with_reducible apply Ext.drew_r | with_reducible apply Ext.drewN_r | with_reducible refine Ext.trans ?_ ‹Ext _ _›)))).kept ?_) ?_
                · refine Bx.mk2 ?_ ?_
                  · go_simp
                  · go_simp
                · (repeat' (first | with_reducible exact Kept.refl _ | with_reducible apply Kept.alloc_r | with_reducible apply Kept.drew_r | (with_reducible apply Kept.setZ; (case hb => ((repeat' (first | with_reducible assumption | with_reducible apply IsBox.set_ | (with_reducible apply IsBox.new; (first | (with_reducible rfl) | simp); done) | with_reducible apply IsBox.alloc_ | with_reducible apply IsBox.drew_ | with_reducible refine IsBox.ext ?_ ‹Ext _ _›)); done))) | (with_reducible apply Kept.setI; (case hb => ((repeat' (first | with_reducible assumption | with_reducible apply IsBox.set_ | (with_reducible apply IsBox.new; (first | (with_reducible rfl) | simp); done) | with_reducible apply IsBox.alloc_ | with_reducible apply IsBox.drew_ | with_reducible refine IsBox.ext ?_ ‹Ext _ _›)); done))) | with_reducible refine Kept.trans ?_ (Ext.kept ‹Ext _ _›)))
                · (repeat' (first | with_reducible exact Ext.refl _ | with_reducible assumption | with_reducible apply Ext.alloc_r | with_reducible apply Ext.drew_r | with_reducible apply Ext.drewN_r | with_reducible apply Ext.set_r | with_reducible exact Nat.le_refl _ | omega | with_reducible refine Ext.trans ?_ ‹Ext _ _›))
          case rest =>
            have hcw := hcut
            obtain ⟨hc_0, hc_1⟩ := hcw
            obtain ⟨sf, Af, cf, Lf, ⟨bkf, rfl, ccf⟩, f, xxf⟩ := hc_0
            obtain ⟨sc, Ac, cc, Lc, ⟨bkc, rfl, ccc⟩, c, xxc⟩ := hc_1
            have x16 := xxf
            clear xxf
            clear xxc
            obtain ⟨wc16, rfl⟩ : ∃ z : World, z = wc := ⟨_, rfl⟩
            replace e0_0 := x16.cell e0_0
            replace e0_1 := x16.cell e0_1
            replace e1_0 := x16.cell e1_0
            replace e1_1 := x16.cell e1_1
            replace x_0 := x16.cell x_0
            replace x_1 := x16.cell x_1
            replace y_0 := x16.cell y_0
            replace y_1 := x16.cell y_1
            replace z_0 := x16.cell z_0
            replace z_1 := x16.cell z_1
            replace z_2 := x16.cell z_2
            replace one_0 := x16.cell one_0
            replace one_1 := x16.cell one_1
            replace one_2 := x16.cell one_2
            replace one_3 := x16.cell one_3
            replace q_0 := x16.cell q_0
            replace q_1 := x16.cell q_1
            replace q_2 := x16.cell q_2
            replace q_3 := x16.cell q_3
            have f_0 := ccf 0 (.bool sf) rfl
            have f_1 := ccf 1 (.slice Af Lf cf) rfl
            clear ccf
            have c_0 := ccc 0 (.bool sc) rfl
            have c_1 := ccc 1 (.slice Ac Lc cc) rfl
            clear ccc
            by_cases hd : T.den = 1
            · have HC : Hid (cmpZ (floorQ T) (-floorQ (-T)) = 0) := by show _ = _; rw [floor_neg, if_pos hd, floor_one hd]; exact cmpZ_eq _
              have HN : Hid (T.num = floorQ T) := (floor_one hd).symm
              have HD := Lib.hid hd
              clear hd
              go_wp2_with fail
              refine (rint_yes (z.rv.ext (by repeat' (first | with_reducible exact Ext.refl _ | with_reducible assumption | with_reducible apply Ext.alloc_r | with_reducible apply Ext.drew_r | with_reducible apply Ext.drewN_r | with_reducible refine Ext.trans ?_ ‹Ext _ _›))) HD.out (by omega)).mono ?_
              rintro e w17 ⟨sv, Av, cv, Lv, rfl, v, x17⟩
              replace e0_0 := x17.cell e0_0
              replace e0_1 := x17.cell e0_1
              replace e1_0 := x17.cell e1_0
              replace e1_1 := x17.cell e1_1
              replace x_0 := x17.cell x_0
              replace x_1 := x17.cell x_1
              replace y_0 := x17.cell y_0
              replace y_1 := x17.cell y_1
              replace z_0 := x17.cell z_0
              replace z_1 := x17.cell z_1
              replace z_2 := x17.cell z_2
              replace one_0 := x17.cell one_0
              replace one_1 := x17.cell one_1
              replace one_2 := x17.cell one_2
              replace one_3 := x17.cell one_3
              replace q_0 := x17.cell q_0
              replace q_1 := x17.cell q_1
              replace q_2 := x17.cell q_2
              replace q_3 := x17.cell q_3
              replace f_0 := x17.cell f_0
              replace f_1 := x17.cell f_1
              replace c_0 := x17.cell c_0
              replace c_1 := x17.cell c_1
              have te0_0 := fun o => (Ext.alloc w17 o).cell e0_0
              have te0_1 := fun o => (Ext.alloc w17 o).cell e0_1
              have te1_0 := fun o => (Ext.alloc w17 o).cell e1_0
              have te1_1 := fun o => (Ext.alloc w17 o).cell e1_1
              have tx_0 := fun o => (Ext.alloc w17 o).cell x_0
              have tx_1 := fun o => (Ext.alloc w17 o).cell x_1
              have ty_0 := fun o => (Ext.alloc w17 o).cell y_0
              have ty_1 := fun o => (Ext.alloc w17 o).cell y_1
              have tz_0 := fun o => (Ext.alloc w17 o).cell z_0
              have tz_1 := fun o => (Ext.alloc w17 o).cell z_1
              have tz_2 := fun o => (Ext.alloc w17 o).cell z_2
              have tone_0 := fun o => (Ext.alloc w17 o).cell one_0
              have tone_1 := fun o => (Ext.alloc w17 o).cell one_1
              have tone_2 := fun o => (Ext.alloc w17 o).cell one_2
              have tone_3 := fun o => (Ext.alloc w17 o).cell one_3
              have tq_0 := fun o => (Ext.alloc w17 o).cell q_0
              have tq_1 := fun o => (Ext.alloc w17 o).cell q_1
              have tq_2 := fun o => (Ext.alloc w17 o).cell q_2
              have tq_3 := fun o => (Ext.alloc w17 o).cell q_3
              have tf_0 := fun o => (Ext.alloc w17 o).cell f_0
              have tf_1 := fun o => (Ext.alloc w17 o).cell f_1
              have tc_0 := fun o => (Ext.alloc w17 o).cell c_0
              have tc_1 := fun o => (Ext.alloc w17 o).cell c_1
              go_wp2_with fail
              clear te0_0 te0_1 te1_0 te1_1 tx_0 tx_1 ty_0 ty_1 tz_0 tz_1 tz_2 tone_0 tone_1 tone_2 tone_3 tq_0 tq_1 tq_2 tq_3 tf_0 tf_1 tc_0 tc_1
              obtain ⟨w18, hw⟩ : ∃ z : World, z = (w17.alloc (.cells #[.bool sv, .slice Av Lv cv] 25)) := ⟨_, rfl⟩
              rw [← hw]
              have x18 : Ext w17 w18 := by rw [hw]; exact Ext.alloc _ _
              have bb := box_at w17 #[.bool sv, .slice Av Lv cv] 25
              rw [← hw] at bb
              replace e0_0 := x18.cell e0_0
              replace e0_1 := x18.cell e0_1
              replace e1_0 := x18.cell e1_0
              replace e1_1 := x18.cell e1_1
              replace x_0 := x18.cell x_0
              replace x_1 := x18.cell x_1
              replace y_0 := x18.cell y_0
              replace y_1 := x18.cell y_1
              replace z_0 := x18.cell z_0
              replace z_1 := x18.cell z_1
              replace z_2 := x18.cell z_2
              replace one_0 := x18.cell one_0
              replace one_1 := x18.cell one_1
              replace one_2 := x18.cell one_2
              replace one_3 := x18.cell one_3
              replace q_0 := x18.cell q_0
              replace q_1 := x18.cell q_1
              replace q_2 := x18.cell q_2
              replace q_3 := x18.cell q_3
              replace f_0 := x18.cell f_0
              replace f_1 := x18.cell f_1
              replace c_0 := x18.cell c_0
              replace c_1 := x18.cell c_1
              have v_0 := bb.1 0 (.bool sv) rfl
              have v_1 := bb.1 1 (.slice Av Lv cv) rfl
              clear hw bb
              go_wp2_with fail
              refine (qfloor_r (q.ext (by repeat' (first | with_reducible exact Ext.refl _ | with_reducible assumption | with_reducible apply Ext.alloc_r | with_reducible apply Ext.drew_r | with_reducible apply Ext.drewN_r | with_reducible refine Ext.trans ?_ ‹Ext _ _›))) (by omega)).mono ?_
              rintro e w19 ⟨glo, Alo, clo, Llo, rfl, lo, x19⟩
              replace e0_0 := x19.cell e0_0
              replace e0_1 := x19.cell e0_1
              replace e1_0 := x19.cell e1_0
              replace e1_1 := x19.cell e1_1
              replace x_0 := x19.cell x_0
              replace x_1 := x19.cell x_1
              replace y_0 := x19.cell y_0
              replace y_1 := x19.cell y_1
              replace z_0 := x19.cell z_0
              replace z_1 := x19.cell z_1
              replace z_2 := x19.cell z_2
              replace one_0 := x19.cell one_0
              replace one_1 := x19.cell one_1
              replace one_2 := x19.cell one_2
              replace one_3 := x19.cell one_3
              replace q_0 := x19.cell q_0
              replace q_1 := x19.cell q_1
              replace q_2 := x19.cell q_2
              replace q_3 := x19.cell q_3
              replace f_0 := x19.cell f_0
              replace f_1 := x19.cell f_1
              replace c_0 := x19.cell c_0
              replace c_1 := x19.cell c_1
              replace v_0 := x19.cell v_0
              replace v_1 := x19.cell v_1
              have te0_0 := fun o => (Ext.alloc w19 o).cell e0_0
              have te0_1 := fun o => (Ext.alloc w19 o).cell e0_1
              have te1_0 := fun o => (Ext.alloc w19 o).cell e1_0
              have te1_1 := fun o => (Ext.alloc w19 o).cell e1_1
              have tx_0 := fun o => (Ext.alloc w19 o).cell x_0
              have tx_1 := fun o => (Ext.alloc w19 o).cell x_1
              have ty_0 := fun o => (Ext.alloc w19 o).cell y_0
              have ty_1 := fun o => (Ext.alloc w19 o).cell y_1
              have tz_0 := fun o => (Ext.alloc w19 o).cell z_0
              have tz_1 := fun o => (Ext.alloc w19 o).cell z_1
              have tz_2 := fun o => (Ext.alloc w19 o).cell z_2
              have tone_0 := fun o => (Ext.alloc w19 o).cell one_0
              have tone_1 := fun o => (Ext.alloc w19 o).cell one_1
              have tone_2 := fun o => (Ext.alloc w19 o).cell one_2
              have tone_3 := fun o => (Ext.alloc w19 o).cell one_3
              have tq_0 := fun o => (Ext.alloc w19 o).cell q_0
              have tq_1 := fun o => (Ext.alloc w19 o).cell q_1
              have tq_2 := fun o => (Ext.alloc w19 o).cell q_2
              have tq_3 := fun o => (Ext.alloc w19 o).cell q_3
              have tf_0 := fun o => (Ext.alloc w19 o).cell f_0
              have tf_1 := fun o => (Ext.alloc w19 o).cell f_1
              have tc_0 := fun o => (Ext.alloc w19 o).cell c_0
              have tc_1 := fun o => (Ext.alloc w19 o).cell c_1
              have tv_0 := fun o => (Ext.alloc w19 o).cell v_0
              have tv_1 := fun o => (Ext.alloc w19 o).cell v_1
              go_wp2_with fail
              clear te0_0 te0_1 te1_0 te1_1 tx_0 tx_1 ty_0 ty_1 tz_0 tz_1 tz_2 tone_0 tone_1 tone_2 tone_3 tq_0 tq_1 tq_2 tq_3 tf_0 tf_1 tc_0 tc_1 tv_0 tv_1
              obtain ⟨w20, hw⟩ : ∃ z : World, z = (w19.alloc (.cells #[.int .i64 glo, .slice Alo Llo clo] 36)) := ⟨_, rfl⟩
              rw [← hw]
              have x20 : Ext w19 w20 := by rw [hw]; exact Ext.alloc _ _
              have bb := box_at w19 #[.int .i64 glo, .slice Alo Llo clo] 36
              rw [← hw] at bb
              replace e0_0 := x20.cell e0_0
              replace e0_1 := x20.cell e0_1
              replace e1_0 := x20.cell e1_0
              replace e1_1 := x20.cell e1_1
              replace x_0 := x20.cell x_0
              replace x_1 := x20.cell x_1
              replace y_0 := x20.cell y_0
              replace y_1 := x20.cell y_1
              replace z_0 := x20.cell z_0
              replace z_1 := x20.cell z_1
              replace z_2 := x20.cell z_2
              replace one_0 := x20.cell one_0
              replace one_1 := x20.cell one_1
              replace one_2 := x20.cell one_2
              replace one_3 := x20.cell one_3
              replace q_0 := x20.cell q_0
              replace q_1 := x20.cell q_1
              replace q_2 := x20.cell q_2
              replace q_3 := x20.cell q_3
              replace f_0 := x20.cell f_0
              replace f_1 := x20.cell f_1
              replace c_0 := x20.cell c_0
              replace c_1 := x20.cell c_1
              replace v_0 := x20.cell v_0
              replace v_1 := x20.cell v_1
              have lo_0 := bb.1 0 (.int .i64 glo) rfl
              have lo_1 := bb.1 1 (.slice Alo Llo clo) rfl
              clear hw bb
              go_wp2_with fail
              refine (qneg_r (q.ext (by repeat' (first | with_reducible exact Ext.refl _ | with_reducible assumption | with_reducible apply Ext.alloc_r | with_reducible apply Ext.drew_r | with_reducible apply Ext.drewN_r | with_reducible refine Ext.trans ?_ ‹Ext _ _›)))).mono ?_
              rintro e w21 ⟨gnq, Anq, cnq, Lnq, hnq, Bnq, dnq, Mnq, rfl, nq, x21⟩
              replace e0_0 := x21.cell e0_0
              replace e0_1 := x21.cell e0_1
              replace e1_0 := x21.cell e1_0
              replace e1_1 := x21.cell e1_1
              replace x_0 := x21.cell x_0
              replace x_1 := x21.cell x_1
              replace y_0 := x21.cell y_0
              replace y_1 := x21.cell y_1
              replace z_0 := x21.cell z_0
              replace z_1 := x21.cell z_1
              replace z_2 := x21.cell z_2
              replace one_0 := x21.cell one_0
              replace one_1 := x21.cell one_1
              replace one_2 := x21.cell one_2
              replace one_3 := x21.cell one_3
              replace q_0 := x21.cell q_0
              replace q_1 := x21.cell q_1
              replace q_2 := x21.cell q_2
              replace q_3 := x21.cell q_3
              replace f_0 := x21.cell f_0
              replace f_1 := x21.cell f_1
              replace c_0 := x21.cell c_0
              replace c_1 := x21.cell c_1
              replace v_0 := x21.cell v_0
              replace v_1 := x21.cell v_1
              replace lo_0 := x21.cell lo_0
              replace lo_1 := x21.cell lo_1
              go_wp2_with fail
              refine (qfloor_r (nq.ext (by repeat' (first | with_reducible exact Ext.refl _ | with_reducible assumption | with_reducible apply Ext.alloc_r | with_reducible apply Ext.drew_r | with_reducible apply Ext.drewN_r | with_reducible refine Ext.trans ?_ ‹Ext _ _›))) (by omega)).mono ?_
              rintro e w22 ⟨ghf, Ahf, chf, Lhf, rfl, hf, x22⟩
              replace e0_0 := x22.cell e0_0
              replace e0_1 := x22.cell e0_1
              replace e1_0 := x22.cell e1_0
              replace e1_1 := x22.cell e1_1
              replace x_0 := x22.cell x_0
              replace x_1 := x22.cell x_1
              replace y_0 := x22.cell y_0
              replace y_1 := x22.cell y_1
              replace z_0 := x22.cell z_0
              replace z_1 := x22.cell z_1
              replace z_2 := x22.cell z_2
              replace one_0 := x22.cell one_0
              replace one_1 := x22.cell one_1
              replace one_2 := x22.cell one_2
              replace one_3 := x22.cell one_3
              replace q_0 := x22.cell q_0
              replace q_1 := x22.cell q_1
              replace q_2 := x22.cell q_2
              replace q_3 := x22.cell q_3
              replace f_0 := x22.cell f_0
              replace f_1 := x22.cell f_1
              replace c_0 := x22.cell c_0
              replace c_1 := x22.cell c_1
              replace v_0 := x22.cell v_0
              replace v_1 := x22.cell v_1
              replace lo_0 := x22.cell lo_0
              replace lo_1 := x22.cell lo_1
              go_wp2_with fail
              refine (neg_rz (hf.ext (by repeat' (first | with_reducible exact Ext.refl _ | with_reducible assumption | with_reducible apply Ext.alloc_r | with_reducible apply Ext.drew_r | with_reducible apply Ext.drewN_r | with_reducible refine Ext.trans ?_ ‹Ext _ _›)))).mono ?_
              rintro e w23 ⟨ghi, Ahi, chi, Lhi, rfl, hi, x23⟩
              replace e0_0 := x23.cell e0_0
              replace e0_1 := x23.cell e0_1
              replace e1_0 := x23.cell e1_0
              replace e1_1 := x23.cell e1_1
              replace x_0 := x23.cell x_0
              replace x_1 := x23.cell x_1
              replace y_0 := x23.cell y_0
              replace y_1 := x23.cell y_1
              replace z_0 := x23.cell z_0
              replace z_1 := x23.cell z_1
              replace z_2 := x23.cell z_2
              replace one_0 := x23.cell one_0
              replace one_1 := x23.cell one_1
              replace one_2 := x23.cell one_2
              replace one_3 := x23.cell one_3
              replace q_0 := x23.cell q_0
              replace q_1 := x23.cell q_1
              replace q_2 := x23.cell q_2
              replace q_3 := x23.cell q_3
              replace f_0 := x23.cell f_0
              replace f_1 := x23.cell f_1
              replace c_0 := x23.cell c_0
              replace c_1 := x23.cell c_1
              replace v_0 := x23.cell v_0
              replace v_1 := x23.cell v_1
              replace lo_0 := x23.cell lo_0
              replace lo_1 := x23.cell lo_1
              have te0_0 := fun o => (Ext.alloc w23 o).cell e0_0
              have te0_1 := fun o => (Ext.alloc w23 o).cell e0_1
              have te1_0 := fun o => (Ext.alloc w23 o).cell e1_0
              have te1_1 := fun o => (Ext.alloc w23 o).cell e1_1
              have tx_0 := fun o => (Ext.alloc w23 o).cell x_0
              have tx_1 := fun o => (Ext.alloc w23 o).cell x_1
              have ty_0 := fun o => (Ext.alloc w23 o).cell y_0
              have ty_1 := fun o => (Ext.alloc w23 o).cell y_1
              have tz_0 := fun o => (Ext.alloc w23 o).cell z_0
              have tz_1 := fun o => (Ext.alloc w23 o).cell z_1
              have tz_2 := fun o => (Ext.alloc w23 o).cell z_2
              have tone_0 := fun o => (Ext.alloc w23 o).cell one_0
              have tone_1 := fun o => (Ext.alloc w23 o).cell one_1
              have tone_2 := fun o => (Ext.alloc w23 o).cell one_2
              have tone_3 := fun o => (Ext.alloc w23 o).cell one_3
              have tq_0 := fun o => (Ext.alloc w23 o).cell q_0
              have tq_1 := fun o => (Ext.alloc w23 o).cell q_1
              have tq_2 := fun o => (Ext.alloc w23 o).cell q_2
              have tq_3 := fun o => (Ext.alloc w23 o).cell q_3
              have tf_0 := fun o => (Ext.alloc w23 o).cell f_0
              have tf_1 := fun o => (Ext.alloc w23 o).cell f_1
              have tc_0 := fun o => (Ext.alloc w23 o).cell c_0
              have tc_1 := fun o => (Ext.alloc w23 o).cell c_1
              have tv_0 := fun o => (Ext.alloc w23 o).cell v_0
              have tv_1 := fun o => (Ext.alloc w23 o).cell v_1
              have tlo_0 := fun o => (Ext.alloc w23 o).cell lo_0
              have tlo_1 := fun o => (Ext.alloc w23 o).cell lo_1
              go_wp2_with fail
              clear te0_0 te0_1 te1_0 te1_1 tx_0 tx_1 ty_0 ty_1 tz_0 tz_1 tz_2 tone_0 tone_1 tone_2 tone_3 tq_0 tq_1 tq_2 tq_3 tf_0 tf_1 tc_0 tc_1 tv_0 tv_1 tlo_0 tlo_1
              obtain ⟨w24, hw⟩ : ∃ z : World, z = (w23.alloc (.cells #[.int .i64 ghi, .slice Ahi Lhi chi] 36)) := ⟨_, rfl⟩
              rw [← hw]
              have x24 : Ext w23 w24 := by rw [hw]; exact Ext.alloc _ _
              have bb := box_at w23 #[.int .i64 ghi, .slice Ahi Lhi chi] 36
              rw [← hw] at bb
              replace e0_0 := x24.cell e0_0
              replace e0_1 := x24.cell e0_1
              replace e1_0 := x24.cell e1_0
              replace e1_1 := x24.cell e1_1
              replace x_0 := x24.cell x_0
              replace x_1 := x24.cell x_1
              replace y_0 := x24.cell y_0
              replace y_1 := x24.cell y_1
              replace z_0 := x24.cell z_0
              replace z_1 := x24.cell z_1
              replace z_2 := x24.cell z_2
              replace one_0 := x24.cell one_0
              replace one_1 := x24.cell one_1
              replace one_2 := x24.cell one_2
              replace one_3 := x24.cell one_3
              replace q_0 := x24.cell q_0
              replace q_1 := x24.cell q_1
              replace q_2 := x24.cell q_2
              replace q_3 := x24.cell q_3
              replace f_0 := x24.cell f_0
              replace f_1 := x24.cell f_1
              replace c_0 := x24.cell c_0
              replace c_1 := x24.cell c_1
              replace v_0 := x24.cell v_0
              replace v_1 := x24.cell v_1
              replace lo_0 := x24.cell lo_0
              replace lo_1 := x24.cell lo_1
              have hi_0 := bb.1 0 (.int .i64 ghi) rfl
              have hi_1 := bb.1 1 (.slice Ahi Lhi chi) rfl
              clear hw bb
              go_wp2_with fail
              refine (rzcmp_is (lo.ext (by repeat' (first | with_reducible exact Ext.refl _ | with_reducible assumption | with_reducible apply Ext.alloc_r | with_reducible apply Ext.drew_r | with_reducible apply Ext.drewN_r | with_reducible refine Ext.trans ?_ ‹Ext _ _›))) (hi.ext (by repeat' (first | with_reducible exact Ext.refl _ | with_reducible assumption | with_reducible apply Ext.alloc_r | with_reducible apply Ext.drew_r | with_reducible apply Ext.drewN_r | with_reducible refine Ext.trans ?_ ‹Ext _ _›))) (by omega) (by omega) HC.out).mono ?_
              rintro e w25 ⟨rfl, x25⟩
              replace e0_0 := x25.cell e0_0
              replace e0_1 := x25.cell e0_1
              replace e1_0 := x25.cell e1_0
              replace e1_1 := x25.cell e1_1
              replace x_0 := x25.cell x_0
              replace x_1 := x25.cell x_1
              replace y_0 := x25.cell y_0
              replace y_1 := x25.cell y_1
              replace z_0 := x25.cell z_0
              replace z_1 := x25.cell z_1
              replace z_2 := x25.cell z_2
              replace one_0 := x25.cell one_0
              replace one_1 := x25.cell one_1
              replace one_2 := x25.cell one_2
              replace one_3 := x25.cell one_3
              replace q_0 := x25.cell q_0
              replace q_1 := x25.cell q_1
              replace q_2 := x25.cell q_2
              replace q_3 := x25.cell q_3
              replace f_0 := x25.cell f_0
              replace f_1 := x25.cell f_1
              replace c_0 := x25.cell c_0
              replace c_1 := x25.cell c_1
              replace v_0 := x25.cell v_0
              replace v_1 := x25.cell v_1
              replace lo_0 := x25.cell lo_0
              replace lo_1 := x25.cell lo_1
              replace hi_0 := x25.cell hi_0
              replace hi_1 := x25.cell hi_1
              go_wp2_with fail
              refine (lis5 (z.ext (by repeat' (first | with_reducible exact Ext.refl _ | with_reducible assumption | with_reducible apply Ext.alloc_r | with_reducible apply Ext.drew_r | with_reducible apply Ext.drewN_r | with_reducible refine Ext.trans ?_ ‹Ext _ _›))) (q.ext (by repeat' (first | with_reducible exact Ext.refl _ | with_reducible assumption | with_reducible apply Ext.alloc_r | with_reducible apply Ext.drew_r | with_reducible apply Ext.drewN_r | with_reducible refine Ext.trans ?_ ‹Ext _ _›))) rfl (by omega)).mono ?_
              rintro e w26 ⟨rfl, x26⟩
              replace e0_0 := x26.cell e0_0
              replace e0_1 := x26.cell e0_1
              replace e1_0 := x26.cell e1_0
              replace e1_1 := x26.cell e1_1
              replace x_0 := x26.cell x_0
              replace x_1 := x26.cell x_1
              replace y_0 := x26.cell y_0
              replace y_1 := x26.cell y_1
              replace z_0 := x26.cell z_0
              replace z_1 := x26.cell z_1
              replace z_2 := x26.cell z_2
              replace one_0 := x26.cell one_0
              replace one_1 := x26.cell one_1
              replace one_2 := x26.cell one_2
              replace one_3 := x26.cell one_3
              replace q_0 := x26.cell q_0
              replace q_1 := x26.cell q_1
              replace q_2 := x26.cell q_2
              replace q_3 := x26.cell q_3
              replace f_0 := x26.cell f_0
              replace f_1 := x26.cell f_1
              replace c_0 := x26.cell c_0
              replace c_1 := x26.cell c_1
              replace v_0 := x26.cell v_0
              replace v_1 := x26.cell v_1
              replace lo_0 := x26.cell lo_0
              replace lo_1 := x26.cell lo_1
              replace hi_0 := x26.cell hi_0
              replace hi_1 := x26.cell hi_1
              go_wp2_with fail
              refine (is_rz (f.ext (by repeat' (first | with_reducible exact Ext.refl _ | with_reducible assumption | with_reducible apply Ext.alloc_r | with_reducible apply Ext.drew_r | with_reducible apply Ext.drewN_r | with_reducible refine Ext.trans ?_ ‹Ext _ _›))) (lo.ext (by repeat' (first | with_reducible exact Ext.refl _ | with_reducible assumption | with_reducible apply Ext.alloc_r | with_reducible apply Ext.drew_r | with_reducible apply Ext.drewN_r | with_reducible refine Ext.trans ?_ ‹Ext _ _›))) (by omega)).mono ?_
              rintro e w27 ⟨rfl, x27⟩
              replace e0_0 := x27.cell e0_0
              replace e0_1 := x27.cell e0_1
              replace e1_0 := x27.cell e1_0
              replace e1_1 := x27.cell e1_1
              replace x_0 := x27.cell x_0
              replace x_1 := x27.cell x_1
              replace y_0 := x27.cell y_0
              replace y_1 := x27.cell y_1
              replace z_0 := x27.cell z_0
              replace z_1 := x27.cell z_1
              replace z_2 := x27.cell z_2
              replace one_0 := x27.cell one_0
              replace one_1 := x27.cell one_1
              replace one_2 := x27.cell one_2
              replace one_3 := x27.cell one_3
              replace q_0 := x27.cell q_0
              replace q_1 := x27.cell q_1
              replace q_2 := x27.cell q_2
              replace q_3 := x27.cell q_3
              replace f_0 := x27.cell f_0
              replace f_1 := x27.cell f_1
              replace c_0 := x27.cell c_0
              replace c_1 := x27.cell c_1
              replace v_0 := x27.cell v_0
              replace v_1 := x27.cell v_1
              replace lo_0 := x27.cell lo_0
              replace lo_1 := x27.cell lo_1
              replace hi_0 := x27.cell hi_0
              replace hi_1 := x27.cell hi_1
              go_wp2_with fail
              refine (is_rz (c.ext (by repeat' (first | with_reducible exact Ext.refl _ | with_reducible assumption | with_reducible apply Ext.alloc_r | with_reducible apply Ext.drew_r | with_reducible apply Ext.drewN_r | with_reducible refine Ext.trans ?_ ‹Ext _ _›))) (hi.ext (by repeat' (first | with_reducible exact Ext.refl _ | with_reducible assumption | with_reducible apply Ext.alloc_r | with_reducible apply Ext.drew_r | with_reducible apply Ext.drewN_r | with_reducible refine Ext.trans ?_ ‹Ext _ _›))) (by omega)).mono ?_
              rintro e w28 ⟨rfl, x28⟩
              replace e0_0 := x28.cell e0_0
              replace e0_1 := x28.cell e0_1
              replace e1_0 := x28.cell e1_0
              replace e1_1 := x28.cell e1_1
              replace x_0 := x28.cell x_0
              replace x_1 := x28.cell x_1
              replace y_0 := x28.cell y_0
              replace y_1 := x28.cell y_1
              replace z_0 := x28.cell z_0
              replace z_1 := x28.cell z_1
              replace z_2 := x28.cell z_2
              replace one_0 := x28.cell one_0
              replace one_1 := x28.cell one_1
              replace one_2 := x28.cell one_2
              replace one_3 := x28.cell one_3
              replace q_0 := x28.cell q_0
              replace q_1 := x28.cell q_1
              replace q_2 := x28.cell q_2
              replace q_3 := x28.cell q_3
              replace f_0 := x28.cell f_0
              replace f_1 := x28.cell f_1
              replace c_0 := x28.cell c_0
              replace c_1 := x28.cell c_1
              replace v_0 := x28.cell v_0
              replace v_1 := x28.cell v_1
              replace lo_0 := x28.cell lo_0
              replace lo_1 := x28.cell lo_1
              replace hi_0 := x28.cell hi_0
              replace hi_1 := x28.cell hi_1
              go_wp2_with fail
              refine (same_yes (v.zv.ext (by repeat' (first | with_reducible exact Ext.refl _ | with_reducible assumption | with_reducible apply Ext.alloc_r | with_reducible apply Ext.drew_r | with_reducible apply Ext.drewN_r | with_reducible refine Ext.trans ?_ ‹Ext _ _›))) (f.zv.ext (by repeat' (first | with_reducible exact Ext.refl _ | with_reducible assumption | with_reducible apply Ext.alloc_r | with_reducible apply Ext.drew_r | with_reducible apply Ext.drewN_r | with_reducible refine Ext.trans ?_ ‹Ext _ _›))) HN.out).mono ?_
              rintro e w29 ⟨rfl, x29⟩
              replace e0_0 := x29.cell e0_0
              replace e0_1 := x29.cell e0_1
              replace e1_0 := x29.cell e1_0
              replace e1_1 := x29.cell e1_1
              replace x_0 := x29.cell x_0
              replace x_1 := x29.cell x_1
              replace y_0 := x29.cell y_0
              replace y_1 := x29.cell y_1
              replace z_0 := x29.cell z_0
              replace z_1 := x29.cell z_1
              replace z_2 := x29.cell z_2
              replace one_0 := x29.cell one_0
              replace one_1 := x29.cell one_1
              replace one_2 := x29.cell one_2
              replace one_3 := x29.cell one_3
              replace q_0 := x29.cell q_0
              replace q_1 := x29.cell q_1
              replace q_2 := x29.cell q_2
              replace q_3 := x29.cell q_3
              replace f_0 := x29.cell f_0
              replace f_1 := x29.cell f_1
              replace c_0 := x29.cell c_0
              replace c_1 := x29.cell c_1
              replace v_0 := x29.cell v_0
              replace v_1 := x29.cell v_1
              replace lo_0 := x29.cell lo_0
              replace lo_1 := x29.cell lo_1
              replace hi_0 := x29.cell hi_0
              replace hi_1 := x29.cell hi_1
              go_wp2_with fail
              go_ret
              exact ⟨rfl, (by repeat' (first | with_reducible exact Ext.refl _ | with_reducible assumption | with_reducible apply Ext.alloc_r | with_reducible apply Ext.drew_r | with_reducible apply Ext.drewN_r | with_reducible refine Ext.trans ?_ ‹Ext _ _›))⟩
            · have HC : Hid (cmpZ (floorQ T) (-floorQ (-T)) = -1) := by show _ = _; rw [floor_neg, if_neg hd]; exact cmp_up _
              have HD := Lib.hid hd
              clear hd
              go_wp2_with fail
              refine (rint_no (z.rv.ext (by repeat' (first | with_reducible exact Ext.refl _ | with_reducible assumption | with_reducible apply Ext.alloc_r | with_reducible apply Ext.drew_r | with_reducible apply Ext.drewN_r | with_reducible refine Ext.trans ?_ ‹Ext _ _›))) HD.out (by omega)).mono ?_
              rintro e w17 ⟨rfl, x17⟩
              replace e0_0 := x17.cell e0_0
              replace e0_1 := x17.cell e0_1
              replace e1_0 := x17.cell e1_0
              replace e1_1 := x17.cell e1_1
              replace x_0 := x17.cell x_0
              replace x_1 := x17.cell x_1
              replace y_0 := x17.cell y_0
              replace y_1 := x17.cell y_1
              replace z_0 := x17.cell z_0
              replace z_1 := x17.cell z_1
              replace z_2 := x17.cell z_2
              replace one_0 := x17.cell one_0
              replace one_1 := x17.cell one_1
              replace one_2 := x17.cell one_2
              replace one_3 := x17.cell one_3
              replace q_0 := x17.cell q_0
              replace q_1 := x17.cell q_1
              replace q_2 := x17.cell q_2
              replace q_3 := x17.cell q_3
              replace f_0 := x17.cell f_0
              replace f_1 := x17.cell f_1
              replace c_0 := x17.cell c_0
              replace c_1 := x17.cell c_1
              have te0_0 := fun o => (Ext.alloc w17 o).cell e0_0
              have te0_1 := fun o => (Ext.alloc w17 o).cell e0_1
              have te1_0 := fun o => (Ext.alloc w17 o).cell e1_0
              have te1_1 := fun o => (Ext.alloc w17 o).cell e1_1
              have tx_0 := fun o => (Ext.alloc w17 o).cell x_0
              have tx_1 := fun o => (Ext.alloc w17 o).cell x_1
              have ty_0 := fun o => (Ext.alloc w17 o).cell y_0
              have ty_1 := fun o => (Ext.alloc w17 o).cell y_1
              have tz_0 := fun o => (Ext.alloc w17 o).cell z_0
              have tz_1 := fun o => (Ext.alloc w17 o).cell z_1
              have tz_2 := fun o => (Ext.alloc w17 o).cell z_2
              have tone_0 := fun o => (Ext.alloc w17 o).cell one_0
              have tone_1 := fun o => (Ext.alloc w17 o).cell one_1
              have tone_2 := fun o => (Ext.alloc w17 o).cell one_2
              have tone_3 := fun o => (Ext.alloc w17 o).cell one_3
              have tq_0 := fun o => (Ext.alloc w17 o).cell q_0
              have tq_1 := fun o => (Ext.alloc w17 o).cell q_1
              have tq_2 := fun o => (Ext.alloc w17 o).cell q_2
              have tq_3 := fun o => (Ext.alloc w17 o).cell q_3
              have tf_0 := fun o => (Ext.alloc w17 o).cell f_0
              have tf_1 := fun o => (Ext.alloc w17 o).cell f_1
              have tc_0 := fun o => (Ext.alloc w17 o).cell c_0
              have tc_1 := fun o => (Ext.alloc w17 o).cell c_1
              go_wp2_with fail
              clear te0_0 te0_1 te1_0 te1_1 tx_0 tx_1 ty_0 ty_1 tz_0 tz_1 tz_2 tone_0 tone_1 tone_2 tone_3 tq_0 tq_1 tq_2 tq_3 tf_0 tf_1 tc_0 tc_1
              obtain ⟨w18, hw⟩ : ∃ z : World, z = (w17.alloc (.cells #[.bool false, .slice none 0 0] 25)) := ⟨_, rfl⟩
              rw [← hw]
              have x18 : Ext w17 w18 := by rw [hw]; exact Ext.alloc _ _
              have bb := box_at w17 #[.bool false, .slice none 0 0] 25
              rw [← hw] at bb
              replace e0_0 := x18.cell e0_0
              replace e0_1 := x18.cell e0_1
              replace e1_0 := x18.cell e1_0
              replace e1_1 := x18.cell e1_1
              replace x_0 := x18.cell x_0
              replace x_1 := x18.cell x_1
              replace y_0 := x18.cell y_0
              replace y_1 := x18.cell y_1
              replace z_0 := x18.cell z_0
              replace z_1 := x18.cell z_1
              replace z_2 := x18.cell z_2
              replace one_0 := x18.cell one_0
              replace one_1 := x18.cell one_1
              replace one_2 := x18.cell one_2
              replace one_3 := x18.cell one_3
              replace q_0 := x18.cell q_0
              replace q_1 := x18.cell q_1
              replace q_2 := x18.cell q_2
              replace q_3 := x18.cell q_3
              replace f_0 := x18.cell f_0
              replace f_1 := x18.cell f_1
              replace c_0 := x18.cell c_0
              replace c_1 := x18.cell c_1
              have v_0 := bb.1 0 (.bool false) rfl
              have v_1 := bb.1 1 (.slice none 0 0) rfl
              clear hw bb
              go_wp2_with fail
              refine (qfloor_r (q.ext (by repeat' (first | with_reducible exact Ext.refl _ | with_reducible assumption | with_reducible apply Ext.alloc_r | with_reducible apply Ext.drew_r | with_reducible apply Ext.drewN_r | with_reducible refine Ext.trans ?_ ‹Ext _ _›))) (by omega)).mono ?_
              rintro e w19 ⟨glo, Alo, clo, Llo, rfl, lo, x19⟩
              replace e0_0 := x19.cell e0_0
              replace e0_1 := x19.cell e0_1
              replace e1_0 := x19.cell e1_0
              replace e1_1 := x19.cell e1_1
              replace x_0 := x19.cell x_0
              replace x_1 := x19.cell x_1
              replace y_0 := x19.cell y_0
              replace y_1 := x19.cell y_1
              replace z_0 := x19.cell z_0
              replace z_1 := x19.cell z_1
              replace z_2 := x19.cell z_2
              replace one_0 := x19.cell one_0
              replace one_1 := x19.cell one_1
              replace one_2 := x19.cell one_2
              replace one_3 := x19.cell one_3
              replace q_0 := x19.cell q_0
              replace q_1 := x19.cell q_1
              replace q_2 := x19.cell q_2
              replace q_3 := x19.cell q_3
              replace f_0 := x19.cell f_0
              replace f_1 := x19.cell f_1
              replace c_0 := x19.cell c_0
              replace c_1 := x19.cell c_1
              replace v_0 := x19.cell v_0
              replace v_1 := x19.cell v_1
              have te0_0 := fun o => (Ext.alloc w19 o).cell e0_0
              have te0_1 := fun o => (Ext.alloc w19 o).cell e0_1
              have te1_0 := fun o => (Ext.alloc w19 o).cell e1_0
              have te1_1 := fun o => (Ext.alloc w19 o).cell e1_1
              have tx_0 := fun o => (Ext.alloc w19 o).cell x_0
              have tx_1 := fun o => (Ext.alloc w19 o).cell x_1
              have ty_0 := fun o => (Ext.alloc w19 o).cell y_0
              have ty_1 := fun o => (Ext.alloc w19 o).cell y_1
              have tz_0 := fun o => (Ext.alloc w19 o).cell z_0
              have tz_1 := fun o => (Ext.alloc w19 o).cell z_1
              have tz_2 := fun o => (Ext.alloc w19 o).cell z_2
              have tone_0 := fun o => (Ext.alloc w19 o).cell one_0
              have tone_1 := fun o => (Ext.alloc w19 o).cell one_1
              have tone_2 := fun o => (Ext.alloc w19 o).cell one_2
              have tone_3 := fun o => (Ext.alloc w19 o).cell one_3
              have tq_0 := fun o => (Ext.alloc w19 o).cell q_0
              have tq_1 := fun o => (Ext.alloc w19 o).cell q_1
              have tq_2 := fun o => (Ext.alloc w19 o).cell q_2
              have tq_3 := fun o => (Ext.alloc w19 o).cell q_3
              have tf_0 := fun o => (Ext.alloc w19 o).cell f_0
              have tf_1 := fun o => (Ext.alloc w19 o).cell f_1
              have tc_0 := fun o => (Ext.alloc w19 o).cell c_0
              have tc_1 := fun o => (Ext.alloc w19 o).cell c_1
              have tv_0 := fun o => (Ext.alloc w19 o).cell v_0
              have tv_1 := fun o => (Ext.alloc w19 o).cell v_1
              go_wp2_with fail
              clear te0_0 te0_1 te1_0 te1_1 tx_0 tx_1 ty_0 ty_1 tz_0 tz_1 tz_2 tone_0 tone_1 tone_2 tone_3 tq_0 tq_1 tq_2 tq_3 tf_0 tf_1 tc_0 tc_1 tv_0 tv_1
              obtain ⟨w20, hw⟩ : ∃ z : World, z = (w19.alloc (.cells #[.int .i64 glo, .slice Alo Llo clo] 36)) := ⟨_, rfl⟩
              rw [← hw]
              have x20 : Ext w19 w20 := by rw [hw]; exact Ext.alloc _ _
              have bb := box_at w19 #[.int .i64 glo, .slice Alo Llo clo] 36
              rw [← hw] at bb
              replace e0_0 := x20.cell e0_0
              replace e0_1 := x20.cell e0_1
              replace e1_0 := x20.cell e1_0
              replace e1_1 := x20.cell e1_1
              replace x_0 := x20.cell x_0
              replace x_1 := x20.cell x_1
              replace y_0 := x20.cell y_0
              replace y_1 := x20.cell y_1
              replace z_0 := x20.cell z_0
              replace z_1 := x20.cell z_1
              replace z_2 := x20.cell z_2
              replace one_0 := x20.cell one_0
              replace one_1 := x20.cell one_1
              replace one_2 := x20.cell one_2
              replace one_3 := x20.cell one_3
              replace q_0 := x20.cell q_0
              replace q_1 := x20.cell q_1
              replace q_2 := x20.cell q_2
              replace q_3 := x20.cell q_3
              replace f_0 := x20.cell f_0
              replace f_1 := x20.cell f_1
              replace c_0 := x20.cell c_0
              replace c_1 := x20.cell c_1
              replace v_0 := x20.cell v_0
              replace v_1 := x20.cell v_1
              have lo_0 := bb.1 0 (.int .i64 glo) rfl
              have lo_1 := bb.1 1 (.slice Alo Llo clo) rfl
              clear hw bb
              go_wp2_with fail
              refine (qneg_r (q.ext (by repeat' (first | with_reducible exact Ext.refl _ | with_reducible assumption | with_reducible apply Ext.alloc_r | with_reducible apply Ext.drew_r | with_reducible apply Ext.drewN_r | with_reducible refine Ext.trans ?_ ‹Ext _ _›)))).mono ?_
              rintro e w21 ⟨gnq, Anq, cnq, Lnq, hnq, Bnq, dnq, Mnq, rfl, nq, x21⟩
              replace e0_0 := x21.cell e0_0
              replace e0_1 := x21.cell e0_1
              replace e1_0 := x21.cell e1_0
              replace e1_1 := x21.cell e1_1
              replace x_0 := x21.cell x_0
              replace x_1 := x21.cell x_1
              replace y_0 := x21.cell y_0
              replace y_1 := x21.cell y_1
              replace z_0 := x21.cell z_0
              replace z_1 := x21.cell z_1
              replace z_2 := x21.cell z_2
              replace one_0 := x21.cell one_0
              replace one_1 := x21.cell one_1
              replace one_2 := x21.cell one_2
              replace one_3 := x21.cell one_3
              replace q_0 := x21.cell q_0
              replace q_1 := x21.cell q_1
              replace q_2 := x21.cell q_2
              replace q_3 := x21.cell q_3
              replace f_0 := x21.cell f_0
              replace f_1 := x21.cell f_1
              replace c_0 := x21.cell c_0
              replace c_1 := x21.cell c_1
              replace v_0 := x21.cell v_0
              replace v_1 := x21.cell v_1
              replace lo_0 := x21.cell lo_0
              replace lo_1 := x21.cell lo_1
              go_wp2_with fail
              refine (qfloor_r (nq.ext (by repeat' (first | with_reducible exact Ext.refl _ | with_reducible assumption | with_reducible apply Ext.alloc_r | with_reducible apply Ext.drew_r | with_reducible apply Ext.drewN_r | with_reducible refine Ext.trans ?_ ‹Ext _ _›))) (by omega)).mono ?_
              rintro e w22 ⟨ghf, Ahf, chf, Lhf, rfl, hf, x22⟩
              replace e0_0 := x22.cell e0_0
              replace e0_1 := x22.cell e0_1
              replace e1_0 := x22.cell e1_0
              replace e1_1 := x22.cell e1_1
              replace x_0 := x22.cell x_0
              replace x_1 := x22.cell x_1
              replace y_0 := x22.cell y_0
              replace y_1 := x22.cell y_1
              replace z_0 := x22.cell z_0
              replace z_1 := x22.cell z_1
              replace z_2 := x22.cell z_2
              replace one_0 := x22.cell one_0
              replace one_1 := x22.cell one_1
              replace one_2 := x22.cell one_2
              replace one_3 := x22.cell one_3
              replace q_0 := x22.cell q_0
              replace q_1 := x22.cell q_1
              replace q_2 := x22.cell q_2
              replace q_3 := x22.cell q_3
              replace f_0 := x22.cell f_0
              replace f_1 := x22.cell f_1
              replace c_0 := x22.cell c_0
              replace c_1 := x22.cell c_1
              replace v_0 := x22.cell v_0
              replace v_1 := x22.cell v_1
              replace lo_0 := x22.cell lo_0
              replace lo_1 := x22.cell lo_1
              go_wp2_with fail
              refine (neg_rz (hf.ext (by repeat' (first | with_reducible exact Ext.refl _ | with_reducible assumption | with_reducible apply Ext.alloc_r | with_reducible apply Ext.drew_r | with_reducible apply Ext.drewN_r | with_reducible refine Ext.trans ?_ ‹Ext _ _›)))).mono ?_
              rintro e w23 ⟨ghi, Ahi, chi, Lhi, rfl, hi, x23⟩
              replace e0_0 := x23.cell e0_0
              replace e0_1 := x23.cell e0_1
              replace e1_0 := x23.cell e1_0
              replace e1_1 := x23.cell e1_1
              replace x_0 := x23.cell x_0
              replace x_1 := x23.cell x_1
              replace y_0 := x23.cell y_0
              replace y_1 := x23.cell y_1
              replace z_0 := x23.cell z_0
              replace z_1 := x23.cell z_1
              replace z_2 := x23.cell z_2
              replace one_0 := x23.cell one_0
              replace one_1 := x23.cell one_1
              replace one_2 := x23.cell one_2
              replace one_3 := x23.cell one_3
              replace q_0 := x23.cell q_0
              replace q_1 := x23.cell q_1
              replace q_2 := x23.cell q_2
              replace q_3 := x23.cell q_3
              replace f_0 := x23.cell f_0
              replace f_1 := x23.cell f_1
              replace c_0 := x23.cell c_0
              replace c_1 := x23.cell c_1
              replace v_0 := x23.cell v_0
              replace v_1 := x23.cell v_1
              replace lo_0 := x23.cell lo_0
              replace lo_1 := x23.cell lo_1
              have te0_0 := fun o => (Ext.alloc w23 o).cell e0_0
              have te0_1 := fun o => (Ext.alloc w23 o).cell e0_1
              have te1_0 := fun o => (Ext.alloc w23 o).cell e1_0
              have te1_1 := fun o => (Ext.alloc w23 o).cell e1_1
              have tx_0 := fun o => (Ext.alloc w23 o).cell x_0
              have tx_1 := fun o => (Ext.alloc w23 o).cell x_1
              have ty_0 := fun o => (Ext.alloc w23 o).cell y_0
              have ty_1 := fun o => (Ext.alloc w23 o).cell y_1
              have tz_0 := fun o => (Ext.alloc w23 o).cell z_0
              have tz_1 := fun o => (Ext.alloc w23 o).cell z_1
              have tz_2 := fun o => (Ext.alloc w23 o).cell z_2
              have tone_0 := fun o => (Ext.alloc w23 o).cell one_0
              have tone_1 := fun o => (Ext.alloc w23 o).cell one_1
              have tone_2 := fun o => (Ext.alloc w23 o).cell one_2
              have tone_3 := fun o => (Ext.alloc w23 o).cell one_3
              have tq_0 := fun o => (Ext.alloc w23 o).cell q_0
              have tq_1 := fun o => (Ext.alloc w23 o).cell q_1
              have tq_2 := fun o => (Ext.alloc w23 o).cell q_2
              have tq_3 := fun o => (Ext.alloc w23 o).cell q_3
              have tf_0 := fun o => (Ext.alloc w23 o).cell f_0
              have tf_1 := fun o => (Ext.alloc w23 o).cell f_1
              have tc_0 := fun o => (Ext.alloc w23 o).cell c_0
              have tc_1 := fun o => (Ext.alloc w23 o).cell c_1
              have tv_0 := fun o => (Ext.alloc w23 o).cell v_0
              have tv_1 := fun o => (Ext.alloc w23 o).cell v_1
              have tlo_0 := fun o => (Ext.alloc w23 o).cell lo_0
              have tlo_1 := fun o => (Ext.alloc w23 o).cell lo_1
              go_wp2_with fail
              clear te0_0 te0_1 te1_0 te1_1 tx_0 tx_1 ty_0 ty_1 tz_0 tz_1 tz_2 tone_0 tone_1 tone_2 tone_3 tq_0 tq_1 tq_2 tq_3 tf_0 tf_1 tc_0 tc_1 tv_0 tv_1 tlo_0 tlo_1
              obtain ⟨w24, hw⟩ : ∃ z : World, z = (w23.alloc (.cells #[.int .i64 ghi, .slice Ahi Lhi chi] 36)) := ⟨_, rfl⟩
              rw [← hw]
              have x24 : Ext w23 w24 := by rw [hw]; exact Ext.alloc _ _
              have bb := box_at w23 #[.int .i64 ghi, .slice Ahi Lhi chi] 36
              rw [← hw] at bb
              replace e0_0 := x24.cell e0_0
              replace e0_1 := x24.cell e0_1
              replace e1_0 := x24.cell e1_0
              replace e1_1 := x24.cell e1_1
              replace x_0 := x24.cell x_0
              replace x_1 := x24.cell x_1
              replace y_0 := x24.cell y_0
              replace y_1 := x24.cell y_1
              replace z_0 := x24.cell z_0
              replace z_1 := x24.cell z_1
              replace z_2 := x24.cell z_2
              replace one_0 := x24.cell one_0
              replace one_1 := x24.cell one_1
              replace one_2 := x24.cell one_2
              replace one_3 := x24.cell one_3
              replace q_0 := x24.cell q_0
              replace q_1 := x24.cell q_1
              replace q_2 := x24.cell q_2
              replace q_3 := x24.cell q_3
              replace f_0 := x24.cell f_0
              replace f_1 := x24.cell f_1
              replace c_0 := x24.cell c_0
              replace c_1 := x24.cell c_1
              replace v_0 := x24.cell v_0
              replace v_1 := x24.cell v_1
              replace lo_0 := x24.cell lo_0
              replace lo_1 := x24.cell lo_1
              have hi_0 := bb.1 0 (.int .i64 ghi) rfl
              have hi_1 := bb.1 1 (.slice Ahi Lhi chi) rfl
              clear hw bb
              go_wp2_with fail
              refine (rzcmp_is (lo.ext (by repeat' (first | with_reducible exact Ext.refl _ | with_reducible assumption | with_reducible apply Ext.alloc_r | with_reducible apply Ext.drew_r | with_reducible apply Ext.drewN_r | with_reducible refine Ext.trans ?_ ‹Ext _ _›))) (hi.ext (by repeat' (first | with_reducible exact Ext.refl _ | with_reducible assumption | with_reducible apply Ext.alloc_r | with_reducible apply Ext.drew_r | with_reducible apply Ext.drewN_r | with_reducible refine Ext.trans ?_ ‹Ext _ _›))) (by omega) (by omega) HC.out).mono ?_
              rintro e w25 ⟨rfl, x25⟩
              replace e0_0 := x25.cell e0_0
              replace e0_1 := x25.cell e0_1
              replace e1_0 := x25.cell e1_0
              replace e1_1 := x25.cell e1_1
              replace x_0 := x25.cell x_0
              replace x_1 := x25.cell x_1
              replace y_0 := x25.cell y_0
              replace y_1 := x25.cell y_1
              replace z_0 := x25.cell z_0
              replace z_1 := x25.cell z_1
              replace z_2 := x25.cell z_2
              replace one_0 := x25.cell one_0
              replace one_1 := x25.cell one_1
              replace one_2 := x25.cell one_2
              replace one_3 := x25.cell one_3
              replace q_0 := x25.cell q_0
              replace q_1 := x25.cell q_1
              replace q_2 := x25.cell q_2
              replace q_3 := x25.cell q_3
              replace f_0 := x25.cell f_0
              replace f_1 := x25.cell f_1
              replace c_0 := x25.cell c_0
              replace c_1 := x25.cell c_1
              replace v_0 := x25.cell v_0
              replace v_1 := x25.cell v_1
              replace lo_0 := x25.cell lo_0
              replace lo_1 := x25.cell lo_1
              replace hi_0 := x25.cell hi_0
              replace hi_1 := x25.cell hi_1
              go_wp2_with fail
              refine (lis5 (z.ext (by repeat' (first | with_reducible exact Ext.refl _ | with_reducible assumption | with_reducible apply Ext.alloc_r | with_reducible apply Ext.drew_r | with_reducible apply Ext.drewN_r | with_reducible refine Ext.trans ?_ ‹Ext _ _›))) (q.ext (by repeat' (first | with_reducible exact Ext.refl _ | with_reducible assumption | with_reducible apply Ext.alloc_r | with_reducible apply Ext.drew_r | with_reducible apply Ext.drewN_r | with_reducible refine Ext.trans ?_ ‹Ext _ _›))) rfl (by omega)).mono ?_
              rintro e w26 ⟨rfl, x26⟩
              replace e0_0 := x26.cell e0_0
              replace e0_1 := x26.cell e0_1
              replace e1_0 := x26.cell e1_0
              replace e1_1 := x26.cell e1_1
              replace x_0 := x26.cell x_0
              replace x_1 := x26.cell x_1
              replace y_0 := x26.cell y_0
              replace y_1 := x26.cell y_1
              replace z_0 := x26.cell z_0
              replace z_1 := x26.cell z_1
              replace z_2 := x26.cell z_2
              replace one_0 := x26.cell one_0
              replace one_1 := x26.cell one_1
              replace one_2 := x26.cell one_2
              replace one_3 := x26.cell one_3
              replace q_0 := x26.cell q_0
              replace q_1 := x26.cell q_1
              replace q_2 := x26.cell q_2
              replace q_3 := x26.cell q_3
              replace f_0 := x26.cell f_0
              replace f_1 := x26.cell f_1
              replace c_0 := x26.cell c_0
              replace c_1 := x26.cell c_1
              replace v_0 := x26.cell v_0
              replace v_1 := x26.cell v_1
              replace lo_0 := x26.cell lo_0
              replace lo_1 := x26.cell lo_1
              replace hi_0 := x26.cell hi_0
              replace hi_1 := x26.cell hi_1
              go_wp2_with fail
              refine (is_rz (f.ext (by repeat' (first | with_reducible exact Ext.refl _ | with_reducible assumption | with_reducible apply Ext.alloc_r | with_reducible apply Ext.drew_r | with_reducible apply Ext.drewN_r | with_reducible refine Ext.trans ?_ ‹Ext _ _›))) (lo.ext (by repeat' (first | with_reducible exact Ext.refl _ | with_reducible assumption | with_reducible apply Ext.alloc_r | with_reducible apply Ext.drew_r | with_reducible apply Ext.drewN_r | with_reducible refine Ext.trans ?_ ‹Ext _ _›))) (by omega)).mono ?_
              rintro e w27 ⟨rfl, x27⟩
              replace e0_0 := x27.cell e0_0
              replace e0_1 := x27.cell e0_1
              replace e1_0 := x27.cell e1_0
              replace e1_1 := x27.cell e1_1
              replace x_0 := x27.cell x_0
              replace x_1 := x27.cell x_1
              replace y_0 := x27.cell y_0
              replace y_1 := x27.cell y_1
              replace z_0 := x27.cell z_0
              replace z_1 := x27.cell z_1
              replace z_2 := x27.cell z_2
              replace one_0 := x27.cell one_0
              replace one_1 := x27.cell one_1
              replace one_2 := x27.cell one_2
              replace one_3 := x27.cell one_3
              replace q_0 := x27.cell q_0
              replace q_1 := x27.cell q_1
              replace q_2 := x27.cell q_2
              replace q_3 := x27.cell q_3
              replace f_0 := x27.cell f_0
              replace f_1 := x27.cell f_1
              replace c_0 := x27.cell c_0
              replace c_1 := x27.cell c_1
              replace v_0 := x27.cell v_0
              replace v_1 := x27.cell v_1
              replace lo_0 := x27.cell lo_0
              replace lo_1 := x27.cell lo_1
              replace hi_0 := x27.cell hi_0
              replace hi_1 := x27.cell hi_1
              go_wp2_with fail
              refine (is_rz (c.ext (by repeat' (first | with_reducible exact Ext.refl _ | with_reducible assumption | with_reducible apply Ext.alloc_r | with_reducible apply Ext.drew_r | with_reducible apply Ext.drewN_r | with_reducible refine Ext.trans ?_ ‹Ext _ _›))) (hi.ext (by repeat' (first | with_reducible exact Ext.refl _ | with_reducible assumption | with_reducible apply Ext.alloc_r | with_reducible apply Ext.drew_r | with_reducible apply Ext.drewN_r | with_reducible refine Ext.trans ?_ ‹Ext _ _›))) (by omega)).mono ?_
              rintro e w28 ⟨rfl, x28⟩
              replace e0_0 := x28.cell e0_0
              replace e0_1 := x28.cell e0_1
              replace e1_0 := x28.cell e1_0
              replace e1_1 := x28.cell e1_1
              replace x_0 := x28.cell x_0
              replace x_1 := x28.cell x_1
              replace y_0 := x28.cell y_0
              replace y_1 := x28.cell y_1
              replace z_0 := x28.cell z_0
              replace z_1 := x28.cell z_1
              replace z_2 := x28.cell z_2
              replace one_0 := x28.cell one_0
              replace one_1 := x28.cell one_1
              replace one_2 := x28.cell one_2
              replace one_3 := x28.cell one_3
              replace q_0 := x28.cell q_0
              replace q_1 := x28.cell q_1
              replace q_2 := x28.cell q_2
              replace q_3 := x28.cell q_3
              replace f_0 := x28.cell f_0
              replace f_1 := x28.cell f_1
              replace c_0 := x28.cell c_0
              replace c_1 := x28.cell c_1
              replace v_0 := x28.cell v_0
              replace v_1 := x28.cell v_1
              replace lo_0 := x28.cell lo_0
              replace lo_1 := x28.cell lo_1
              replace hi_0 := x28.cell hi_0
              replace hi_1 := x28.cell hi_1
              go_wp2_with fail
              refine (sign_is (k := 0) (zv_zero _) rfl).mono ?_
              rintro e w29 ⟨rfl, x29⟩
              replace e0_0 := x29.cell e0_0
              replace e0_1 := x29.cell e0_1
              replace e1_0 := x29.cell e1_0
              replace e1_1 := x29.cell e1_1
              replace x_0 := x29.cell x_0
              replace x_1 := x29.cell x_1
              replace y_0 := x29.cell y_0
              replace y_1 := x29.cell y_1
              replace z_0 := x29.cell z_0
              replace z_1 := x29.cell z_1
              replace z_2 := x29.cell z_2
              replace one_0 := x29.cell one_0
              replace one_1 := x29.cell one_1
              replace one_2 := x29.cell one_2
              replace one_3 := x29.cell one_3
              replace q_0 := x29.cell q_0
              replace q_1 := x29.cell q_1
              replace q_2 := x29.cell q_2
              replace q_3 := x29.cell q_3
              replace f_0 := x29.cell f_0
              replace f_1 := x29.cell f_1
              replace c_0 := x29.cell c_0
              replace c_1 := x29.cell c_1
              replace v_0 := x29.cell v_0
              replace v_1 := x29.cell v_1
              replace lo_0 := x29.cell lo_0
              replace lo_1 := x29.cell lo_1
              replace hi_0 := x29.cell hi_0
              replace hi_1 := x29.cell hi_1
              go_wp2_with fail
              go_ret
              exact ⟨rfl, (by repeat' (first | with_reducible exact Ext.refl _ | with_reducible assumption | with_reducible apply Ext.alloc_r | with_reducible apply Ext.drew_r | with_reducible apply Ext.drewN_r | with_reducible refine Ext.trans ?_ ‹Ext _ _›))⟩
  · have HF : Hid ((decide (L1 ≤ 6) && decide (L2 ≤ 6)) = false) := by show _ = _; rw [Bool.eq_false_iff]; simp only [ne_eq, decide_eq_true_eq, Bool.and_eq_true]; omega
    clear hf
    go_enter Try.func4, Try.ntmps4
    go_wp2_with fail
    obtain ⟨w0, hw0⟩ : ∃ z : World, z = ((w.alloc (.cells #[.bool s1, .slice A1 L1 c1] 25)).alloc (.cells #[.bool s2, .slice A2 L2 c2] 25)) := ⟨_, rfl⟩
    rw [← hw0]
    have b0 := box_at w #[.bool s1, .slice A1 L1 c1] 25
    have b1 := box_at (w.alloc (.cells #[.bool s1, .slice A1 L1 c1] 25)) #[.bool s2, .slice A2 L2 c2] 25
    have hsz : w0.heap.size = w.heap.size + 1 + 1 := by rw [hw0]; simp
    rw [← hw0] at b1
    have y1 : Ext (w.alloc (.cells #[.bool s1, .slice A1 L1 c1] 25)) w0 := by rw [hw0]; exact Ext.alloc _ _
    have y0 : Ext w w0 := (Ext.alloc _ _).trans y1
    have x0 : Ext w w0 := y0
    have e0_0 := y1.cell (b0.1 0 (.bool s1) rfl)
    have e0_1 := y1.cell (b0.1 1 (.slice A1 L1 c1) rfl)
    have e1_0 := b1.1 0 (.bool s2) rfl
    have e1_1 := b1.1 1 (.slice A2 L2 c2) rfl
    simp only [World.size_alloc] at e1_0 e1_1
    clear hw0 b0 b1 y0 y1
    go_wp2_with fail
    refine (awake5 _).mono ?_
    rintro e w1 ⟨rfl, x1⟩
    replace e0_0 := x1.cell e0_0
    replace e0_1 := x1.cell e0_1
    replace e1_0 := x1.cell e1_0
    replace e1_1 := x1.cell e1_1
    go_wp2_with fail
    refine (few2 (n := 6) (w := w1) (by omega) (by omega)).mono ?_
    rintro e w2 ⟨rfl, x2⟩
    replace e0_0 := x2.cell e0_0
    replace e0_1 := x2.cell e0_1
    replace e1_0 := x2.cell e1_0
    replace e1_1 := x2.cell e1_1
    rw [HF.out]
    clear hsz
    go_wp2_with fail
    refine (awake5 _).mono ?_
    rintro e w3 ⟨rfl, x3⟩
    replace e0_0 := x3.cell e0_0
    replace e0_1 := x3.cell e0_1
    replace e1_0 := x3.cell e1_0
    replace e1_1 := x3.cell e1_1
    go_wp2_with fail
    go_ret
    exact ⟨rfl, (by repeat' (first | with_reducible exact Ext.refl _ | with_reducible assumption | with_reducible apply Ext.alloc_r | with_reducible apply Ext.drew_r | with_reducible apply Ext.drewN_r | with_reducible refine Ext.trans ?_ ‹Ext _ _›))⟩
end Go.Proofs.Ytfnmbhjifdfibaa
