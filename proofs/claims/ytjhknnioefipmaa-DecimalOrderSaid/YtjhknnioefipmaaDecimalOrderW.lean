/- The walk of DecimalOrder. -/
import Derived.Test.YtjhknnioefipmaaLaw4
import Derived.Test.YtjhknnioefipmaaKept
import Derived.Test.YtjhknnioefipmaaDecD
namespace Go.Proofs.Ytjhknnioefipmaa
open Go.RowKit
set_option maxHeartbeats 40000000 in
set_option maxRecDepth 100000 in
theorem decimalOrder_walk {w : World} {s1 : Bool} {A1 : Option Addr} {c1 L1 : Nat} {z1 : Int} {s2 : Bool} {A2 : Option Addr} {c2 L2 : Nat} {z2 : Int} (h1 : ZV w s1 A1 c1 L1 z1) (h2 : ZV w s2 A2 c2 L2 z2) :
    Calls Try.prog 4 #[.agg #[.bool s1, .slice A1 L1 c1], .agg #[.bool s2, .slice A2 L2 c2]] w fun e w' => e = .returned (.bool true) ∧ Ext w w' := by
  have p1 := h1.nv.cap
  have q1 := h1.nv.le
  have p2 := h2.nv.cap
  have q2 := h2.nv.le
  by_cases hf : L1 ≤ 20 ∧ L2 ≤ 20
  · have b1 : dl z1.natAbs ≤ 20 := Nat.le_trans h1.nv.dl hf.1
    have b2 : dl z2.natAbs ≤ 20 := Nat.le_trans h2.nv.dl hf.2
    obtain ⟨hf1, hf2⟩ := hf
    go_enter Try.func4, Try.ntmps4
    go_wp2_with fail
    obtain ⟨w0, hw0⟩ : ∃ z : World, z = ((w.alloc (.cells #[.bool s1, .slice A1 L1 c1] 25)).alloc (.cells #[.bool s2, .slice A2 L2 c2] 25)) := ⟨_, rfl⟩
    rw [← hw0]
    have b0 := box_at w #[.bool s1, .slice A1 L1 c1] 25
    have b1 := box_at (w.alloc (.cells #[.bool s1, .slice A1 L1 c1] 25)) #[.bool s2, .slice A2 L2 c2] 25
    have hsz : w0.heap.size = w.heap.size + 1 + 1 := by rw [hw0]; simp
    rw [← hw0] at b1
    have y1 : Ext (w.alloc (.cells #[.bool s1, .slice A1 L1 c1] 25)) w0 := by rw [hw0]; exact Ext.alloc _ _
    have y0 : Ext w w0 := (Ext.alloc _ _).trans y1
    have x0 : Ext w w0 := y0
    have e0_0 := y1.cell (b0.1 0 (.bool s1) rfl)
    have e0_1 := y1.cell (b0.1 1 (.slice A1 L1 c1) rfl)
    have e1_0 := b1.1 0 (.bool s2) rfl
    have e1_1 := b1.1 1 (.slice A2 L2 c2) rfl
    simp only [World.size_alloc] at e1_0 e1_1
    clear hw0 b0 b1 y0 y1
    go_wp2_with fail
    refine (lawake4 _).mono ?_
    rintro e w1 ⟨rfl, x1⟩
    replace e0_0 := x1.cell e0_0
    replace e0_1 := x1.cell e0_1
    replace e1_0 := x1.cell e1_0
    replace e1_1 := x1.cell e1_1
    clear hsz
    go_wp2_with fail
    go_cut [5, 6] (fun s5 s6 wx => PutZ w1 wx (z1.natAbs : Int) s5 ∧ PutZ w1 wx (z2.natAbs : Int) s6)
    case first =>
      have HK : Hid (∀ w', Ext w1 w' → Ext w1 w' ∧ w'.cell? ⟨w.heap.size, 0, none⟩ = some (.bool s1) ∧ w'.cell? ⟨w.heap.size, 1, none⟩ = some (.slice A1 L1 c1) ∧ w'.cell? ⟨w.heap.size + 1, 0, none⟩ = some (.bool s2) ∧ w'.cell? ⟨w.heap.size + 1, 1, none⟩ = some (.slice A2 L2 c2)) := fun w' hk => ⟨hk, hk.cell e0_0, hk.cell e0_1, hk.cell e1_0, hk.cell e1_1⟩
      first
      | go_region_held3 (fun w' => Ext w1 w' ∧ w'.cell? ⟨w.heap.size, 0, none⟩ = some (.bool s1) ∧ w'.cell? ⟨w.heap.size, 1, none⟩ = some (.slice A1 L1 c1) ∧ w'.cell? ⟨w.heap.size + 1, 0, none⟩ = some (.bool s2) ∧ w'.cell? ⟨w.heap.size + 1, 1, none⟩ = some (.slice A2 L2 c2))
          ((refine HK.out _ ?_; (repeat' (first | with_reducible exact Ext.refl _ | with_reducible assumption | with_reducible apply Ext.alloc_r | with_reducible apply Ext.drew_r | with_reducible apply Ext.drewN_r | with_reducible apply Ext.set_r | with_reducible exact Nat.le_refl _ | omega | with_reducible refine Ext.trans ?_ ‹Ext _ _›))))
          (first
            | (go_at_call_of 16 (#[Value.agg #[.bool s2, .slice A2 L2 c2]]); have hgd := p; clear hgd; refine (abs_z (h2.ext (by repeat' (first | with_reducible exact Ext.refl _ | with_reducible assumption | with_reducible apply Ext.alloc_r | with_reducible apply Ext.drew_r | with_reducible apply Ext.drewN_r | with_reducible refine Ext.trans ?_ ‹Ext _ _›))) (by omega)).mono ?_; rintro e w3 ⟨sq, Aq, cq, Lq, rfl, q, x3⟩; (have zs3 := x3.size); (try simp only [World.size_alloc] at zs3); (try ((with_reducible have h3_0 := box_ext (vs := #[.bool false, .slice none 0 0]) x3); have h3_0c0 := (h3_0.1 0 (.bool false) rfl).1; have h3_0f0 := (h3_0.1 0 (.bool false) rfl).2; have h3_0c1 := (h3_0.1 1 (.slice none 0 0) rfl).1; have h3_0f1 := (h3_0.1 1 (.slice none 0 0) rfl).2; have h3_0b := h3_0.2.1; have h3_0z := h3_0.2.2; (try simp only [World.size_alloc] at h3_0b h3_0z h3_0c0 h3_0f0 h3_0c1 h3_0f1); have h3_0m := Nat.ne_of_lt h3_0z; have h3_0n := Nat.ne_of_gt h3_0z; clear h3_0)); (try ((with_reducible have h3_1 := box_ext (vs := #[.bool false, .slice none 0 0]) ((Ext.alloc _ _).trans x3)); have h3_1c0 := (h3_1.1 0 (.bool false) rfl).1; have h3_1f0 := (h3_1.1 0 (.bool false) rfl).2; have h3_1c1 := (h3_1.1 1 (.slice none 0 0) rfl).1; have h3_1f1 := (h3_1.1 1 (.slice none 0 0) rfl).2; have h3_1b := h3_1.2.1; have h3_1z := h3_1.2.2; (try simp only [World.size_alloc] at h3_1b h3_1z h3_1c0 h3_1f0 h3_1c1 h3_1f1); have h3_1m := Nat.ne_of_lt h3_1z; have h3_1n := Nat.ne_of_gt h3_1z; clear h3_1)); (try (have hh : Ext w2 w3 := ?g300; (case g300 => ((repeat' (first | with_reducible exact Ext.refl _ | with_reducible assumption | with_reducible apply Ext.alloc_r | with_reducible apply Ext.drew_r | with_reducible apply Ext.drewN_r | with_reducible refine Ext.trans ?_ ‹Ext _ _›)); done)); replace h2_0f0 := hh.frozen h2_0c0 h2_0f0; replace h2_0c0 := hh.cell h2_0c0; replace h2_0f1 := hh.frozen h2_0c1 h2_0f1; replace h2_0c1 := hh.cell h2_0c1; replace h2_0b := h2_0b.ext hh; have h2_0z2 := Nat.lt_of_lt_of_le h2_0z hh.size; have h2_0m2 := Nat.ne_of_lt h2_0z2; have h2_0n2 := Nat.ne_of_gt h2_0z2; clear hh)); (try (have hh : Ext w2 w3 := ?g301; (case g301 => ((repeat' (first | with_reducible exact Ext.refl _ | with_reducible assumption | with_reducible apply Ext.alloc_r | with_reducible apply Ext.drew_r | with_reducible apply Ext.drewN_r | with_reducible refine Ext.trans ?_ ‹Ext _ _›)); done)); replace h2_1f0 := hh.frozen h2_1c0 h2_1f0; replace h2_1c0 := hh.cell h2_1c0; replace h2_1f1 := hh.frozen h2_1c1 h2_1f1; replace h2_1c1 := hh.cell h2_1c1; replace h2_1b := h2_1b.ext hh; have h2_1z2 := Nat.lt_of_lt_of_le h2_1z hh.size; have h2_1m2 := Nat.ne_of_lt h2_1z2; have h2_1n2 := Nat.ne_of_gt h2_1z2; clear hh)))
            | (go_at_call_of 16 (#[Value.agg #[.bool s1, .slice A1 L1 c1]]); refine (abs_z (h1.ext (by repeat' (first | with_reducible exact Ext.refl _ | with_reducible assumption | with_reducible apply Ext.alloc_r | with_reducible apply Ext.drew_r | with_reducible apply Ext.drewN_r | with_reducible refine Ext.trans ?_ ‹Ext _ _›))) (by omega)).mono ?_; rintro e w2 ⟨sp, Ap, cp, Lp, rfl, p, x2⟩; (have zs2 := x2.size); (try simp only [World.size_alloc, World.size_drew] at zs2); (try ((with_reducible have h2_0 := box_ext (vs := #[.bool false, .slice none 0 0]) ((Ext.drew _).trans x2)); have h2_0c0 := (h2_0.1 0 (.bool false) rfl).1; have h2_0f0 := (h2_0.1 0 (.bool false) rfl).2; have h2_0c1 := (h2_0.1 1 (.slice none 0 0) rfl).1; have h2_0f1 := (h2_0.1 1 (.slice none 0 0) rfl).2; have h2_0b := h2_0.2.1; have h2_0z := h2_0.2.2; (try simp only [World.size_alloc] at h2_0b h2_0z h2_0c0 h2_0f0 h2_0c1 h2_0f1); have h2_0m := Nat.ne_of_lt h2_0z; have h2_0n := Nat.ne_of_gt h2_0z; clear h2_0)); (try ((with_reducible have h2_1 := box_ext (vs := #[.bool false, .slice none 0 0]) (((Ext.alloc _ _).trans (Ext.drew _)).trans x2)); have h2_1c0 := (h2_1.1 0 (.bool false) rfl).1; have h2_1f0 := (h2_1.1 0 (.bool false) rfl).2; have h2_1c1 := (h2_1.1 1 (.slice none 0 0) rfl).1; have h2_1f1 := (h2_1.1 1 (.slice none 0 0) rfl).2; have h2_1b := h2_1.2.1; have h2_1z := h2_1.2.2; (try simp only [World.size_alloc] at h2_1b h2_1z h2_1c0 h2_1f0 h2_1c1 h2_1f1); have h2_1m := Nat.ne_of_lt h2_1z; have h2_1n := Nat.ne_of_gt h2_1z; clear h2_1))))
      | fail
      all_goals (clear HK; go_wp2_with fail; go_meet)
      all_goals
        constructor
        · refine PutZ.mk (sb := sp) (A := Ap) (c := cp) (L := Lp) ?_ ((p.mono (Ext.size (by repeat' (first | with_reducible exact Ext.refl _ | with_reducible assumption | with_reducible apply Ext.alloc_r | with_reducible apply Ext.drew_r | with_reducible apply Ext.drewN_r | with_reducible refine Ext.trans ?_ ‹Ext _ _›)))).kept ?_) ?_
          · refine Bx.mk2 ?_ ?_
            · go_simp
            · go_simp
          · (repeat' (first | with_reducible exact Kept.refl _ | with_reducible apply Kept.alloc_r | with_reducible apply Kept.drew_r | (with_reducible apply Kept.setZ; (case hb => ((repeat' (first | with_reducible assumption | with_reducible apply IsBox.set_ | (with_reducible apply IsBox.new; (first | (with_reducible rfl) | simp); done) | with_reducible apply IsBox.alloc_ | with_reducible apply IsBox.drew_ | with_reducible refine IsBox.ext ?_ ‹Ext _ _›)); done))) | (with_reducible apply Kept.setI; (case hb => ((repeat' (first | with_reducible assumption | with_reducible apply IsBox.set_ | (with_reducible apply IsBox.new; (first | (with_reducible rfl) | simp); done) | with_reducible apply IsBox.alloc_ | with_reducible apply IsBox.drew_ | with_reducible refine IsBox.ext ?_ ‹Ext _ _›)); done))) | with_reducible refine Kept.trans ?_ (Ext.kept ‹Ext _ _›)))
          · (repeat' (first | with_reducible exact Ext.refl _ | with_reducible assumption | with_reducible apply Ext.alloc_r | with_reducible apply Ext.drew_r | with_reducible apply Ext.drewN_r | with_reducible apply Ext.set_r | with_reducible exact Nat.le_refl _ | omega | with_reducible refine Ext.trans ?_ ‹Ext _ _›))
        · refine PutZ.mk (sb := sq) (A := Aq) (c := cq) (L := Lq) ?_ ((q.mono (Ext.size (by repeat' (first | with_reducible exact Ext.refl _ | with_reducible assumption | with_reducible apply Ext.alloc_r | with_reducible apply Ext.drew_r | with_reducible apply Ext.drewN_r | with_reducible refine Ext.trans ?_ ‹Ext _ _›)))).kept ?_) ?_
          · refine Bx.mk2 ?_ ?_
            · go_simp
            · go_simp
          · (repeat' (first | with_reducible exact Kept.refl _ | with_reducible apply Kept.alloc_r | with_reducible apply Kept.drew_r | (with_reducible apply Kept.setZ; (case hb => ((repeat' (first | with_reducible assumption | with_reducible apply IsBox.set_ | (with_reducible apply IsBox.new; (first | (with_reducible rfl) | simp); done) | with_reducible apply IsBox.alloc_ | with_reducible apply IsBox.drew_ | with_reducible refine IsBox.ext ?_ ‹Ext _ _›)); done))) | (with_reducible apply Kept.setI; (case hb => ((repeat' (first | with_reducible assumption | with_reducible apply IsBox.set_ | (with_reducible apply IsBox.new; (first | (with_reducible rfl) | simp); done) | with_reducible apply IsBox.alloc_ | with_reducible apply IsBox.drew_ | with_reducible refine IsBox.ext ?_ ‹Ext _ _›)); done))) | with_reducible refine Kept.trans ?_ (Ext.kept ‹Ext _ _›)))
          · (repeat' (first | with_reducible exact Ext.refl _ | with_reducible assumption | with_reducible apply Ext.alloc_r | with_reducible apply Ext.drew_r | with_reducible apply Ext.drewN_r | with_reducible apply Ext.set_r | with_reducible exact Nat.le_refl _ | omega | with_reducible refine Ext.trans ?_ ‹Ext _ _›))
    case rest =>
      have hcw := hcut
      obtain ⟨hc_0, hc_1⟩ := hcw
      obtain ⟨sx, Ax, cx, Lx, ⟨bkx, rfl, ccx⟩, x, xxx⟩ := hc_0
      obtain ⟨sy, Ay, cy, Ly, ⟨bky, rfl, ccy⟩, y, xxy⟩ := hc_1
      have x4 := xxx
      clear xxx
      clear xxy
      replace e0_0 := x4.cell e0_0
      replace e0_1 := x4.cell e0_1
      replace e1_0 := x4.cell e1_0
      replace e1_1 := x4.cell e1_1
      have x_0 := ccx 0 (.bool sx) rfl
      have x_1 := ccx 1 (.slice Ax Lx cx) rfl
      clear ccx
      have y_0 := ccy 0 (.bool sy) rfl
      have y_1 := ccy 1 (.slice Ay Ly cy) rfl
      clear ccy
      obtain ⟨D1, hD1⟩ : ∃ D, D = (fmtL 10 (z1.natAbs : Int)).length := ⟨_, rfl⟩
      obtain ⟨D2, hD2⟩ : ∃ D, D = (fmtL 10 (z2.natAbs : Int)).length := ⟨_, rfl⟩
      obtain ⟨K, hK⟩ : ∃ K, K = cmpZ (z1.natAbs : Int) (z2.natAbs : Int) := ⟨_, rfl⟩
      obtain ⟨B, hB⟩ : ∃ B, decide ((z1.natAbs : Int) < (z2.natAbs : Int)) = B := ⟨_, rfl⟩
      have hKB : decide (K < 0) = B := by rw [hK, cmpZ_lt_iff, hB]
      have HG1 : Hid (∀ w', Ext wc w' → Calls Try.prog 15 #[.agg #[.bool sx, .slice Ax Lx cx]] w' fun e w'' => e = .returned (.int .i64 D1) ∧ Ext w' w'') := fun w' hx => by
        have := Digits_z (x.zv.ext hx) (by rw [Int.natAbs_natCast]; omega)
        rwa [Int.natAbs_natCast, ← hD1] at this
      have HG2 : Hid (∀ w', Ext wc w' → Calls Try.prog 15 #[.agg #[.bool sy, .slice Ay Ly cy]] w' fun e w'' => e = .returned (.int .i64 D2) ∧ Ext w' w'') := fun w' hx => by
        have := Digits_z (y.zv.ext hx) (by rw [Int.natAbs_natCast]; omega)
        rwa [Int.natAbs_natCast, ← hD2] at this
      have HF1 : Hid (∀ w', Ext wc w' → Calls Try.prog 14 #[.agg #[.bool sx, .slice Ax Lx cx]] w' (RetS w' (fmtL 10 (z1.natAbs : Int)))) := fun w' hx => Format_z (x.zv.ext hx) (by rw [Int.natAbs_natCast]; omega)
      have HF2 : Hid (∀ w', Ext wc w' → Calls Try.prog 14 #[.agg #[.bool sy, .slice Ay Ly cy]] w' (RetS w' (fmtL 10 (z2.natAbs : Int)))) := fun w' hx => Format_z (y.zv.ext hx) (by rw [Int.natAbs_natCast]; omega)
      have HC : Hid (∀ w', Ext wc w' → Calls Try.prog 17 #[.agg #[.bool sx, .slice Ax Lx cx], .agg #[.bool sy, .slice Ay Ly cy]] w' fun e w'' => e = .returned (.int .i64 K) ∧ Ext w' w'') := fun w' hx => by
        rw [hK]
        exact cmp_z (x.zv.ext hx) (y.zv.ext hx)
      have HD1 := Lib.hid hD1
      have HD2 := Lib.hid hD2
      have HB := Lib.hid hB
      have HK := Lib.hid hK
      clear hD1 hD2 hB hK
      go_wp2_with fail
      have HK : Hid (∀ w', Ext wc w' → Ext wc w' ∧ w'.cell? ⟨w.heap.size, 0, none⟩ = some (.bool s1) ∧ w'.cell? ⟨w.heap.size, 1, none⟩ = some (.slice A1 L1 c1) ∧ w'.cell? ⟨w.heap.size + 1, 0, none⟩ = some (.bool s2) ∧ w'.cell? ⟨w.heap.size + 1, 1, none⟩ = some (.slice A2 L2 c2) ∧ w'.cell? ⟨bkx, 0, none⟩ = some (.bool sx) ∧ w'.cell? ⟨bkx, 1, none⟩ = some (.slice Ax Lx cx) ∧ w'.cell? ⟨bky, 0, none⟩ = some (.bool sy) ∧ w'.cell? ⟨bky, 1, none⟩ = some (.slice Ay Ly cy)) := fun w' hk => ⟨hk, hk.cell e0_0, hk.cell e0_1, hk.cell e1_0, hk.cell e1_1, hk.cell x_0, hk.cell x_1, hk.cell y_0, hk.cell y_1⟩
      first
      | go_region_held3 (fun w' => Ext wc w' ∧ w'.cell? ⟨w.heap.size, 0, none⟩ = some (.bool s1) ∧ w'.cell? ⟨w.heap.size, 1, none⟩ = some (.slice A1 L1 c1) ∧ w'.cell? ⟨w.heap.size + 1, 0, none⟩ = some (.bool s2) ∧ w'.cell? ⟨w.heap.size + 1, 1, none⟩ = some (.slice A2 L2 c2) ∧ w'.cell? ⟨bkx, 0, none⟩ = some (.bool sx) ∧ w'.cell? ⟨bkx, 1, none⟩ = some (.slice Ax Lx cx) ∧ w'.cell? ⟨bky, 0, none⟩ = some (.bool sy) ∧ w'.cell? ⟨bky, 1, none⟩ = some (.slice Ay Ly cy))
          ((refine HK.out _ ?_; (repeat' (first | with_reducible exact Ext.refl _ | with_reducible assumption | with_reducible apply Ext.alloc_r | with_reducible apply Ext.drew_r | with_reducible apply Ext.drewN_r | with_reducible refine Ext.trans ?_ ‹Ext _ _›))))
          (first
            | (go_at_call_of 15 (#[Value.agg #[.bool sy, .slice Ay Ly cy]]); refine (HG2.out _ (by repeat' (first | with_reducible exact Ext.refl _ | with_reducible assumption | with_reducible apply Ext.alloc_r | with_reducible apply Ext.drew_r | with_reducible apply Ext.drewN_r | with_reducible refine Ext.trans ?_ ‹Ext _ _›))).mono ?_; rintro e w6 ⟨rfl, x6⟩)
            | (go_at_call_of 15 (#[Value.agg #[.bool sx, .slice Ax Lx cx]]); refine (HG1.out _ (by repeat' (first | with_reducible exact Ext.refl _ | with_reducible assumption | with_reducible apply Ext.alloc_r | with_reducible apply Ext.drew_r | with_reducible apply Ext.drewN_r | with_reducible refine Ext.trans ?_ ‹Ext _ _›))).mono ?_; rintro e w5 ⟨rfl, x5⟩))
      | fail
      clear HK
      have xh : Ext wc w6 := (by repeat' (first | with_reducible exact Ext.refl _ | with_reducible assumption | with_reducible apply Ext.alloc_r | with_reducible apply Ext.drew_r | with_reducible apply Ext.drewN_r | with_reducible refine Ext.trans ?_ ‹Ext _ _›))
      replace e0_0 := xh.cell e0_0
      replace e0_1 := xh.cell e0_1
      replace e1_0 := xh.cell e1_0
      replace e1_1 := xh.cell e1_1
      replace x_0 := xh.cell x_0
      replace x_1 := xh.cell x_1
      replace y_0 := xh.cell y_0
      replace y_1 := xh.cell y_1
      clear xh
      go_wp2_with fail
      refine (HC.out _ (by repeat' (first | with_reducible exact Ext.refl _ | with_reducible assumption | with_reducible apply Ext.alloc_r | with_reducible apply Ext.drew_r | with_reducible apply Ext.drewN_r | with_reducible refine Ext.trans ?_ ‹Ext _ _›))).mono ?_
      rintro e w7 ⟨rfl, x7⟩
      replace e0_0 := x7.cell e0_0
      replace e0_1 := x7.cell e0_1
      replace e1_0 := x7.cell e1_0
      replace e1_1 := x7.cell e1_1
      replace x_0 := x7.cell x_0
      replace x_1 := x7.cell x_1
      replace y_0 := x7.cell y_0
      replace y_1 := x7.cell y_1
      go_wp2_with fail
      · have hq := ‹((D1 : Int) != (D2 : Int)) = true›
        have hne : D1 ≠ D2 := by rw [bne_iff_ne] at hq; omega
        have hlt : decide (D1 < D2) = B := by
          rw [← HB.out, decide_eq_decide]
          rcases Nat.lt_or_ge D1 D2 with h | h
          · have := fmt_len_lt (b := 10) (m := z1.natAbs) (n := z2.natAbs) (by omega) (by rw [← HD1.out, ← HD2.out]; exact h)
            omega
          · have := fmt_len_lt (b := 10) (m := z2.natAbs) (n := z1.natAbs) (by omega) (by rw [← HD1.out, ← HD2.out]; omega)
            omega
        go_ret
        exact ⟨by show Ending.returned (.bool (decide (D1 < D2) == B)) = _; rw [hlt]; simp, (by repeat' (first | with_reducible exact Ext.refl _ | with_reducible assumption | with_reducible apply Ext.alloc_r | with_reducible apply Ext.drew_r | with_reducible apply Ext.drewN_r | with_reducible refine Ext.trans ?_ ‹Ext _ _›))⟩
      · have hq := ‹((D1 : Int) != (D2 : Int)) = false›
        have hne : D1 = D2 := by rw [bne_eq_false_iff_eq] at hq; omega
        have HNE := Lib.hid hne
        clear hne hq
        go_wp2_with fail
        have HK : Hid (∀ w', Ext w7 w' → Ext w7 w' ∧ w'.cell? ⟨w.heap.size, 0, none⟩ = some (.bool s1) ∧ w'.cell? ⟨w.heap.size, 1, none⟩ = some (.slice A1 L1 c1) ∧ w'.cell? ⟨w.heap.size + 1, 0, none⟩ = some (.bool s2) ∧ w'.cell? ⟨w.heap.size + 1, 1, none⟩ = some (.slice A2 L2 c2) ∧ w'.cell? ⟨bkx, 0, none⟩ = some (.bool sx) ∧ w'.cell? ⟨bkx, 1, none⟩ = some (.slice Ax Lx cx) ∧ w'.cell? ⟨bky, 0, none⟩ = some (.bool sy) ∧ w'.cell? ⟨bky, 1, none⟩ = some (.slice Ay Ly cy)) := fun w' hk => ⟨hk, hk.cell e0_0, hk.cell e0_1, hk.cell e1_0, hk.cell e1_1, hk.cell x_0, hk.cell x_1, hk.cell y_0, hk.cell y_1⟩
        first
        | go_region_held3 (fun w' => Ext w7 w' ∧ w'.cell? ⟨w.heap.size, 0, none⟩ = some (.bool s1) ∧ w'.cell? ⟨w.heap.size, 1, none⟩ = some (.slice A1 L1 c1) ∧ w'.cell? ⟨w.heap.size + 1, 0, none⟩ = some (.bool s2) ∧ w'.cell? ⟨w.heap.size + 1, 1, none⟩ = some (.slice A2 L2 c2) ∧ w'.cell? ⟨bkx, 0, none⟩ = some (.bool sx) ∧ w'.cell? ⟨bkx, 1, none⟩ = some (.slice Ax Lx cx) ∧ w'.cell? ⟨bky, 0, none⟩ = some (.bool sy) ∧ w'.cell? ⟨bky, 1, none⟩ = some (.slice Ay Ly cy))
            ((refine HK.out _ ?_; (repeat' (first | with_reducible exact Ext.refl _ | with_reducible assumption | with_reducible apply Ext.alloc_r | with_reducible apply Ext.drew_r | with_reducible apply Ext.drewN_r | with_reducible refine Ext.trans ?_ ‹Ext _ _›))))
            (first
              | (go_at_call_of 14 (#[Value.agg #[.bool sy, .slice Ay Ly cy]]); have hgd := f; clear hgd; refine (HF2.out _ (by repeat' (first | with_reducible exact Ext.refl _ | with_reducible assumption | with_reducible apply Ext.alloc_r | with_reducible apply Ext.drew_r | with_reducible apply Ext.drewN_r | with_reducible refine Ext.trans ?_ ‹Ext _ _›))).mono ?_; rintro e w9 ⟨tg, rfl, g, x9⟩)
              | (go_at_call_of 14 (#[Value.agg #[.bool sx, .slice Ax Lx cx]]); refine (HF1.out _ (by repeat' (first | with_reducible exact Ext.refl _ | with_reducible assumption | with_reducible apply Ext.alloc_r | with_reducible apply Ext.drew_r | with_reducible apply Ext.drewN_r | with_reducible refine Ext.trans ?_ ‹Ext _ _›))).mono ?_; rintro e w8 ⟨tf, rfl, f, x8⟩))
        | fail
        clear HK
        have xh : Ext w7 w9 := (by repeat' (first | with_reducible exact Ext.refl _ | with_reducible assumption | with_reducible apply Ext.alloc_r | with_reducible apply Ext.drew_r | with_reducible apply Ext.drewN_r | with_reducible refine Ext.trans ?_ ‹Ext _ _›))
        replace e0_0 := xh.cell e0_0
        replace e0_1 := xh.cell e0_1
        replace e1_0 := xh.cell e1_0
        replace e1_1 := xh.cell e1_1
        replace x_0 := xh.cell x_0
        replace x_1 := xh.cell x_1
        replace y_0 := xh.cell y_0
        replace y_1 := xh.cell y_1
        clear xh
        have hlt : Op.bytesLess tf.toList tg.toList = B := by
          rw [bytesLess_bs, f, g, ← HB.out, decide_eq_decide, fmt_lt (by omega) (by omega) (by rw [← HD1.out, ← HD2.out, HNE.out])]
          omega
        obtain ⟨E, hE⟩ : ∃ E, (tf.toList == tg.toList) = E := ⟨_, rfl⟩
        have hKE : (K == 0) = E := by
          rw [← hE, bs_eq, f, g, HK.out, cmpZ_eq0, Bool.eq_iff_iff, beq_iff_eq, decide_eq_true_iff]
          exact ⟨fun h => by rw [h], fun h => fmtL_inj (by omega) (by omega) h⟩
        clear HK HD1 HD2 HB
        go_wp2_with fail
        go_ret
        exact ⟨rfl, (by repeat' (first | with_reducible exact Ext.refl _ | with_reducible assumption | with_reducible apply Ext.alloc_r | with_reducible apply Ext.drew_r | with_reducible apply Ext.drewN_r | with_reducible refine Ext.trans ?_ ‹Ext _ _›))⟩
  · by_cases hf1 : L1 ≤ 20
    · have hf2 : 20 < L2 := by omega
      go_enter Try.func4, Try.ntmps4
      go_wp2_with fail
      obtain ⟨w0, hw0⟩ : ∃ z : World, z = ((w.alloc (.cells #[.bool s1, .slice A1 L1 c1] 25)).alloc (.cells #[.bool s2, .slice A2 L2 c2] 25)) := ⟨_, rfl⟩
      rw [← hw0]
      have b0 := box_at w #[.bool s1, .slice A1 L1 c1] 25
      have b1 := box_at (w.alloc (.cells #[.bool s1, .slice A1 L1 c1] 25)) #[.bool s2, .slice A2 L2 c2] 25
      have hsz : w0.heap.size = w.heap.size + 1 + 1 := by rw [hw0]; simp
      rw [← hw0] at b1
      have y1 : Ext (w.alloc (.cells #[.bool s1, .slice A1 L1 c1] 25)) w0 := by rw [hw0]; exact Ext.alloc _ _
      have y0 : Ext w w0 := (Ext.alloc _ _).trans y1
      have x0 : Ext w w0 := y0
      have e0_0 := y1.cell (b0.1 0 (.bool s1) rfl)
      have e0_1 := y1.cell (b0.1 1 (.slice A1 L1 c1) rfl)
      have e1_0 := b1.1 0 (.bool s2) rfl
      have e1_1 := b1.1 1 (.slice A2 L2 c2) rfl
      simp only [World.size_alloc] at e1_0 e1_1
      clear hw0 b0 b1 y0 y1
      go_wp2_with fail
      refine (lawake4 _).mono ?_
      rintro e w1 ⟨rfl, x1⟩
      replace e0_0 := x1.cell e0_0
      replace e0_1 := x1.cell e0_1
      replace e1_0 := x1.cell e1_0
      replace e1_1 := x1.cell e1_1
      go_wp2_with fail
      refine (lawake4 _).mono ?_
      rintro e w2 ⟨rfl, x2⟩
      replace e0_0 := x2.cell e0_0
      replace e0_1 := x2.cell e0_1
      replace e1_0 := x2.cell e1_0
      replace e1_1 := x2.cell e1_1
      go_wp2_with fail
      go_ret
      exact ⟨rfl, (by repeat' (first | with_reducible exact Ext.refl _ | with_reducible assumption | with_reducible apply Ext.alloc_r | with_reducible apply Ext.drew_r | with_reducible apply Ext.drewN_r | with_reducible refine Ext.trans ?_ ‹Ext _ _›))⟩
    · have hf2 : 20 < L1 := by omega
      clear hf1
      go_enter Try.func4, Try.ntmps4
      go_wp2_with fail
      obtain ⟨w0, hw0⟩ : ∃ z : World, z = ((w.alloc (.cells #[.bool s1, .slice A1 L1 c1] 25)).alloc (.cells #[.bool s2, .slice A2 L2 c2] 25)) := ⟨_, rfl⟩
      rw [← hw0]
      have b0 := box_at w #[.bool s1, .slice A1 L1 c1] 25
      have b1 := box_at (w.alloc (.cells #[.bool s1, .slice A1 L1 c1] 25)) #[.bool s2, .slice A2 L2 c2] 25
      have hsz : w0.heap.size = w.heap.size + 1 + 1 := by rw [hw0]; simp
      rw [← hw0] at b1
      have y1 : Ext (w.alloc (.cells #[.bool s1, .slice A1 L1 c1] 25)) w0 := by rw [hw0]; exact Ext.alloc _ _
      have y0 : Ext w w0 := (Ext.alloc _ _).trans y1
      have x0 : Ext w w0 := y0
      have e0_0 := y1.cell (b0.1 0 (.bool s1) rfl)
      have e0_1 := y1.cell (b0.1 1 (.slice A1 L1 c1) rfl)
      have e1_0 := b1.1 0 (.bool s2) rfl
      have e1_1 := b1.1 1 (.slice A2 L2 c2) rfl
      simp only [World.size_alloc] at e1_0 e1_1
      clear hw0 b0 b1 y0 y1
      go_wp2_with fail
      refine (lawake4 _).mono ?_
      rintro e w1 ⟨rfl, x1⟩
      replace e0_0 := x1.cell e0_0
      replace e0_1 := x1.cell e0_1
      replace e1_0 := x1.cell e1_0
      replace e1_1 := x1.cell e1_1
      go_wp2_with fail
      refine (lawake4 _).mono ?_
      rintro e w2 ⟨rfl, x2⟩
      replace e0_0 := x2.cell e0_0
      replace e0_1 := x2.cell e0_1
      replace e1_0 := x2.cell e1_0
      replace e1_1 := x2.cell e1_1
      go_wp2_with fail
      go_ret
      exact ⟨rfl, (by repeat' (first | with_reducible exact Ext.refl _ | with_reducible assumption | with_reducible apply Ext.alloc_r | with_reducible apply Ext.drew_r | with_reducible apply Ext.drewN_r | with_reducible refine Ext.trans ?_ ‹Ext _ _›))⟩
end Go.Proofs.Ytjhknnioefipmaa
