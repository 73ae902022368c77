/- The walk of RationalQuotients. -/
import Derived.Test.YtfnmbhjifdfibaaLaw5c
import Derived.Test.YtfnmbhjifdfibaaKept
namespace Go.Proofs.Ytfnmbhjifdfibaa
open Go.RowKit
set_option maxHeartbeats 40000000 in
set_option maxRecDepth 100000 in
theorem rationalQuotients_walk {w : World} {s1 : Bool} {A1 B1 : Option Addr} {c1 L1 d1 M1 : Nat} {x1 : Int} {y1 : Nat} {s2 : Bool} {A2 B2 : Option Addr} {c2 L2 d2 M2 : Nat} {x2 : Int} {y2 : Nat} (h1 : RW w s1 A1 c1 L1 B1 d1 M1 x1 y1) (h2 : RW w s2 A2 c2 L2 B2 d2 M2 x2 y2) :
    Calls Try.prog 5 #[Value.agg #[Value.bool s1, Value.slice A1 L1 c1, Value.slice B1 M1 d1], Value.agg #[Value.bool s2, Value.slice A2 L2 c2, Value.slice B2 M2 d2]] w fun e w' => e = .returned (.bool true) ∧ Ext w w' := by
  have pa1 := h1.num.nv.cap
  have pb1 := h1.den.cap
  have qa1 := h1.num.nv.le
  have qb1 := h1.den.le
  have pa2 := h2.num.nv.cap
  have pb2 := h2.den.cap
  have qa2 := h2.num.nv.le
  have qb2 := h2.den.le
  by_cases hf : L1 ≤ 6 ∧ M1 ≤ 6 ∧ L2 ≤ 6 ∧ M2 ≤ 6
  · have e1 := h1.rv (N := 6) (by omega) (by omega) (by omega)
    have e2 := h2.rv (N := 6) (by omega) (by omega) (by omega)
    have HF : Hid (((decide (L1 ≤ 6) && (decide (M1 ≤ 6) && decide (L2 ≤ 6))) && (decide (M2 ≤ 6) && (decide (L1 ≤ 6) && decide (M1 ≤ 6)))) = true) := by show _ = _; simp only [decide_eq_true_eq, Bool.and_eq_true]; omega
    have HO1 : Hid (∀ w', Ext w w' → Calls Try.prog 16 #[Value.agg #[Value.bool s1, Value.slice A1 L1 c1, Value.slice B1 M1 d1]] w' (RetQ w' 192 (mkRat x1 y1))) := fun w' hx => lof5 (h1.ext hx) (by omega) (by omega) (by omega) (by omega)
    generalize mkRat x1 y1 = q1 at *
    have HO2 : Hid (∀ w', Ext w w' → Calls Try.prog 16 #[Value.agg #[Value.bool s2, Value.slice A2 L2 c2, Value.slice B2 M2 d2]] w' (RetQ w' 192 (mkRat x2 y2))) := fun w' hx => lof5 (h2.ext hx) (by omega) (by omega) (by omega) (by omega)
    generalize mkRat x2 y2 = q2 at *
    clear hf h1 h2
    go_enter Try.func5, Try.ntmps5
    go_wp2_with fail
    obtain ⟨w0, hw0⟩ : ∃ z : World, z = ((w.alloc (.cells #[.bool s1, .slice A1 L1 c1, .slice B1 M1 d1] 27)).alloc (.cells #[.bool s2, .slice A2 L2 c2, .slice B2 M2 d2] 27)) := ⟨_, rfl⟩
    rw [← hw0]
    have b0 := box_at w #[.bool s1, .slice A1 L1 c1, .slice B1 M1 d1] 27
    have b1 := box_at (w.alloc (.cells #[.bool s1, .slice A1 L1 c1, .slice B1 M1 d1] 27)) #[.bool s2, .slice A2 L2 c2, .slice B2 M2 d2] 27
    have hsz : w0.heap.size = w.heap.size + 1 + 1 := by rw [hw0]; simp
    rw [← hw0] at b1
    have y1 : Ext (w.alloc (.cells #[.bool s1, .slice A1 L1 c1, .slice B1 M1 d1] 27)) w0 := by rw [hw0]; exact Ext.alloc _ _
    have y0 : Ext w w0 := (Ext.alloc _ _).trans y1
    have x0 : Ext w w0 := y0
    have e0_0 := y1.cell (b0.1 0 (.bool s1) rfl)
    have e0_1 := y1.cell (b0.1 1 (.slice A1 L1 c1) rfl)
    have e0_2 := y1.cell (b0.1 2 (.slice B1 M1 d1) rfl)
    have e1_0 := b1.1 0 (.bool s2) rfl
    have e1_1 := b1.1 1 (.slice A2 L2 c2) rfl
    have e1_2 := b1.1 2 (.slice B2 M2 d2) rfl
    simp only [World.size_alloc] at e1_0 e1_1 e1_2
    clear hw0 b0 b1 y0 y1
    go_wp2_with fail
    refine (awake5 _).mono ?_
    rintro e w1 ⟨rfl, x1⟩
    replace e0_0 := x1.cell e0_0
    replace e0_1 := x1.cell e0_1
    replace e0_2 := x1.cell e0_2
    replace e1_0 := x1.cell e1_0
    replace e1_1 := x1.cell e1_1
    replace e1_2 := x1.cell e1_2
    go_wp2_with fail
    refine (few5 (n := 6) (by omega) (by omega) (by omega) (by omega) (by omega) (by omega)).mono ?_
    rintro e w2 ⟨rfl, x2⟩
    replace e0_0 := x2.cell e0_0
    replace e0_1 := x2.cell e0_1
    replace e0_2 := x2.cell e0_2
    replace e1_0 := x2.cell e1_0
    replace e1_1 := x2.cell e1_1
    replace e1_2 := x2.cell e1_2
    rw [HF.out]
    clear hsz
    go_wp2_with fail
    go_cut [5, 6] (fun s5 s6 wx => PutQ w2 wx 192 q1 s5 ∧ PutQ w2 wx 192 q2 s6)
    case first =>
      have HK : Hid (∀ w', Ext w2 w' → Ext w2 w' ∧ w'.cell? ⟨w.heap.size, 0, none⟩ = some (.bool s1) ∧ w'.cell? ⟨w.heap.size, 1, none⟩ = some (.slice A1 L1 c1) ∧ w'.cell? ⟨w.heap.size, 2, none⟩ = some (.slice B1 M1 d1) ∧ w'.cell? ⟨w.heap.size + 1, 0, none⟩ = some (.bool s2) ∧ w'.cell? ⟨w.heap.size + 1, 1, none⟩ = some (.slice A2 L2 c2) ∧ w'.cell? ⟨w.heap.size + 1, 2, none⟩ = some (.slice B2 M2 d2)) := fun w' hk => ⟨hk, hk.cell e0_0, hk.cell e0_1, hk.cell e0_2, hk.cell e1_0, hk.cell e1_1, hk.cell e1_2⟩
      first
      | go_region_held3 (fun w' => Ext w2 w' ∧ w'.cell? ⟨w.heap.size, 0, none⟩ = some (.bool s1) ∧ w'.cell? ⟨w.heap.size, 1, none⟩ = some (.slice A1 L1 c1) ∧ w'.cell? ⟨w.heap.size, 2, none⟩ = some (.slice B1 M1 d1) ∧ w'.cell? ⟨w.heap.size + 1, 0, none⟩ = some (.bool s2) ∧ w'.cell? ⟨w.heap.size + 1, 1, none⟩ = some (.slice A2 L2 c2) ∧ w'.cell? ⟨w.heap.size + 1, 2, none⟩ = some (.slice B2 M2 d2))
          ((with_reducible refine HK.out _ ?_; (repeat' (first | with_reducible exact Ext.refl _ | with_reducible assumption | with_reducible apply Ext.alloc_r | with_reducible apply Ext.drew_r | with_reducible apply Ext.drewN_r | with_reducible apply Ext.set_r | with_reducible exact Nat.le_refl _ | omega | with_reducible refine Ext.trans ?_ ‹Ext _ _›))))
          (first
            | (go_at_call_of 16 (#[Value.agg #[Value.bool s2, Value.slice A2 L2 c2, Value.slice B2 M2 d2]]); have hgd := oa; clear hgd; refine (HO2.out _ (by repeat' (first | with_reducible exact Ext.refl _ | with_reducible assumption | with_reducible apply Ext.alloc_r | with_reducible apply Ext.drew_r | with_reducible apply Ext.drewN_r | with_reducible refine Ext.trans ?_ ‹Ext _ _›))).mono ?_; rintro e w4 ⟨gob, Aob, cob, Lob, hob, Bob, dob, Mob, rfl, ob, x4⟩; (have zs4 := x4.size); (try simp only [World.size_alloc] at zs4); (try ((with_reducible have h4_0 := box_ext (vs := #[.int .i64 0, .slice none 0 0, .int .i64 0, .slice none 0 0]) x4); have h4_0c0 := (h4_0.1 0 (.int .i64 0) rfl).1; have h4_0f0 := (h4_0.1 0 (.int .i64 0) rfl).2; have h4_0c1 := (h4_0.1 1 (.slice none 0 0) rfl).1; have h4_0f1 := (h4_0.1 1 (.slice none 0 0) rfl).2; have h4_0c2 := (h4_0.1 2 (.int .i64 0) rfl).1; have h4_0f2 := (h4_0.1 2 (.int .i64 0) rfl).2; have h4_0c3 := (h4_0.1 3 (.slice none 0 0) rfl).1; have h4_0f3 := (h4_0.1 3 (.slice none 0 0) rfl).2; have h4_0b := h4_0.2.1; have h4_0z := h4_0.2.2; (try simp only [World.size_alloc] at h4_0b h4_0z h4_0c0 h4_0f0 h4_0c1 h4_0f1 h4_0c2 h4_0f2 h4_0c3 h4_0f3); have h4_0m := Nat.ne_of_lt h4_0z; have h4_0n := Nat.ne_of_gt h4_0z; clear h4_0)); (try ((with_reducible have h4_1 := box_ext (vs := #[.int .i64 0, .slice none 0 0, .int .i64 0, .slice none 0 0]) ((Ext.alloc _ _).trans x4)); have h4_1c0 := (h4_1.1 0 (.int .i64 0) rfl).1; have h4_1f0 := (h4_1.1 0 (.int .i64 0) rfl).2; have h4_1c1 := (h4_1.1 1 (.slice none 0 0) rfl).1; have h4_1f1 := (h4_1.1 1 (.slice none 0 0) rfl).2; have h4_1c2 := (h4_1.1 2 (.int .i64 0) rfl).1; have h4_1f2 := (h4_1.1 2 (.int .i64 0) rfl).2; have h4_1c3 := (h4_1.1 3 (.slice none 0 0) rfl).1; have h4_1f3 := (h4_1.1 3 (.slice none 0 0) rfl).2; have h4_1b := h4_1.2.1; have h4_1z := h4_1.2.2; (try simp only [World.size_alloc] at h4_1b h4_1z h4_1c0 h4_1f0 h4_1c1 h4_1f1 h4_1c2 h4_1f2 h4_1c3 h4_1f3); have h4_1m := Nat.ne_of_lt h4_1z; have h4_1n := Nat.ne_of_gt h4_1z; clear h4_1)); (try (have hh : Ext w3 w4 := ?g400; (case g400 => ((repeat' (first | with_reducible exact Ext.refl _ | with_reducible assumption | with_reducible apply Ext.alloc_r | with_reducible apply Ext.drew_r | with_reducible apply Ext.drewN_r | with_reducible refine Ext.trans ?_ ‹Ext _ _›)); done)); replace h3_0f0 := hh.frozen h3_0c0 h3_0f0; replace h3_0c0 := hh.cell h3_0c0; replace h3_0f1 := hh.frozen h3_0c1 h3_0f1; replace h3_0c1 := hh.cell h3_0c1; replace h3_0f2 := hh.frozen h3_0c2 h3_0f2; replace h3_0c2 := hh.cell h3_0c2; replace h3_0f3 := hh.frozen h3_0c3 h3_0f3; replace h3_0c3 := hh.cell h3_0c3; replace h3_0b := h3_0b.ext hh; have h3_0z2 := Nat.lt_of_lt_of_le h3_0z hh.size; have h3_0m2 := Nat.ne_of_lt h3_0z2; have h3_0n2 := Nat.ne_of_gt h3_0z2; clear hh)); (try (have hh : Ext w3 w4 := ?g401; (case g401 => ((repeat' (first | with_reducible exact Ext.refl _ | with_reducible assumption | with_reducible apply Ext.alloc_r | with_reducible apply Ext.drew_r | with_reducible apply Ext.drewN_r | with_reducible refine Ext.trans ?_ ‹Ext _ _›)); done)); replace h3_1f0 := hh.frozen h3_1c0 h3_1f0; replace h3_1c0 := hh.cell h3_1c0; replace h3_1f1 := hh.frozen h3_1c1 h3_1f1; replace h3_1c1 := hh.cell h3_1c1; replace h3_1f2 := hh.frozen h3_1c2 h3_1f2; replace h3_1c2 := hh.cell h3_1c2; replace h3_1f3 := hh.frozen h3_1c3 h3_1f3; replace h3_1c3 := hh.cell h3_1c3; replace h3_1b := h3_1b.ext hh; have h3_1z2 := Nat.lt_of_lt_of_le h3_1z hh.size; have h3_1m2 := Nat.ne_of_lt h3_1z2; have h3_1n2 := Nat.ne_of_gt h3_1z2; clear hh)))
            | (go_at_call_of 16 (#[Value.agg #[Value.bool s1, Value.slice A1 L1 c1, Value.slice B1 M1 d1]]); refine (HO1.out _ (by repeat' (first | with_reducible exact Ext.refl _ | with_reducible assumption | with_reducible apply Ext.alloc_r | with_reducible apply Ext.drew_r | with_reducible apply Ext.drewN_r | with_reducible refine Ext.trans ?_ ‹Ext _ _›))).mono ?_; rintro e w3 ⟨goa, Aoa, coa, Loa, hoa, Boa, doa, Moa, rfl, oa, x3⟩; (have zs3 := x3.size); (try simp only [World.size_alloc, World.size_drew] at zs3); (try ((with_reducible have h3_0 := box_ext (vs := #[.int .i64 0, .slice none 0 0, .int .i64 0, .slice none 0 0]) ((Ext.drew _).trans x3)); have h3_0c0 := (h3_0.1 0 (.int .i64 0) rfl).1; have h3_0f0 := (h3_0.1 0 (.int .i64 0) rfl).2; have h3_0c1 := (h3_0.1 1 (.slice none 0 0) rfl).1; have h3_0f1 := (h3_0.1 1 (.slice none 0 0) rfl).2; have h3_0c2 := (h3_0.1 2 (.int .i64 0) rfl).1; have h3_0f2 := (h3_0.1 2 (.int .i64 0) rfl).2; have h3_0c3 := (h3_0.1 3 (.slice none 0 0) rfl).1; have h3_0f3 := (h3_0.1 3 (.slice none 0 0) rfl).2; have h3_0b := h3_0.2.1; have h3_0z := h3_0.2.2; (try simp only [World.size_alloc] at h3_0b h3_0z h3_0c0 h3_0f0 h3_0c1 h3_0f1 h3_0c2 h3_0f2 h3_0c3 h3_0f3); have h3_0m := Nat.ne_of_lt h3_0z; have h3_0n := Nat.ne_of_gt h3_0z; clear h3_0)); (try ((with_reducible have h3_1 := box_ext (vs := #[.int .i64 0, .slice none 0 0, .int .i64 0, .slice none 0 0]) (((Ext.alloc _ _).trans (Ext.drew _)).trans x3)); have h3_1c0 := (h3_1.1 0 (.int .i64 0) rfl).1; have h3_1f0 := (h3_1.1 0 (.int .i64 0) rfl).2; have h3_1c1 := (h3_1.1 1 (.slice none 0 0) rfl).1; have h3_1f1 := (h3_1.1 1 (.slice none 0 0) rfl).2; have h3_1c2 := (h3_1.1 2 (.int .i64 0) rfl).1; have h3_1f2 := (h3_1.1 2 (.int .i64 0) rfl).2; have h3_1c3 := (h3_1.1 3 (.slice none 0 0) rfl).1; have h3_1f3 := (h3_1.1 3 (.slice none 0 0) rfl).2; have h3_1b := h3_1.2.1; have h3_1z := h3_1.2.2; (try simp only [World.size_alloc] at h3_1b h3_1z h3_1c0 h3_1f0 h3_1c1 h3_1f1 h3_1c2 h3_1f2 h3_1c3 h3_1f3); have h3_1m := Nat.ne_of_lt h3_1z; have h3_1n := Nat.ne_of_gt h3_1z; clear h3_1))))
      | fail
      all_goals (clear HK; go_wp2_with fail; go_meet)
      all_goals
        refine ⟨?_, ?_⟩
        · refine PutQ.mk (g := goa) (A := Aoa) (c := coa) (L := Loa) (h := hoa) (B := Boa) (d := doa) (M := Moa) ?_ (oa.kept ?_) ?_
          · refine Bx.mk4 ?_ ?_ ?_ ?_
            · go_simp
            · go_simp
            · go_simp
            · go_simp
          · (repeat' (first | with_reducible exact Kept.refl _ | with_reducible apply Kept.alloc_r | with_reducible apply Kept.drew_r | (with_reducible apply Kept.setQ; (case hb => ((repeat' (first | with_reducible assumption | with_reducible apply IsBox.set_ | (with_reducible apply IsBox.new; (first | (with_reducible rfl) | simp); done) | with_reducible apply IsBox.alloc_ | with_reducible apply IsBox.drew_ | with_reducible refine IsBox.ext ?_ ‹Ext _ _›)); done))) | (with_reducible apply Kept.setR; (case hb => ((repeat' (first | with_reducible assumption | with_reducible apply IsBox.set_ | (with_reducible apply IsBox.new; (first | (with_reducible rfl) | simp); done) | with_reducible apply IsBox.alloc_ | with_reducible apply IsBox.drew_ | with_reducible refine IsBox.ext ?_ ‹Ext _ _›)); done))) | (with_reducible apply Kept.setZ; (case hb => ((repeat' (first | with_reducible assumption | with_reducible apply IsBox.set_ | (with_reducible apply IsBox.new; (first | (with_reducible rfl) | simp); done) | with_reducible apply IsBox.alloc_ | with_reducible apply IsBox.drew_ | with_reducible refine IsBox.ext ?_ ‹Ext _ _›)); done))) | (with_reducible apply Kept.setI; (case hb => ((repeat' (first | with_reducible assumption | with_reducible apply IsBox.set_ | (with_reducible apply IsBox.new; (first | (with_reducible rfl) | simp); done) | with_reducible apply IsBox.alloc_ | with_reducible apply IsBox.drew_ | with_reducible refine IsBox.ext ?_ ‹Ext _ _›)); done))) | with_reducible refine Kept.trans ?_ (Ext.kept ‹Ext _ _›)))
          · (repeat' (first | with_reducible exact Ext.refl _ | with_reducible assumption | with_reducible apply Ext.alloc_r | with_reducible apply Ext.drew_r | with_reducible apply Ext.drewN_r | with_reducible apply Ext.set_r | with_reducible exact Nat.le_refl _ | omega | with_reducible refine Ext.trans ?_ ‹Ext _ _›))
        · refine PutQ.mk (g := gob) (A := Aob) (c := cob) (L := Lob) (h := hob) (B := Bob) (d := dob) (M := Mob) ?_ (ob.kept ?_) ?_
          · refine Bx.mk4 ?_ ?_ ?_ ?_
            · go_simp
            · go_simp
            · go_simp
            · go_simp
          · (repeat' (first | with_reducible exact Kept.refl _ | with_reducible apply Kept.alloc_r | with_reducible apply Kept.drew_r | (with_reducible apply Kept.setQ; (case hb => ((repeat' (first | with_reducible assumption | with_reducible apply IsBox.set_ | (with_reducible apply IsBox.new; (first | (with_reducible rfl) | simp); done) | with_reducible apply IsBox.alloc_ | with_reducible apply IsBox.drew_ | with_reducible refine IsBox.ext ?_ ‹Ext _ _›)); done))) | (with_reducible apply Kept.setR; (case hb => ((repeat' (first | with_reducible assumption | with_reducible apply IsBox.set_ | (with_reducible apply IsBox.new; (first | (with_reducible rfl) | simp); done) | with_reducible apply IsBox.alloc_ | with_reducible apply IsBox.drew_ | with_reducible refine IsBox.ext ?_ ‹Ext _ _›)); done))) | (with_reducible apply Kept.setZ; (case hb => ((repeat' (first | with_reducible assumption | with_reducible apply IsBox.set_ | (with_reducible apply IsBox.new; (first | (with_reducible rfl) | simp); done) | with_reducible apply IsBox.alloc_ | with_reducible apply IsBox.drew_ | with_reducible refine IsBox.ext ?_ ‹Ext _ _›)); done))) | (with_reducible apply Kept.setI; (case hb => ((repeat' (first | with_reducible assumption | with_reducible apply IsBox.set_ | (with_reducible apply IsBox.new; (first | (with_reducible rfl) | simp); done) | with_reducible apply IsBox.alloc_ | with_reducible apply IsBox.drew_ | with_reducible refine IsBox.ext ?_ ‹Ext _ _›)); done))) | with_reducible refine Kept.trans ?_ (Ext.kept ‹Ext _ _›)))
          · (repeat' (first | with_reducible exact Ext.refl _ | with_reducible assumption | with_reducible apply Ext.alloc_r | with_reducible apply Ext.drew_r | with_reducible apply Ext.drewN_r | with_reducible apply Ext.set_r | with_reducible exact Nat.le_refl _ | omega | with_reducible refine Ext.trans ?_ ‹Ext _ _›))
    case rest =>
      have hcw := hcut
      obtain ⟨hc_0, hc_1⟩ := hcw
      obtain ⟨gx, Ax, cx, Lx, hx, Bx, dx, Mx, ⟨bkx, rfl, ccx⟩, x, xxx⟩ := hc_0
      obtain ⟨gy, Ay, cy, Ly, hy, By, dy, My, ⟨bky, rfl, ccy⟩, y, xxy⟩ := hc_1
      have x5 := xxx
      clear xxx
      clear xxy
      obtain ⟨wc5, rfl⟩ : ∃ z : World, z = wc := ⟨_, rfl⟩
      replace e0_0 := x5.cell e0_0
      replace e0_1 := x5.cell e0_1
      replace e0_2 := x5.cell e0_2
      replace e1_0 := x5.cell e1_0
      replace e1_1 := x5.cell e1_1
      replace e1_2 := x5.cell e1_2
      have x_0 := ccx 0 (.int .i64 gx) rfl
      have x_1 := ccx 1 (.slice Ax Lx cx) rfl
      have x_2 := ccx 2 (.int .i64 hx) rfl
      have x_3 := ccx 3 (.slice Bx Mx dx) rfl
      clear ccx
      have y_0 := ccy 0 (.int .i64 gy) rfl
      have y_1 := ccy 1 (.slice Ay Ly cy) rfl
      have y_2 := ccy 2 (.int .i64 hy) rfl
      have y_3 := ccy 3 (.slice By My dy) rfl
      clear ccy
      have hgx := x.sign
      have hgy := y.sign
      by_cases h2 : q2 = 0
      · have hg0 : (gy == 0) = true := by rw [hgy, h2]; rfl
        clear hgx hgy
        go_wp2_with fail
        refine (rquo_zero (e1.ext (by repeat' (first | with_reducible exact Ext.refl _ | with_reducible assumption | with_reducible apply Ext.alloc_r | with_reducible apply Ext.drew_r | with_reducible apply Ext.drewN_r | with_reducible refine Ext.trans ?_ ‹Ext _ _›))) (e2.ext (by repeat' (first | with_reducible exact Ext.refl _ | with_reducible assumption | with_reducible apply Ext.alloc_r | with_reducible apply Ext.drew_r | with_reducible apply Ext.drewN_r | with_reducible refine Ext.trans ?_ ‹Ext _ _›))) h2 (by omega) (by omega)).mono ?_
        rintro e w6 ⟨rfl, x6⟩
        replace e0_0 := x6.cell e0_0
        replace e0_1 := x6.cell e0_1
        replace e0_2 := x6.cell e0_2
        replace e1_0 := x6.cell e1_0
        replace e1_1 := x6.cell e1_1
        replace e1_2 := x6.cell e1_2
        replace x_0 := x6.cell x_0
        replace x_1 := x6.cell x_1
        replace x_2 := x6.cell x_2
        replace x_3 := x6.cell x_3
        replace y_0 := x6.cell y_0
        replace y_1 := x6.cell y_1
        replace y_2 := x6.cell y_2
        replace y_3 := x6.cell y_3
        clear h2
        have te0_0 := fun o => (Ext.alloc w6 o).cell e0_0
        have te0_1 := fun o => (Ext.alloc w6 o).cell e0_1
        have te0_2 := fun o => (Ext.alloc w6 o).cell e0_2
        have te1_0 := fun o => (Ext.alloc w6 o).cell e1_0
        have te1_1 := fun o => (Ext.alloc w6 o).cell e1_1
        have te1_2 := fun o => (Ext.alloc w6 o).cell e1_2
        have tx_0 := fun o => (Ext.alloc w6 o).cell x_0
        have tx_1 := fun o => (Ext.alloc w6 o).cell x_1
        have tx_2 := fun o => (Ext.alloc w6 o).cell x_2
        have tx_3 := fun o => (Ext.alloc w6 o).cell x_3
        have ty_0 := fun o => (Ext.alloc w6 o).cell y_0
        have ty_1 := fun o => (Ext.alloc w6 o).cell y_1
        have ty_2 := fun o => (Ext.alloc w6 o).cell y_2
        have ty_3 := fun o => (Ext.alloc w6 o).cell y_3
        go_wp2_with fail
        clear te0_0 te0_1 te0_2 te1_0 te1_1 te1_2 tx_0 tx_1 tx_2 tx_3 ty_0 ty_1 ty_2 ty_3
        obtain ⟨w7, hw⟩ : ∃ z : World, z = (w6.alloc (.cells #[.bool false, .slice none 0 0, .slice none 0 0] 27)) := ⟨_, rfl⟩
        rw [← hw]
        have x7 : Ext w6 w7 := by rw [hw]; exact Ext.alloc _ _
        have bb := box_at w6 #[.bool false, .slice none 0 0, .slice none 0 0] 27
        rw [← hw] at bb
        replace e0_0 := x7.cell e0_0
        replace e0_1 := x7.cell e0_1
        replace e0_2 := x7.cell e0_2
        replace e1_0 := x7.cell e1_0
        replace e1_1 := x7.cell e1_1
        replace e1_2 := x7.cell e1_2
        replace x_0 := x7.cell x_0
        replace x_1 := x7.cell x_1
        replace x_2 := x7.cell x_2
        replace x_3 := x7.cell x_3
        replace y_0 := x7.cell y_0
        replace y_1 := x7.cell y_1
        replace y_2 := x7.cell y_2
        replace y_3 := x7.cell y_3
        have qb_0 := bb.1 0 (.bool false) rfl
        have qb_1 := bb.1 1 (.slice none 0 0) rfl
        have qb_2 := bb.1 2 (.slice none 0 0) rfl
        clear hw bb
        go_wp2_with fail
        refine (small_rz (n := 1) (by omega)).mono ?_
        rintro e w8 ⟨gone, Aone, cone, Lone, rfl, one, x8⟩
        replace e0_0 := x8.cell e0_0
        replace e0_1 := x8.cell e0_1
        replace e0_2 := x8.cell e0_2
        replace e1_0 := x8.cell e1_0
        replace e1_1 := x8.cell e1_1
        replace e1_2 := x8.cell e1_2
        replace x_0 := x8.cell x_0
        replace x_1 := x8.cell x_1
        replace x_2 := x8.cell x_2
        replace x_3 := x8.cell x_3
        replace y_0 := x8.cell y_0
        replace y_1 := x8.cell y_1
        replace y_2 := x8.cell y_2
        replace y_3 := x8.cell y_3
        replace qb_0 := x8.cell qb_0
        replace qb_1 := x8.cell qb_1
        replace qb_2 := x8.cell qb_2
        go_wp2_with fail
        refine (small_rz (n := 2) (by omega)).mono ?_
        rintro e w9 ⟨gtwo, Atwo, ctwo, Ltwo, rfl, two, x9⟩
        replace e0_0 := x9.cell e0_0
        replace e0_1 := x9.cell e0_1
        replace e0_2 := x9.cell e0_2
        replace e1_0 := x9.cell e1_0
        replace e1_1 := x9.cell e1_1
        replace e1_2 := x9.cell e1_2
        replace x_0 := x9.cell x_0
        replace x_1 := x9.cell x_1
        replace x_2 := x9.cell x_2
        replace x_3 := x9.cell x_3
        replace y_0 := x9.cell y_0
        replace y_1 := x9.cell y_1
        replace y_2 := x9.cell y_2
        replace y_3 := x9.cell y_3
        replace qb_0 := x9.cell qb_0
        replace qb_1 := x9.cell qb_1
        replace qb_2 := x9.cell qb_2
        have te0_0 := fun o => (Ext.alloc w9 o).cell e0_0
        have te0_1 := fun o => (Ext.alloc w9 o).cell e0_1
        have te0_2 := fun o => (Ext.alloc w9 o).cell e0_2
        have te1_0 := fun o => (Ext.alloc w9 o).cell e1_0
        have te1_1 := fun o => (Ext.alloc w9 o).cell e1_1
        have te1_2 := fun o => (Ext.alloc w9 o).cell e1_2
        have tx_0 := fun o => (Ext.alloc w9 o).cell x_0
        have tx_1 := fun o => (Ext.alloc w9 o).cell x_1
        have tx_2 := fun o => (Ext.alloc w9 o).cell x_2
        have tx_3 := fun o => (Ext.alloc w9 o).cell x_3
        have ty_0 := fun o => (Ext.alloc w9 o).cell y_0
        have ty_1 := fun o => (Ext.alloc w9 o).cell y_1
        have ty_2 := fun o => (Ext.alloc w9 o).cell y_2
        have ty_3 := fun o => (Ext.alloc w9 o).cell y_3
        have tqb_0 := fun o => (Ext.alloc w9 o).cell qb_0
        have tqb_1 := fun o => (Ext.alloc w9 o).cell qb_1
        have tqb_2 := fun o => (Ext.alloc w9 o).cell qb_2
        go_wp2_with fail
        clear te0_0 te0_1 te0_2 te1_0 te1_1 te1_2 tx_0 tx_1 tx_2 tx_3 ty_0 ty_1 ty_2 ty_3 tqb_0 tqb_1 tqb_2
        obtain ⟨w10, hw⟩ : ∃ z : World, z = (w9.alloc (.cells #[.int .i64 gone, .slice Aone Lone cone, .int .i64 gtwo, .slice Atwo Ltwo ctwo] 38)) := ⟨_, rfl⟩
        rw [← hw]
        have x10 : Ext w9 w10 := by rw [hw]; exact Ext.alloc _ _
        have bb := box_at w9 #[.int .i64 gone, .slice Aone Lone cone, .int .i64 gtwo, .slice Atwo Ltwo ctwo] 38
        rw [← hw] at bb
        replace e0_0 := x10.cell e0_0
        replace e0_1 := x10.cell e0_1
        replace e0_2 := x10.cell e0_2
        replace e1_0 := x10.cell e1_0
        replace e1_1 := x10.cell e1_1
        replace e1_2 := x10.cell e1_2
        replace x_0 := x10.cell x_0
        replace x_1 := x10.cell x_1
        replace x_2 := x10.cell x_2
        replace x_3 := x10.cell x_3
        replace y_0 := x10.cell y_0
        replace y_1 := x10.cell y_1
        replace y_2 := x10.cell y_2
        replace y_3 := x10.cell y_3
        replace qb_0 := x10.cell qb_0
        replace qb_1 := x10.cell qb_1
        replace qb_2 := x10.cell qb_2
        have half_0 := bb.1 0 (.int .i64 gone) rfl
        have half_1 := bb.1 1 (.slice Aone Lone cone) rfl
        have half_2 := bb.1 2 (.int .i64 gtwo) rfl
        have half_3 := bb.1 3 (.slice Atwo Ltwo ctwo) rfl
        clear hw bb
        have qh : QR w10 gone Aone cone Lone gtwo Atwo ctwo Ltwo 2 (mkRat 1 2) := qr_half (one.ext (by repeat' (first | with_reducible exact Ext.refl _ | with_reducible assumption | with_reducible apply Ext.alloc_r | with_reducible apply Ext.drew_r | with_reducible apply Ext.drewN_r | with_reducible refine Ext.trans ?_ ‹Ext _ _›))) (two.ext (by repeat' (first | with_reducible exact Ext.refl _ | with_reducible assumption | with_reducible apply Ext.alloc_r | with_reducible apply Ext.drew_r | with_reducible apply Ext.drewN_r | with_reducible refine Ext.trans ?_ ‹Ext _ _›)))
        clear one two
        go_wp2_with fail
        refine (small_rz (n := 1) (by omega)).mono ?_
        rintro e w11 ⟨gzo, Azo, czo, Lzo, rfl, zo, x11⟩
        replace e0_0 := x11.cell e0_0
        replace e0_1 := x11.cell e0_1
        replace e0_2 := x11.cell e0_2
        replace e1_0 := x11.cell e1_0
        replace e1_1 := x11.cell e1_1
        replace e1_2 := x11.cell e1_2
        replace x_0 := x11.cell x_0
        replace x_1 := x11.cell x_1
        replace x_2 := x11.cell x_2
        replace x_3 := x11.cell x_3
        replace y_0 := x11.cell y_0
        replace y_1 := x11.cell y_1
        replace y_2 := x11.cell y_2
        replace y_3 := x11.cell y_3
        replace qb_0 := x11.cell qb_0
        replace qb_1 := x11.cell qb_1
        replace qb_2 := x11.cell qb_2
        replace half_0 := x11.cell half_0
        replace half_1 := x11.cell half_1
        replace half_2 := x11.cell half_2
        replace half_3 := x11.cell half_3
        have te0_0 := fun o => (Ext.alloc w11 o).cell e0_0
        have te0_1 := fun o => (Ext.alloc w11 o).cell e0_1
        have te0_2 := fun o => (Ext.alloc w11 o).cell e0_2
        have te1_0 := fun o => (Ext.alloc w11 o).cell e1_0
        have te1_1 := fun o => (Ext.alloc w11 o).cell e1_1
        have te1_2 := fun o => (Ext.alloc w11 o).cell e1_2
        have tx_0 := fun o => (Ext.alloc w11 o).cell x_0
        have tx_1 := fun o => (Ext.alloc w11 o).cell x_1
        have tx_2 := fun o => (Ext.alloc w11 o).cell x_2
        have tx_3 := fun o => (Ext.alloc w11 o).cell x_3
        have ty_0 := fun o => (Ext.alloc w11 o).cell y_0
        have ty_1 := fun o => (Ext.alloc w11 o).cell y_1
        have ty_2 := fun o => (Ext.alloc w11 o).cell y_2
        have ty_3 := fun o => (Ext.alloc w11 o).cell y_3
        have tqb_0 := fun o => (Ext.alloc w11 o).cell qb_0
        have tqb_1 := fun o => (Ext.alloc w11 o).cell qb_1
        have tqb_2 := fun o => (Ext.alloc w11 o).cell qb_2
        have thalf_0 := fun o => (Ext.alloc w11 o).cell half_0
        have thalf_1 := fun o => (Ext.alloc w11 o).cell half_1
        have thalf_2 := fun o => (Ext.alloc w11 o).cell half_2
        have thalf_3 := fun o => (Ext.alloc w11 o).cell half_3
        go_wp2_with fail
        clear te0_0 te0_1 te0_2 te1_0 te1_1 te1_2 tx_0 tx_1 tx_2 tx_3 ty_0 ty_1 ty_2 ty_3 tqb_0 tqb_1 tqb_2 thalf_0 thalf_1 thalf_2 thalf_3
        obtain ⟨w12, hw⟩ : ∃ z : World, z = (w11.alloc (.cells #[.int .i64 0, .slice none 0 0, .int .i64 gzo, .slice Azo Lzo czo] 38)) := ⟨_, rfl⟩
        rw [← hw]
        have x12 : Ext w11 w12 := by rw [hw]; exact Ext.alloc _ _
        have bb := box_at w11 #[.int .i64 0, .slice none 0 0, .int .i64 gzo, .slice Azo Lzo czo] 38
        rw [← hw] at bb
        replace e0_0 := x12.cell e0_0
        replace e0_1 := x12.cell e0_1
        replace e0_2 := x12.cell e0_2
        replace e1_0 := x12.cell e1_0
        replace e1_1 := x12.cell e1_1
        replace e1_2 := x12.cell e1_2
        replace x_0 := x12.cell x_0
        replace x_1 := x12.cell x_1
        replace x_2 := x12.cell x_2
        replace x_3 := x12.cell x_3
        replace y_0 := x12.cell y_0
        replace y_1 := x12.cell y_1
        replace y_2 := x12.cell y_2
        replace y_3 := x12.cell y_3
        replace qb_0 := x12.cell qb_0
        replace qb_1 := x12.cell qb_1
        replace qb_2 := x12.cell qb_2
        replace half_0 := x12.cell half_0
        replace half_1 := x12.cell half_1
        replace half_2 := x12.cell half_2
        replace half_3 := x12.cell half_3
        have zero_0 := bb.1 0 (.int .i64 0) rfl
        have zero_1 := bb.1 1 (.slice none 0 0) rfl
        have zero_2 := bb.1 2 (.int .i64 gzo) rfl
        have zero_3 := bb.1 3 (.slice Azo Lzo czo) rfl
        clear hw bb
        have qz : QR w12 0 none 0 0 gzo Azo czo Lzo 1 0 := qr_zero (zo.ext (by repeat' (first | with_reducible exact Ext.refl _ | with_reducible assumption | with_reducible apply Ext.alloc_r | with_reducible apply Ext.drew_r | with_reducible apply Ext.drewN_r | with_reducible refine Ext.trans ?_ ‹Ext _ _›)))
        clear zo
        go_wp2_with fail
        have HK : Hid (∀ w', Ext w12 w' → Ext w12 w' ∧ w'.cell? ⟨w.heap.size, 0, none⟩ = some (.bool s1) ∧ w'.cell? ⟨w.heap.size, 1, none⟩ = some (.slice A1 L1 c1) ∧ w'.cell? ⟨w.heap.size, 2, none⟩ = some (.slice B1 M1 d1) ∧ w'.cell? ⟨w.heap.size + 1, 0, none⟩ = some (.bool s2) ∧ w'.cell? ⟨w.heap.size + 1, 1, none⟩ = some (.slice A2 L2 c2) ∧ w'.cell? ⟨w.heap.size + 1, 2, none⟩ = some (.slice B2 M2 d2) ∧ w'.cell? ⟨bkx, 0, none⟩ = some (.int .i64 gx) ∧ w'.cell? ⟨bkx, 1, none⟩ = some (.slice Ax Lx cx) ∧ w'.cell? ⟨bkx, 2, none⟩ = some (.int .i64 hx) ∧ w'.cell? ⟨bkx, 3, none⟩ = some (.slice Bx Mx dx) ∧ w'.cell? ⟨bky, 0, none⟩ = some (.int .i64 gy) ∧ w'.cell? ⟨bky, 1, none⟩ = some (.slice Ay Ly cy) ∧ w'.cell? ⟨bky, 2, none⟩ = some (.int .i64 hy) ∧ w'.cell? ⟨bky, 3, none⟩ = some (.slice By My dy) ∧ w'.cell? ⟨w6.heap.size, 0, none⟩ = some (.bool false) ∧ w'.cell? ⟨w6.heap.size, 1, none⟩ = some (.slice none 0 0) ∧ w'.cell? ⟨w6.heap.size, 2, none⟩ = some (.slice none 0 0) ∧ w'.cell? ⟨w9.heap.size, 0, none⟩ = some (.int .i64 gone) ∧ w'.cell? ⟨w9.heap.size, 1, none⟩ = some (.slice Aone Lone cone) ∧ w'.cell? ⟨w9.heap.size, 2, none⟩ = some (.int .i64 gtwo) ∧ w'.cell? ⟨w9.heap.size, 3, none⟩ = some (.slice Atwo Ltwo ctwo) ∧ w'.cell? ⟨w11.heap.size, 0, none⟩ = some (.int .i64 0) ∧ w'.cell? ⟨w11.heap.size, 1, none⟩ = some (.slice none 0 0) ∧ w'.cell? ⟨w11.heap.size, 2, none⟩ = some (.int .i64 gzo) ∧ w'.cell? ⟨w11.heap.size, 3, none⟩ = some (.slice Azo Lzo czo)) := fun w' hk => ⟨hk, hk.cell e0_0, hk.cell e0_1, hk.cell e0_2, hk.cell e1_0, hk.cell e1_1, hk.cell e1_2, hk.cell x_0, hk.cell x_1, hk.cell x_2, hk.cell x_3, hk.cell y_0, hk.cell y_1, hk.cell y_2, hk.cell y_3, hk.cell qb_0, hk.cell qb_1, hk.cell qb_2, hk.cell half_0, hk.cell half_1, hk.cell half_2, hk.cell half_3, hk.cell zero_0, hk.cell zero_1, hk.cell zero_2, hk.cell zero_3⟩
        first
        | go_region_held3 (fun w' => Ext w12 w' ∧ w'.cell? ⟨w.heap.size, 0, none⟩ = some (.bool s1) ∧ w'.cell? ⟨w.heap.size, 1, none⟩ = some (.slice A1 L1 c1) ∧ w'.cell? ⟨w.heap.size, 2, none⟩ = some (.slice B1 M1 d1) ∧ w'.cell? ⟨w.heap.size + 1, 0, none⟩ = some (.bool s2) ∧ w'.cell? ⟨w.heap.size + 1, 1, none⟩ = some (.slice A2 L2 c2) ∧ w'.cell? ⟨w.heap.size + 1, 2, none⟩ = some (.slice B2 M2 d2) ∧ w'.cell? ⟨bkx, 0, none⟩ = some (.int .i64 gx) ∧ w'.cell? ⟨bkx, 1, none⟩ = some (.slice Ax Lx cx) ∧ w'.cell? ⟨bkx, 2, none⟩ = some (.int .i64 hx) ∧ w'.cell? ⟨bkx, 3, none⟩ = some (.slice Bx Mx dx) ∧ w'.cell? ⟨bky, 0, none⟩ = some (.int .i64 gy) ∧ w'.cell? ⟨bky, 1, none⟩ = some (.slice Ay Ly cy) ∧ w'.cell? ⟨bky, 2, none⟩ = some (.int .i64 hy) ∧ w'.cell? ⟨bky, 3, none⟩ = some (.slice By My dy) ∧ w'.cell? ⟨w6.heap.size, 0, none⟩ = some (.bool false) ∧ w'.cell? ⟨w6.heap.size, 1, none⟩ = some (.slice none 0 0) ∧ w'.cell? ⟨w6.heap.size, 2, none⟩ = some (.slice none 0 0) ∧ w'.cell? ⟨w9.heap.size, 0, none⟩ = some (.int .i64 gone) ∧ w'.cell? ⟨w9.heap.size, 1, none⟩ = some (.slice Aone Lone cone) ∧ w'.cell? ⟨w9.heap.size, 2, none⟩ = some (.int .i64 gtwo) ∧ w'.cell? ⟨w9.heap.size, 3, none⟩ = some (.slice Atwo Ltwo ctwo) ∧ w'.cell? ⟨w11.heap.size, 0, none⟩ = some (.int .i64 0) ∧ w'.cell? ⟨w11.heap.size, 1, none⟩ = some (.slice none 0 0) ∧ w'.cell? ⟨w11.heap.size, 2, none⟩ = some (.int .i64 gzo) ∧ w'.cell? ⟨w11.heap.size, 3, none⟩ = some (.slice Azo Lzo czo))
            ((with_reducible refine HK.out _ ?_; (repeat' (first | with_reducible exact Ext.refl _ | with_reducible assumption | with_reducible apply Ext.alloc_r | with_reducible apply Ext.drew_r | with_reducible apply Ext.drewN_r | with_reducible refine Ext.trans ?_ ‹Ext _ _›))))
            (first
              | (go_at_call_of 21 (#[Value.agg #[Value.bool sm, Value.slice Am Lm cm, Value.slice Bm Mm dm], Value.agg #[Value.int IntKind.i64 gqm, Value.slice Aqm Lqm cqm, Value.int IntKind.i64 hqm, Value.slice Bqm Mqm dqm]]); have hgd := qm; clear hgd; refine (lis5 (m.ext (by repeat' (first | with_reducible exact Ext.refl _ | with_reducible assumption | with_reducible apply Ext.alloc_r | with_reducible apply Ext.drew_r | with_reducible apply Ext.drewN_r | with_reducible refine Ext.trans ?_ ‹Ext _ _›))) (qm.ext (by repeat' (first | with_reducible exact Ext.refl _ | with_reducible assumption | with_reducible apply Ext.alloc_r | with_reducible apply Ext.drew_r | with_reducible apply Ext.drewN_r | with_reducible refine Ext.trans ?_ ‹Ext _ _›))) (rfl) (by omega)).mono ?_; rintro e w16 ⟨rfl, x16⟩)
              | (go_at_call_of 37 (#[Value.agg #[Value.int IntKind.i64 gone, Value.slice Aone Lone cone, Value.int IntKind.i64 gtwo, Value.slice Atwo Ltwo ctwo], Value.agg #[Value.int IntKind.i64 gqa, Value.slice Aqa Lqa cqa, Value.int IntKind.i64 hqa, Value.slice Bqa Mqa dqa]]); have hgd := qa; clear hgd; refine (qmul_r (qh.ext (by repeat' (first | with_reducible exact Ext.refl _ | with_reducible assumption | with_reducible apply Ext.alloc_r | with_reducible apply Ext.drew_r | with_reducible apply Ext.drewN_r | with_reducible refine Ext.trans ?_ ‹Ext _ _›))) (qa.ext (by repeat' (first | with_reducible exact Ext.refl _ | with_reducible assumption | with_reducible apply Ext.alloc_r | with_reducible apply Ext.drew_r | with_reducible apply Ext.drewN_r | with_reducible refine Ext.trans ?_ ‹Ext _ _›))) (by omega) (by omega)).mono ?_; rintro e w15 ⟨gqm, Aqm, cqm, Lqm, hqm, Bqm, dqm, Mqm, rfl, qm, x15⟩)
              | (go_at_call_of 38 (#[Value.agg #[Value.int IntKind.i64 gx, Value.slice Ax Lx cx, Value.int IntKind.i64 hx, Value.slice Bx Mx dx], Value.agg #[Value.int IntKind.i64 gy, Value.slice Ay Ly cy, Value.int IntKind.i64 hy, Value.slice By My dy]]); have hgd := m; clear hgd; refine (qadd_r (x.ext (by repeat' (first | with_reducible exact Ext.refl _ | with_reducible assumption | with_reducible apply Ext.alloc_r | with_reducible apply Ext.drew_r | with_reducible apply Ext.drewN_r | with_reducible refine Ext.trans ?_ ‹Ext _ _›))) (y.ext (by repeat' (first | with_reducible exact Ext.refl _ | with_reducible assumption | with_reducible apply Ext.alloc_r | with_reducible apply Ext.drew_r | with_reducible apply Ext.drewN_r | with_reducible refine Ext.trans ?_ ‹Ext _ _›))) (by omega) (by omega)).mono ?_; rintro e w14 ⟨gqa, Aqa, cqa, Lqa, hqa, Bqa, dqa, Mqa, rfl, qa, x14⟩)
              | (go_at_call_of 36 (#[Value.agg #[Value.bool s1, Value.slice A1 L1 c1, Value.slice B1 M1 d1], Value.agg #[Value.bool s2, Value.slice A2 L2 c2, Value.slice B2 M2 d2]]); refine (rmid_r (e1.ext (by repeat' (first | with_reducible exact Ext.refl _ | with_reducible assumption | with_reducible apply Ext.alloc_r | with_reducible apply Ext.drew_r | with_reducible apply Ext.drewN_r | with_reducible refine Ext.trans ?_ ‹Ext _ _›))) (e2.ext (by repeat' (first | with_reducible exact Ext.refl _ | with_reducible assumption | with_reducible apply Ext.alloc_r | with_reducible apply Ext.drew_r | with_reducible apply Ext.drewN_r | with_reducible refine Ext.trans ?_ ‹Ext _ _›))) (by omega) (by omega)).mono ?_; rintro e w13 ⟨sm, Am, cm, Lm, Bm, dm, Mm, rfl, m, x13⟩))
        | fail
        clear HK
        have xh : Ext w12 w16 := (by repeat' (first | with_reducible exact Ext.refl _ | with_reducible assumption | with_reducible apply Ext.alloc_r | with_reducible apply Ext.drew_r | with_reducible apply Ext.drewN_r | with_reducible refine Ext.trans ?_ ‹Ext _ _›))
        replace e0_0 := xh.cell e0_0
        replace e0_1 := xh.cell e0_1
        replace e0_2 := xh.cell e0_2
        replace e1_0 := xh.cell e1_0
        replace e1_1 := xh.cell e1_1
        replace e1_2 := xh.cell e1_2
        replace x_0 := xh.cell x_0
        replace x_1 := xh.cell x_1
        replace x_2 := xh.cell x_2
        replace x_3 := xh.cell x_3
        replace y_0 := xh.cell y_0
        replace y_1 := xh.cell y_1
        replace y_2 := xh.cell y_2
        replace y_3 := xh.cell y_3
        replace qb_0 := xh.cell qb_0
        replace qb_1 := xh.cell qb_1
        replace qb_2 := xh.cell qb_2
        replace half_0 := xh.cell half_0
        replace half_1 := xh.cell half_1
        replace half_2 := xh.cell half_2
        replace half_3 := xh.cell half_3
        replace zero_0 := xh.cell zero_0
        replace zero_1 := xh.cell zero_1
        replace zero_2 := xh.cell zero_2
        replace zero_3 := xh.cell zero_3
        clear xh
        go_wp2_with fail
        refine (rsign_is (k := 0) (rv_zero _) rfl).mono ?_
        rintro e w17 ⟨rfl, x17⟩
        replace e0_0 := x17.cell e0_0
        replace e0_1 := x17.cell e0_1
        replace e0_2 := x17.cell e0_2
        replace e1_0 := x17.cell e1_0
        replace e1_1 := x17.cell e1_1
        replace e1_2 := x17.cell e1_2
        replace x_0 := x17.cell x_0
        replace x_1 := x17.cell x_1
        replace x_2 := x17.cell x_2
        replace x_3 := x17.cell x_3
        replace y_0 := x17.cell y_0
        replace y_1 := x17.cell y_1
        replace y_2 := x17.cell y_2
        replace y_3 := x17.cell y_3
        replace qb_0 := x17.cell qb_0
        replace qb_1 := x17.cell qb_1
        replace qb_2 := x17.cell qb_2
        replace half_0 := x17.cell half_0
        replace half_1 := x17.cell half_1
        replace half_2 := x17.cell half_2
        replace half_3 := x17.cell half_3
        replace zero_0 := x17.cell zero_0
        replace zero_1 := x17.cell zero_1
        replace zero_2 := x17.cell zero_2
        replace zero_3 := x17.cell zero_3
        go_wp2_with fail
        go_ret
        exact ⟨rfl, (by repeat' (first | with_reducible exact Ext.refl _ | with_reducible assumption | with_reducible apply Ext.alloc_r | with_reducible apply Ext.drew_r | with_reducible apply Ext.drewN_r | with_reducible refine Ext.trans ?_ ‹Ext _ _›))⟩
      · have hg0 : (gy == 0) = false := by rw [hgy, beq_eq_false_iff_ne]; exact fun h5 => h2 ((num_sign0 q2).2 h5)
        by_cases h1 : q1 = 0
        · have hn0 : (gx != 0) = false := by rw [hgx, h1]; rfl
          clear hgx hgy
          go_wp2_with fail
          refine (rquo_r (e1.ext (by repeat' (first | with_reducible exact Ext.refl _ | with_reducible assumption | with_reducible apply Ext.alloc_r | with_reducible apply Ext.drew_r | with_reducible apply Ext.drewN_r | with_reducible refine Ext.trans ?_ ‹Ext _ _›))) (e2.ext (by repeat' (first | with_reducible exact Ext.refl _ | with_reducible assumption | with_reducible apply Ext.alloc_r | with_reducible apply Ext.drew_r | with_reducible apply Ext.drewN_r | with_reducible refine Ext.trans ?_ ‹Ext _ _›))) h2 (by omega) (by omega)).mono ?_
          rintro e w6 ⟨sz, Az, cz, Lz, Bz, dz, Mz, rfl, z, x6⟩
          replace e0_0 := x6.cell e0_0
          replace e0_1 := x6.cell e0_1
          replace e0_2 := x6.cell e0_2
          replace e1_0 := x6.cell e1_0
          replace e1_1 := x6.cell e1_1
          replace e1_2 := x6.cell e1_2
          replace x_0 := x6.cell x_0
          replace x_1 := x6.cell x_1
          replace x_2 := x6.cell x_2
          replace x_3 := x6.cell x_3
          replace y_0 := x6.cell y_0
          replace y_1 := x6.cell y_1
          replace y_2 := x6.cell y_2
          replace y_3 := x6.cell y_3
          have te0_0 := fun o => (Ext.alloc w6 o).cell e0_0
          have te0_1 := fun o => (Ext.alloc w6 o).cell e0_1
          have te0_2 := fun o => (Ext.alloc w6 o).cell e0_2
          have te1_0 := fun o => (Ext.alloc w6 o).cell e1_0
          have te1_1 := fun o => (Ext.alloc w6 o).cell e1_1
          have te1_2 := fun o => (Ext.alloc w6 o).cell e1_2
          have tx_0 := fun o => (Ext.alloc w6 o).cell x_0
          have tx_1 := fun o => (Ext.alloc w6 o).cell x_1
          have tx_2 := fun o => (Ext.alloc w6 o).cell x_2
          have tx_3 := fun o => (Ext.alloc w6 o).cell x_3
          have ty_0 := fun o => (Ext.alloc w6 o).cell y_0
          have ty_1 := fun o => (Ext.alloc w6 o).cell y_1
          have ty_2 := fun o => (Ext.alloc w6 o).cell y_2
          have ty_3 := fun o => (Ext.alloc w6 o).cell y_3
          go_wp2_with fail
          clear te0_0 te0_1 te0_2 te1_0 te1_1 te1_2 tx_0 tx_1 tx_2 tx_3 ty_0 ty_1 ty_2 ty_3
          obtain ⟨w7, hw⟩ : ∃ z : World, z = (w6.alloc (.cells #[.bool sz, .slice Az Lz cz, .slice Bz Mz dz] 27)) := ⟨_, rfl⟩
          rw [← hw]
          have x7 : Ext w6 w7 := by rw [hw]; exact Ext.alloc _ _
          have bb := box_at w6 #[.bool sz, .slice Az Lz cz, .slice Bz Mz dz] 27
          rw [← hw] at bb
          replace e0_0 := x7.cell e0_0
          replace e0_1 := x7.cell e0_1
          replace e0_2 := x7.cell e0_2
          replace e1_0 := x7.cell e1_0
          replace e1_1 := x7.cell e1_1
          replace e1_2 := x7.cell e1_2
          replace x_0 := x7.cell x_0
          replace x_1 := x7.cell x_1
          replace x_2 := x7.cell x_2
          replace x_3 := x7.cell x_3
          replace y_0 := x7.cell y_0
          replace y_1 := x7.cell y_1
          replace y_2 := x7.cell y_2
          replace y_3 := x7.cell y_3
          have z_0 := bb.1 0 (.bool sz) rfl
          have z_1 := bb.1 1 (.slice Az Lz cz) rfl
          have z_2 := bb.1 2 (.slice Bz Mz dz) rfl
          clear hw bb
          go_wp2_with fail
          refine (small_rz (n := 1) (by omega)).mono ?_
          rintro e w8 ⟨gone, Aone, cone, Lone, rfl, one, x8⟩
          replace e0_0 := x8.cell e0_0
          replace e0_1 := x8.cell e0_1
          replace e0_2 := x8.cell e0_2
          replace e1_0 := x8.cell e1_0
          replace e1_1 := x8.cell e1_1
          replace e1_2 := x8.cell e1_2
          replace x_0 := x8.cell x_0
          replace x_1 := x8.cell x_1
          replace x_2 := x8.cell x_2
          replace x_3 := x8.cell x_3
          replace y_0 := x8.cell y_0
          replace y_1 := x8.cell y_1
          replace y_2 := x8.cell y_2
          replace y_3 := x8.cell y_3
          replace z_0 := x8.cell z_0
          replace z_1 := x8.cell z_1
          replace z_2 := x8.cell z_2
          go_wp2_with fail
          refine (small_rz (n := 2) (by omega)).mono ?_
          rintro e w9 ⟨gtwo, Atwo, ctwo, Ltwo, rfl, two, x9⟩
          replace e0_0 := x9.cell e0_0
          replace e0_1 := x9.cell e0_1
          replace e0_2 := x9.cell e0_2
          replace e1_0 := x9.cell e1_0
          replace e1_1 := x9.cell e1_1
          replace e1_2 := x9.cell e1_2
          replace x_0 := x9.cell x_0
          replace x_1 := x9.cell x_1
          replace x_2 := x9.cell x_2
          replace x_3 := x9.cell x_3
          replace y_0 := x9.cell y_0
          replace y_1 := x9.cell y_1
          replace y_2 := x9.cell y_2
          replace y_3 := x9.cell y_3
          replace z_0 := x9.cell z_0
          replace z_1 := x9.cell z_1
          replace z_2 := x9.cell z_2
          have te0_0 := fun o => (Ext.alloc w9 o).cell e0_0
          have te0_1 := fun o => (Ext.alloc w9 o).cell e0_1
          have te0_2 := fun o => (Ext.alloc w9 o).cell e0_2
          have te1_0 := fun o => (Ext.alloc w9 o).cell e1_0
          have te1_1 := fun o => (Ext.alloc w9 o).cell e1_1
          have te1_2 := fun o => (Ext.alloc w9 o).cell e1_2
          have tx_0 := fun o => (Ext.alloc w9 o).cell x_0
          have tx_1 := fun o => (Ext.alloc w9 o).cell x_1
          have tx_2 := fun o => (Ext.alloc w9 o).cell x_2
          have tx_3 := fun o => (Ext.alloc w9 o).cell x_3
          have ty_0 := fun o => (Ext.alloc w9 o).cell y_0
          have ty_1 := fun o => (Ext.alloc w9 o).cell y_1
          have ty_2 := fun o => (Ext.alloc w9 o).cell y_2
          have ty_3 := fun o => (Ext.alloc w9 o).cell y_3
          have tz_0 := fun o => (Ext.alloc w9 o).cell z_0
          have tz_1 := fun o => (Ext.alloc w9 o).cell z_1
          have tz_2 := fun o => (Ext.alloc w9 o).cell z_2
          go_wp2_with fail
          clear te0_0 te0_1 te0_2 te1_0 te1_1 te1_2 tx_0 tx_1 tx_2 tx_3 ty_0 ty_1 ty_2 ty_3 tz_0 tz_1 tz_2
          obtain ⟨w10, hw⟩ : ∃ z : World, z = (w9.alloc (.cells #[.int .i64 gone, .slice Aone Lone cone, .int .i64 gtwo, .slice Atwo Ltwo ctwo] 38)) := ⟨_, rfl⟩
          rw [← hw]
          have x10 : Ext w9 w10 := by rw [hw]; exact Ext.alloc _ _
          have bb := box_at w9 #[.int .i64 gone, .slice Aone Lone cone, .int .i64 gtwo, .slice Atwo Ltwo ctwo] 38
          rw [← hw] at bb
          replace e0_0 := x10.cell e0_0
          replace e0_1 := x10.cell e0_1
          replace e0_2 := x10.cell e0_2
          replace e1_0 := x10.cell e1_0
          replace e1_1 := x10.cell e1_1
          replace e1_2 := x10.cell e1_2
          replace x_0 := x10.cell x_0
          replace x_1 := x10.cell x_1
          replace x_2 := x10.cell x_2
          replace x_3 := x10.cell x_3
          replace y_0 := x10.cell y_0
          replace y_1 := x10.cell y_1
          replace y_2 := x10.cell y_2
          replace y_3 := x10.cell y_3
          replace z_0 := x10.cell z_0
          replace z_1 := x10.cell z_1
          replace z_2 := x10.cell z_2
          have half_0 := bb.1 0 (.int .i64 gone) rfl
          have half_1 := bb.1 1 (.slice Aone Lone cone) rfl
          have half_2 := bb.1 2 (.int .i64 gtwo) rfl
          have half_3 := bb.1 3 (.slice Atwo Ltwo ctwo) rfl
          clear hw bb
          have qh : QR w10 gone Aone cone Lone gtwo Atwo ctwo Ltwo 2 (mkRat 1 2) := qr_half (one.ext (by repeat' (first | with_reducible exact Ext.refl _ | with_reducible assumption | with_reducible apply Ext.alloc_r | with_reducible apply Ext.drew_r | with_reducible apply Ext.drewN_r | with_reducible refine Ext.trans ?_ ‹Ext _ _›))) (two.ext (by repeat' (first | with_reducible exact Ext.refl _ | with_reducible assumption | with_reducible apply Ext.alloc_r | with_reducible apply Ext.drew_r | with_reducible apply Ext.drewN_r | with_reducible refine Ext.trans ?_ ‹Ext _ _›)))
          clear one two
          go_wp2_with fail
          refine (small_rz (n := 1) (by omega)).mono ?_
          rintro e w11 ⟨gzo, Azo, czo, Lzo, rfl, zo, x11⟩
          replace e0_0 := x11.cell e0_0
          replace e0_1 := x11.cell e0_1
          replace e0_2 := x11.cell e0_2
          replace e1_0 := x11.cell e1_0
          replace e1_1 := x11.cell e1_1
          replace e1_2 := x11.cell e1_2
          replace x_0 := x11.cell x_0
          replace x_1 := x11.cell x_1
          replace x_2 := x11.cell x_2
          replace x_3 := x11.cell x_3
          replace y_0 := x11.cell y_0
          replace y_1 := x11.cell y_1
          replace y_2 := x11.cell y_2
          replace y_3 := x11.cell y_3
          replace z_0 := x11.cell z_0
          replace z_1 := x11.cell z_1
          replace z_2 := x11.cell z_2
          replace half_0 := x11.cell half_0
          replace half_1 := x11.cell half_1
          replace half_2 := x11.cell half_2
          replace half_3 := x11.cell half_3
          have te0_0 := fun o => (Ext.alloc w11 o).cell e0_0
          have te0_1 := fun o => (Ext.alloc w11 o).cell e0_1
          have te0_2 := fun o => (Ext.alloc w11 o).cell e0_2
          have te1_0 := fun o => (Ext.alloc w11 o).cell e1_0
          have te1_1 := fun o => (Ext.alloc w11 o).cell e1_1
          have te1_2 := fun o => (Ext.alloc w11 o).cell e1_2
          have tx_0 := fun o => (Ext.alloc w11 o).cell x_0
          have tx_1 := fun o => (Ext.alloc w11 o).cell x_1
          have tx_2 := fun o => (Ext.alloc w11 o).cell x_2
          have tx_3 := fun o => (Ext.alloc w11 o).cell x_3
          have ty_0 := fun o => (Ext.alloc w11 o).cell y_0
          have ty_1 := fun o => (Ext.alloc w11 o).cell y_1
          have ty_2 := fun o => (Ext.alloc w11 o).cell y_2
          have ty_3 := fun o => (Ext.alloc w11 o).cell y_3
          have tz_0 := fun o => (Ext.alloc w11 o).cell z_0
          have tz_1 := fun o => (Ext.alloc w11 o).cell z_1
          have tz_2 := fun o => (Ext.alloc w11 o).cell z_2
          have thalf_0 := fun o => (Ext.alloc w11 o).cell half_0
          have thalf_1 := fun o => (Ext.alloc w11 o).cell half_1
          have thalf_2 := fun o => (Ext.alloc w11 o).cell half_2
          have thalf_3 := fun o => (Ext.alloc w11 o).cell half_3
          go_wp2_with fail
          clear te0_0 te0_1 te0_2 te1_0 te1_1 te1_2 tx_0 tx_1 tx_2 tx_3 ty_0 ty_1 ty_2 ty_3 tz_0 tz_1 tz_2 thalf_0 thalf_1 thalf_2 thalf_3
          obtain ⟨w12, hw⟩ : ∃ z : World, z = (w11.alloc (.cells #[.int .i64 0, .slice none 0 0, .int .i64 gzo, .slice Azo Lzo czo] 38)) := ⟨_, rfl⟩
          rw [← hw]
          have x12 : Ext w11 w12 := by rw [hw]; exact Ext.alloc _ _
          have bb := box_at w11 #[.int .i64 0, .slice none 0 0, .int .i64 gzo, .slice Azo Lzo czo] 38
          rw [← hw] at bb
          replace e0_0 := x12.cell e0_0
          replace e0_1 := x12.cell e0_1
          replace e0_2 := x12.cell e0_2
          replace e1_0 := x12.cell e1_0
          replace e1_1 := x12.cell e1_1
          replace e1_2 := x12.cell e1_2
          replace x_0 := x12.cell x_0
          replace x_1 := x12.cell x_1
          replace x_2 := x12.cell x_2
          replace x_3 := x12.cell x_3
          replace y_0 := x12.cell y_0
          replace y_1 := x12.cell y_1
          replace y_2 := x12.cell y_2
          replace y_3 := x12.cell y_3
          replace z_0 := x12.cell z_0
          replace z_1 := x12.cell z_1
          replace z_2 := x12.cell z_2
          replace half_0 := x12.cell half_0
          replace half_1 := x12.cell half_1
          replace half_2 := x12.cell half_2
          replace half_3 := x12.cell half_3
          have zero_0 := bb.1 0 (.int .i64 0) rfl
          have zero_1 := bb.1 1 (.slice none 0 0) rfl
          have zero_2 := bb.1 2 (.int .i64 gzo) rfl
          have zero_3 := bb.1 3 (.slice Azo Lzo czo) rfl
          clear hw bb
          have qz : QR w12 0 none 0 0 gzo Azo czo Lzo 1 0 := qr_zero (zo.ext (by repeat' (first | with_reducible exact Ext.refl _ | with_reducible assumption | with_reducible apply Ext.alloc_r | with_reducible apply Ext.drew_r | with_reducible apply Ext.drewN_r | with_reducible refine Ext.trans ?_ ‹Ext _ _›)))
          clear zo
          go_wp2_with fail
          have HK : Hid (∀ w', Ext w12 w' → Ext w12 w' ∧ w'.cell? ⟨w.heap.size, 0, none⟩ = some (.bool s1) ∧ w'.cell? ⟨w.heap.size, 1, none⟩ = some (.slice A1 L1 c1) ∧ w'.cell? ⟨w.heap.size, 2, none⟩ = some (.slice B1 M1 d1) ∧ w'.cell? ⟨w.heap.size + 1, 0, none⟩ = some (.bool s2) ∧ w'.cell? ⟨w.heap.size + 1, 1, none⟩ = some (.slice A2 L2 c2) ∧ w'.cell? ⟨w.heap.size + 1, 2, none⟩ = some (.slice B2 M2 d2) ∧ w'.cell? ⟨bkx, 0, none⟩ = some (.int .i64 gx) ∧ w'.cell? ⟨bkx, 1, none⟩ = some (.slice Ax Lx cx) ∧ w'.cell? ⟨bkx, 2, none⟩ = some (.int .i64 hx) ∧ w'.cell? ⟨bkx, 3, none⟩ = some (.slice Bx Mx dx) ∧ w'.cell? ⟨bky, 0, none⟩ = some (.int .i64 gy) ∧ w'.cell? ⟨bky, 1, none⟩ = some (.slice Ay Ly cy) ∧ w'.cell? ⟨bky, 2, none⟩ = some (.int .i64 hy) ∧ w'.cell? ⟨bky, 3, none⟩ = some (.slice By My dy) ∧ w'.cell? ⟨w6.heap.size, 0, none⟩ = some (.bool sz) ∧ w'.cell? ⟨w6.heap.size, 1, none⟩ = some (.slice Az Lz cz) ∧ w'.cell? ⟨w6.heap.size, 2, none⟩ = some (.slice Bz Mz dz) ∧ w'.cell? ⟨w9.heap.size, 0, none⟩ = some (.int .i64 gone) ∧ w'.cell? ⟨w9.heap.size, 1, none⟩ = some (.slice Aone Lone cone) ∧ w'.cell? ⟨w9.heap.size, 2, none⟩ = some (.int .i64 gtwo) ∧ w'.cell? ⟨w9.heap.size, 3, none⟩ = some (.slice Atwo Ltwo ctwo) ∧ w'.cell? ⟨w11.heap.size, 0, none⟩ = some (.int .i64 0) ∧ w'.cell? ⟨w11.heap.size, 1, none⟩ = some (.slice none 0 0) ∧ w'.cell? ⟨w11.heap.size, 2, none⟩ = some (.int .i64 gzo) ∧ w'.cell? ⟨w11.heap.size, 3, none⟩ = some (.slice Azo Lzo czo)) := fun w' hk => ⟨hk, hk.cell e0_0, hk.cell e0_1, hk.cell e0_2, hk.cell e1_0, hk.cell e1_1, hk.cell e1_2, hk.cell x_0, hk.cell x_1, hk.cell x_2, hk.cell x_3, hk.cell y_0, hk.cell y_1, hk.cell y_2, hk.cell y_3, hk.cell z_0, hk.cell z_1, hk.cell z_2, hk.cell half_0, hk.cell half_1, hk.cell half_2, hk.cell half_3, hk.cell zero_0, hk.cell zero_1, hk.cell zero_2, hk.cell zero_3⟩
          first
          | go_region_held3 (fun w' => Ext w12 w' ∧ w'.cell? ⟨w.heap.size, 0, none⟩ = some (.bool s1) ∧ w'.cell? ⟨w.heap.size, 1, none⟩ = some (.slice A1 L1 c1) ∧ w'.cell? ⟨w.heap.size, 2, none⟩ = some (.slice B1 M1 d1) ∧ w'.cell? ⟨w.heap.size + 1, 0, none⟩ = some (.bool s2) ∧ w'.cell? ⟨w.heap.size + 1, 1, none⟩ = some (.slice A2 L2 c2) ∧ w'.cell? ⟨w.heap.size + 1, 2, none⟩ = some (.slice B2 M2 d2) ∧ w'.cell? ⟨bkx, 0, none⟩ = some (.int .i64 gx) ∧ w'.cell? ⟨bkx, 1, none⟩ = some (.slice Ax Lx cx) ∧ w'.cell? ⟨bkx, 2, none⟩ = some (.int .i64 hx) ∧ w'.cell? ⟨bkx, 3, none⟩ = some (.slice Bx Mx dx) ∧ w'.cell? ⟨bky, 0, none⟩ = some (.int .i64 gy) ∧ w'.cell? ⟨bky, 1, none⟩ = some (.slice Ay Ly cy) ∧ w'.cell? ⟨bky, 2, none⟩ = some (.int .i64 hy) ∧ w'.cell? ⟨bky, 3, none⟩ = some (.slice By My dy) ∧ w'.cell? ⟨w6.heap.size, 0, none⟩ = some (.bool sz) ∧ w'.cell? ⟨w6.heap.size, 1, none⟩ = some (.slice Az Lz cz) ∧ w'.cell? ⟨w6.heap.size, 2, none⟩ = some (.slice Bz Mz dz) ∧ w'.cell? ⟨w9.heap.size, 0, none⟩ = some (.int .i64 gone) ∧ w'.cell? ⟨w9.heap.size, 1, none⟩ = some (.slice Aone Lone cone) ∧ w'.cell? ⟨w9.heap.size, 2, none⟩ = some (.int .i64 gtwo) ∧ w'.cell? ⟨w9.heap.size, 3, none⟩ = some (.slice Atwo Ltwo ctwo) ∧ w'.cell? ⟨w11.heap.size, 0, none⟩ = some (.int .i64 0) ∧ w'.cell? ⟨w11.heap.size, 1, none⟩ = some (.slice none 0 0) ∧ w'.cell? ⟨w11.heap.size, 2, none⟩ = some (.int .i64 gzo) ∧ w'.cell? ⟨w11.heap.size, 3, none⟩ = some (.slice Azo Lzo czo))
              ((with_reducible refine HK.out _ ?_; (repeat' (first | with_reducible exact Ext.refl _ | with_reducible assumption | with_reducible apply Ext.alloc_r | with_reducible apply Ext.drew_r | with_reducible apply Ext.drewN_r | with_reducible refine Ext.trans ?_ ‹Ext _ _›))))
              (first
                | (go_at_call_of 21 (#[Value.agg #[Value.bool sm, Value.slice Am Lm cm, Value.slice Bm Mm dm], Value.agg #[Value.int IntKind.i64 gqm, Value.slice Aqm Lqm cqm, Value.int IntKind.i64 hqm, Value.slice Bqm Mqm dqm]]); have hgd := qm; clear hgd; refine (lis5 (m.ext (by repeat' (first | with_reducible exact Ext.refl _ | with_reducible assumption | with_reducible apply Ext.alloc_r | with_reducible apply Ext.drew_r | with_reducible apply Ext.drewN_r | with_reducible refine Ext.trans ?_ ‹Ext _ _›))) (qm.ext (by repeat' (first | with_reducible exact Ext.refl _ | with_reducible assumption | with_reducible apply Ext.alloc_r | with_reducible apply Ext.drew_r | with_reducible apply Ext.drewN_r | with_reducible refine Ext.trans ?_ ‹Ext _ _›))) (rfl) (by omega)).mono ?_; rintro e w16 ⟨rfl, x16⟩)
                | (go_at_call_of 37 (#[Value.agg #[Value.int IntKind.i64 gone, Value.slice Aone Lone cone, Value.int IntKind.i64 gtwo, Value.slice Atwo Ltwo ctwo], Value.agg #[Value.int IntKind.i64 gqa, Value.slice Aqa Lqa cqa, Value.int IntKind.i64 hqa, Value.slice Bqa Mqa dqa]]); have hgd := qa; clear hgd; refine (qmul_r (qh.ext (by repeat' (first | with_reducible exact Ext.refl _ | with_reducible assumption | with_reducible apply Ext.alloc_r | with_reducible apply Ext.drew_r | with_reducible apply Ext.drewN_r | with_reducible refine Ext.trans ?_ ‹Ext _ _›))) (qa.ext (by repeat' (first | with_reducible exact Ext.refl _ | with_reducible assumption | with_reducible apply Ext.alloc_r | with_reducible apply Ext.drew_r | with_reducible apply Ext.drewN_r | with_reducible refine Ext.trans ?_ ‹Ext _ _›))) (by omega) (by omega)).mono ?_; rintro e w15 ⟨gqm, Aqm, cqm, Lqm, hqm, Bqm, dqm, Mqm, rfl, qm, x15⟩)
                | (go_at_call_of 38 (#[Value.agg #[Value.int IntKind.i64 gx, Value.slice Ax Lx cx, Value.int IntKind.i64 hx, Value.slice Bx Mx dx], Value.agg #[Value.int IntKind.i64 gy, Value.slice Ay Ly cy, Value.int IntKind.i64 hy, Value.slice By My dy]]); have hgd := m; clear hgd; refine (qadd_r (x.ext (by repeat' (first | with_reducible exact Ext.refl _ | with_reducible assumption | with_reducible apply Ext.alloc_r | with_reducible apply Ext.drew_r | with_reducible apply Ext.drewN_r | with_reducible refine Ext.trans ?_ ‹Ext _ _›))) (y.ext (by repeat' (first | with_reducible exact Ext.refl _ | with_reducible assumption | with_reducible apply Ext.alloc_r | with_reducible apply Ext.drew_r | with_reducible apply Ext.drewN_r | with_reducible refine Ext.trans ?_ ‹Ext _ _›))) (by omega) (by omega)).mono ?_; rintro e w14 ⟨gqa, Aqa, cqa, Lqa, hqa, Bqa, dqa, Mqa, rfl, qa, x14⟩)
                | (go_at_call_of 36 (#[Value.agg #[Value.bool s1, Value.slice A1 L1 c1, Value.slice B1 M1 d1], Value.agg #[Value.bool s2, Value.slice A2 L2 c2, Value.slice B2 M2 d2]]); refine (rmid_r (e1.ext (by repeat' (first | with_reducible exact Ext.refl _ | with_reducible assumption | with_reducible apply Ext.alloc_r | with_reducible apply Ext.drew_r | with_reducible apply Ext.drewN_r | with_reducible refine Ext.trans ?_ ‹Ext _ _›))) (e2.ext (by repeat' (first | with_reducible exact Ext.refl _ | with_reducible assumption | with_reducible apply Ext.alloc_r | with_reducible apply Ext.drew_r | with_reducible apply Ext.drewN_r | with_reducible refine Ext.trans ?_ ‹Ext _ _›))) (by omega) (by omega)).mono ?_; rintro e w13 ⟨sm, Am, cm, Lm, Bm, dm, Mm, rfl, m, x13⟩))
          | fail
          clear HK
          have xh : Ext w12 w16 := (by repeat' (first | with_reducible exact Ext.refl _ | with_reducible assumption | with_reducible apply Ext.alloc_r | with_reducible apply Ext.drew_r | with_reducible apply Ext.drewN_r | with_reducible refine Ext.trans ?_ ‹Ext _ _›))
          replace e0_0 := xh.cell e0_0
          replace e0_1 := xh.cell e0_1
          replace e0_2 := xh.cell e0_2
          replace e1_0 := xh.cell e1_0
          replace e1_1 := xh.cell e1_1
          replace e1_2 := xh.cell e1_2
          replace x_0 := xh.cell x_0
          replace x_1 := xh.cell x_1
          replace x_2 := xh.cell x_2
          replace x_3 := xh.cell x_3
          replace y_0 := xh.cell y_0
          replace y_1 := xh.cell y_1
          replace y_2 := xh.cell y_2
          replace y_3 := xh.cell y_3
          replace z_0 := xh.cell z_0
          replace z_1 := xh.cell z_1
          replace z_2 := xh.cell z_2
          replace half_0 := xh.cell half_0
          replace half_1 := xh.cell half_1
          replace half_2 := xh.cell half_2
          replace half_3 := xh.cell half_3
          replace zero_0 := xh.cell zero_0
          replace zero_1 := xh.cell zero_1
          replace zero_2 := xh.cell zero_2
          replace zero_3 := xh.cell zero_3
          clear xh
          have HQ0 : Hid (0 = q1 / q2) := by show _ = _; rw [h1, Rat.div_def, Rat.zero_mul]
          have H2 := Lib.hid h2
          clear h1 h2
          go_wp2_with fail
          have HK : Hid (∀ w', Ext w16 w' → Ext w16 w' ∧ w'.cell? ⟨w.heap.size, 0, none⟩ = some (.bool s1) ∧ w'.cell? ⟨w.heap.size, 1, none⟩ = some (.slice A1 L1 c1) ∧ w'.cell? ⟨w.heap.size, 2, none⟩ = some (.slice B1 M1 d1) ∧ w'.cell? ⟨w.heap.size + 1, 0, none⟩ = some (.bool s2) ∧ w'.cell? ⟨w.heap.size + 1, 1, none⟩ = some (.slice A2 L2 c2) ∧ w'.cell? ⟨w.heap.size + 1, 2, none⟩ = some (.slice B2 M2 d2) ∧ w'.cell? ⟨bkx, 0, none⟩ = some (.int .i64 gx) ∧ w'.cell? ⟨bkx, 1, none⟩ = some (.slice Ax Lx cx) ∧ w'.cell? ⟨bkx, 2, none⟩ = some (.int .i64 hx) ∧ w'.cell? ⟨bkx, 3, none⟩ = some (.slice Bx Mx dx) ∧ w'.cell? ⟨bky, 0, none⟩ = some (.int .i64 gy) ∧ w'.cell? ⟨bky, 1, none⟩ = some (.slice Ay Ly cy) ∧ w'.cell? ⟨bky, 2, none⟩ = some (.int .i64 hy) ∧ w'.cell? ⟨bky, 3, none⟩ = some (.slice By My dy) ∧ w'.cell? ⟨w6.heap.size, 0, none⟩ = some (.bool sz) ∧ w'.cell? ⟨w6.heap.size, 1, none⟩ = some (.slice Az Lz cz) ∧ w'.cell? ⟨w6.heap.size, 2, none⟩ = some (.slice Bz Mz dz) ∧ w'.cell? ⟨w9.heap.size, 0, none⟩ = some (.int .i64 gone) ∧ w'.cell? ⟨w9.heap.size, 1, none⟩ = some (.slice Aone Lone cone) ∧ w'.cell? ⟨w9.heap.size, 2, none⟩ = some (.int .i64 gtwo) ∧ w'.cell? ⟨w9.heap.size, 3, none⟩ = some (.slice Atwo Ltwo ctwo) ∧ w'.cell? ⟨w11.heap.size, 0, none⟩ = some (.int .i64 0) ∧ w'.cell? ⟨w11.heap.size, 1, none⟩ = some (.slice none 0 0) ∧ w'.cell? ⟨w11.heap.size, 2, none⟩ = some (.int .i64 gzo) ∧ w'.cell? ⟨w11.heap.size, 3, none⟩ = some (.slice Azo Lzo czo)) := fun w' hk => ⟨hk, hk.cell e0_0, hk.cell e0_1, hk.cell e0_2, hk.cell e1_0, hk.cell e1_1, hk.cell e1_2, hk.cell x_0, hk.cell x_1, hk.cell x_2, hk.cell x_3, hk.cell y_0, hk.cell y_1, hk.cell y_2, hk.cell y_3, hk.cell z_0, hk.cell z_1, hk.cell z_2, hk.cell half_0, hk.cell half_1, hk.cell half_2, hk.cell half_3, hk.cell zero_0, hk.cell zero_1, hk.cell zero_2, hk.cell zero_3⟩
          first
          | go_region_held3 (fun w' => Ext w16 w' ∧ w'.cell? ⟨w.heap.size, 0, none⟩ = some (.bool s1) ∧ w'.cell? ⟨w.heap.size, 1, none⟩ = some (.slice A1 L1 c1) ∧ w'.cell? ⟨w.heap.size, 2, none⟩ = some (.slice B1 M1 d1) ∧ w'.cell? ⟨w.heap.size + 1, 0, none⟩ = some (.bool s2) ∧ w'.cell? ⟨w.heap.size + 1, 1, none⟩ = some (.slice A2 L2 c2) ∧ w'.cell? ⟨w.heap.size + 1, 2, none⟩ = some (.slice B2 M2 d2) ∧ w'.cell? ⟨bkx, 0, none⟩ = some (.int .i64 gx) ∧ w'.cell? ⟨bkx, 1, none⟩ = some (.slice Ax Lx cx) ∧ w'.cell? ⟨bkx, 2, none⟩ = some (.int .i64 hx) ∧ w'.cell? ⟨bkx, 3, none⟩ = some (.slice Bx Mx dx) ∧ w'.cell? ⟨bky, 0, none⟩ = some (.int .i64 gy) ∧ w'.cell? ⟨bky, 1, none⟩ = some (.slice Ay Ly cy) ∧ w'.cell? ⟨bky, 2, none⟩ = some (.int .i64 hy) ∧ w'.cell? ⟨bky, 3, none⟩ = some (.slice By My dy) ∧ w'.cell? ⟨w6.heap.size, 0, none⟩ = some (.bool sz) ∧ w'.cell? ⟨w6.heap.size, 1, none⟩ = some (.slice Az Lz cz) ∧ w'.cell? ⟨w6.heap.size, 2, none⟩ = some (.slice Bz Mz dz) ∧ w'.cell? ⟨w9.heap.size, 0, none⟩ = some (.int .i64 gone) ∧ w'.cell? ⟨w9.heap.size, 1, none⟩ = some (.slice Aone Lone cone) ∧ w'.cell? ⟨w9.heap.size, 2, none⟩ = some (.int .i64 gtwo) ∧ w'.cell? ⟨w9.heap.size, 3, none⟩ = some (.slice Atwo Ltwo ctwo) ∧ w'.cell? ⟨w11.heap.size, 0, none⟩ = some (.int .i64 0) ∧ w'.cell? ⟨w11.heap.size, 1, none⟩ = some (.slice none 0 0) ∧ w'.cell? ⟨w11.heap.size, 2, none⟩ = some (.int .i64 gzo) ∧ w'.cell? ⟨w11.heap.size, 3, none⟩ = some (.slice Azo Lzo czo))
              ((with_reducible refine HK.out _ ?_; (repeat' (first | with_reducible exact Ext.refl _ | with_reducible assumption | with_reducible apply Ext.alloc_r | with_reducible apply Ext.drew_r | with_reducible apply Ext.drewN_r | with_reducible refine Ext.trans ?_ ‹Ext _ _›))))
              (first
                | (go_at_call_of 21 (#[Value.agg #[Value.bool sz, Value.slice Az Lz cz, Value.slice Bz Mz dz], Value.agg #[Value.int IntKind.i64 0, Value.slice none 0 0, Value.int IntKind.i64 gzo, Value.slice Azo Lzo czo]]); have hgd := qq; clear hgd; refine (lis5 (z.ext (by repeat' (first | with_reducible exact Ext.refl _ | with_reducible assumption | with_reducible apply Ext.alloc_r | with_reducible apply Ext.drew_r | with_reducible apply Ext.drewN_r | with_reducible refine Ext.trans ?_ ‹Ext _ _›))) (qz.ext (by repeat' (first | with_reducible exact Ext.refl _ | with_reducible assumption | with_reducible apply Ext.alloc_r | with_reducible apply Ext.drew_r | with_reducible apply Ext.drewN_r | with_reducible refine Ext.trans ?_ ‹Ext _ _›))) HQ0.out (by omega)).mono ?_; rintro e w19 ⟨rfl, x19⟩)
                | (go_at_call_of 21 (#[Value.agg #[Value.bool sz, Value.slice Az Lz cz, Value.slice Bz Mz dz], Value.agg #[Value.int IntKind.i64 gqq, Value.slice Aqq Lqq cqq, Value.int IntKind.i64 hqq, Value.slice Bqq Mqq dqq]]); have hgd := qq; clear hgd; refine (lis5 (z.ext (by repeat' (first | with_reducible exact Ext.refl _ | with_reducible assumption | with_reducible apply Ext.alloc_r | with_reducible apply Ext.drew_r | with_reducible apply Ext.drewN_r | with_reducible refine Ext.trans ?_ ‹Ext _ _›))) (qq.ext (by repeat' (first | with_reducible exact Ext.refl _ | with_reducible assumption | with_reducible apply Ext.alloc_r | with_reducible apply Ext.drew_r | with_reducible apply Ext.drewN_r | with_reducible refine Ext.trans ?_ ‹Ext _ _›))) (rfl) (by omega)).mono ?_; rintro e w18 ⟨rfl, x18⟩)
                | (go_at_call_of 39 (#[Value.agg #[Value.int IntKind.i64 gx, Value.slice Ax Lx cx, Value.int IntKind.i64 hx, Value.slice Bx Mx dx], Value.agg #[Value.int IntKind.i64 gy, Value.slice Ay Ly cy, Value.int IntKind.i64 hy, Value.slice By My dy]]); refine (qquo_r (x.ext (by repeat' (first | with_reducible exact Ext.refl _ | with_reducible assumption | with_reducible apply Ext.alloc_r | with_reducible apply Ext.drew_r | with_reducible apply Ext.drewN_r | with_reducible refine Ext.trans ?_ ‹Ext _ _›))) (y.ext (by repeat' (first | with_reducible exact Ext.refl _ | with_reducible assumption | with_reducible apply Ext.alloc_r | with_reducible apply Ext.drew_r | with_reducible apply Ext.drewN_r | with_reducible refine Ext.trans ?_ ‹Ext _ _›))) H2.out (by omega) (by omega)).mono ?_; rintro e w17 ⟨gqq, Aqq, cqq, Lqq, hqq, Bqq, dqq, Mqq, rfl, qq, x17⟩))
          | fail
          clear HK
          have xh : Ext w16 w19 := (by repeat' (first | with_reducible exact Ext.refl _ | with_reducible assumption | with_reducible apply Ext.alloc_r | with_reducible apply Ext.drew_r | with_reducible apply Ext.drewN_r | with_reducible refine Ext.trans ?_ ‹Ext _ _›))
          replace e0_0 := xh.cell e0_0
          replace e0_1 := xh.cell e0_1
          replace e0_2 := xh.cell e0_2
          replace e1_0 := xh.cell e1_0
          replace e1_1 := xh.cell e1_1
          replace e1_2 := xh.cell e1_2
          replace x_0 := xh.cell x_0
          replace x_1 := xh.cell x_1
          replace x_2 := xh.cell x_2
          replace x_3 := xh.cell x_3
          replace y_0 := xh.cell y_0
          replace y_1 := xh.cell y_1
          replace y_2 := xh.cell y_2
          replace y_3 := xh.cell y_3
          replace z_0 := xh.cell z_0
          replace z_1 := xh.cell z_1
          replace z_2 := xh.cell z_2
          replace half_0 := xh.cell half_0
          replace half_1 := xh.cell half_1
          replace half_2 := xh.cell half_2
          replace half_3 := xh.cell half_3
          replace zero_0 := xh.cell zero_0
          replace zero_1 := xh.cell zero_1
          replace zero_2 := xh.cell zero_2
          replace zero_3 := xh.cell zero_3
          clear xh
          go_wp2_with fail
          go_ret
          exact ⟨rfl, (by repeat' (first | with_reducible exact Ext.refl _ | with_reducible assumption | with_reducible apply Ext.alloc_r | with_reducible apply Ext.drew_r | with_reducible apply Ext.drewN_r | with_reducible refine Ext.trans ?_ ‹Ext _ _›))⟩
        · have hn0 : (gx != 0) = true := by rw [hgx, bne_iff_ne]; exact fun h5 => h1 ((num_sign0 q1).2 h5)
          clear hgx hgy
          go_wp2_with fail
          refine (rquo_r (e1.ext (by repeat' (first | with_reducible exact Ext.refl _ | with_reducible assumption | with_reducible apply Ext.alloc_r | with_reducible apply Ext.drew_r | with_reducible apply Ext.drewN_r | with_reducible refine Ext.trans ?_ ‹Ext _ _›))) (e2.ext (by repeat' (first | with_reducible exact Ext.refl _ | with_reducible assumption | with_reducible apply Ext.alloc_r | with_reducible apply Ext.drew_r | with_reducible apply Ext.drewN_r | with_reducible refine Ext.trans ?_ ‹Ext _ _›))) h2 (by omega) (by omega)).mono ?_
          rintro e w6 ⟨sz, Az, cz, Lz, Bz, dz, Mz, rfl, z, x6⟩
          replace e0_0 := x6.cell e0_0
          replace e0_1 := x6.cell e0_1
          replace e0_2 := x6.cell e0_2
          replace e1_0 := x6.cell e1_0
          replace e1_1 := x6.cell e1_1
          replace e1_2 := x6.cell e1_2
          replace x_0 := x6.cell x_0
          replace x_1 := x6.cell x_1
          replace x_2 := x6.cell x_2
          replace x_3 := x6.cell x_3
          replace y_0 := x6.cell y_0
          replace y_1 := x6.cell y_1
          replace y_2 := x6.cell y_2
          replace y_3 := x6.cell y_3
          have te0_0 := fun o => (Ext.alloc w6 o).cell e0_0
          have te0_1 := fun o => (Ext.alloc w6 o).cell e0_1
          have te0_2 := fun o => (Ext.alloc w6 o).cell e0_2
          have te1_0 := fun o => (Ext.alloc w6 o).cell e1_0
          have te1_1 := fun o => (Ext.alloc w6 o).cell e1_1
          have te1_2 := fun o => (Ext.alloc w6 o).cell e1_2
          have tx_0 := fun o => (Ext.alloc w6 o).cell x_0
          have tx_1 := fun o => (Ext.alloc w6 o).cell x_1
          have tx_2 := fun o => (Ext.alloc w6 o).cell x_2
          have tx_3 := fun o => (Ext.alloc w6 o).cell x_3
          have ty_0 := fun o => (Ext.alloc w6 o).cell y_0
          have ty_1 := fun o => (Ext.alloc w6 o).cell y_1
          have ty_2 := fun o => (Ext.alloc w6 o).cell y_2
          have ty_3 := fun o => (Ext.alloc w6 o).cell y_3
          go_wp2_with fail
          clear te0_0 te0_1 te0_2 te1_0 te1_1 te1_2 tx_0 tx_1 tx_2 tx_3 ty_0 ty_1 ty_2 ty_3
          obtain ⟨w7, hw⟩ : ∃ z : World, z = (w6.alloc (.cells #[.bool sz, .slice Az Lz cz, .slice Bz Mz dz] 27)) := ⟨_, rfl⟩
          rw [← hw]
          have x7 : Ext w6 w7 := by rw [hw]; exact Ext.alloc _ _
          have bb := box_at w6 #[.bool sz, .slice Az Lz cz, .slice Bz Mz dz] 27
          rw [← hw] at bb
          replace e0_0 := x7.cell e0_0
          replace e0_1 := x7.cell e0_1
          replace e0_2 := x7.cell e0_2
          replace e1_0 := x7.cell e1_0
          replace e1_1 := x7.cell e1_1
          replace e1_2 := x7.cell e1_2
          replace x_0 := x7.cell x_0
          replace x_1 := x7.cell x_1
          replace x_2 := x7.cell x_2
          replace x_3 := x7.cell x_3
          replace y_0 := x7.cell y_0
          replace y_1 := x7.cell y_1
          replace y_2 := x7.cell y_2
          replace y_3 := x7.cell y_3
          have z_0 := bb.1 0 (.bool sz) rfl
          have z_1 := bb.1 1 (.slice Az Lz cz) rfl
          have z_2 := bb.1 2 (.slice Bz Mz dz) rfl
          clear hw bb
          go_wp2_with fail
          refine (small_rz (n := 1) (by omega)).mono ?_
          rintro e w8 ⟨gone, Aone, cone, Lone, rfl, one, x8⟩
          replace e0_0 := x8.cell e0_0
          replace e0_1 := x8.cell e0_1
          replace e0_2 := x8.cell e0_2
          replace e1_0 := x8.cell e1_0
          replace e1_1 := x8.cell e1_1
          replace e1_2 := x8.cell e1_2
          replace x_0 := x8.cell x_0
          replace x_1 := x8.cell x_1
          replace x_2 := x8.cell x_2
          replace x_3 := x8.cell x_3
          replace y_0 := x8.cell y_0
          replace y_1 := x8.cell y_1
          replace y_2 := x8.cell y_2
          replace y_3 := x8.cell y_3
          replace z_0 := x8.cell z_0
          replace z_1 := x8.cell z_1
          replace z_2 := x8.cell z_2
          go_wp2_with fail
          refine (small_rz (n := 2) (by omega)).mono ?_
          rintro e w9 ⟨gtwo, Atwo, ctwo, Ltwo, rfl, two, x9⟩
          replace e0_0 := x9.cell e0_0
          replace e0_1 := x9.cell e0_1
          replace e0_2 := x9.cell e0_2
          replace e1_0 := x9.cell e1_0
          replace e1_1 := x9.cell e1_1
          replace e1_2 := x9.cell e1_2
          replace x_0 := x9.cell x_0
          replace x_1 := x9.cell x_1
          replace x_2 := x9.cell x_2
          replace x_3 := x9.cell x_3
          replace y_0 := x9.cell y_0
          replace y_1 := x9.cell y_1
          replace y_2 := x9.cell y_2
          replace y_3 := x9.cell y_3
          replace z_0 := x9.cell z_0
          replace z_1 := x9.cell z_1
          replace z_2 := x9.cell z_2
          have te0_0 := fun o => (Ext.alloc w9 o).cell e0_0
          have te0_1 := fun o => (Ext.alloc w9 o).cell e0_1
          have te0_2 := fun o => (Ext.alloc w9 o).cell e0_2
          have te1_0 := fun o => (Ext.alloc w9 o).cell e1_0
          have te1_1 := fun o => (Ext.alloc w9 o).cell e1_1
          have te1_2 := fun o => (Ext.alloc w9 o).cell e1_2
          have tx_0 := fun o => (Ext.alloc w9 o).cell x_0
          have tx_1 := fun o => (Ext.alloc w9 o).cell x_1
          have tx_2 := fun o => (Ext.alloc w9 o).cell x_2
          have tx_3 := fun o => (Ext.alloc w9 o).cell x_3
          have ty_0 := fun o => (Ext.alloc w9 o).cell y_0
          have ty_1 := fun o => (Ext.alloc w9 o).cell y_1
          have ty_2 := fun o => (Ext.alloc w9 o).cell y_2
          have ty_3 := fun o => (Ext.alloc w9 o).cell y_3
          have tz_0 := fun o => (Ext.alloc w9 o).cell z_0
          have tz_1 := fun o => (Ext.alloc w9 o).cell z_1
          have tz_2 := fun o => (Ext.alloc w9 o).cell z_2
          go_wp2_with fail
          clear te0_0 te0_1 te0_2 te1_0 te1_1 te1_2 tx_0 tx_1 tx_2 tx_3 ty_0 ty_1 ty_2 ty_3 tz_0 tz_1 tz_2
          obtain ⟨w10, hw⟩ : ∃ z : World, z = (w9.alloc (.cells #[.int .i64 gone, .slice Aone Lone cone, .int .i64 gtwo, .slice Atwo Ltwo ctwo] 38)) := ⟨_, rfl⟩
          rw [← hw]
          have x10 : Ext w9 w10 := by rw [hw]; exact Ext.alloc _ _
          have bb := box_at w9 #[.int .i64 gone, .slice Aone Lone cone, .int .i64 gtwo, .slice Atwo Ltwo ctwo] 38
          rw [← hw] at bb
          replace e0_0 := x10.cell e0_0
          replace e0_1 := x10.cell e0_1
          replace e0_2 := x10.cell e0_2
          replace e1_0 := x10.cell e1_0
          replace e1_1 := x10.cell e1_1
          replace e1_2 := x10.cell e1_2
          replace x_0 := x10.cell x_0
          replace x_1 := x10.cell x_1
          replace x_2 := x10.cell x_2
          replace x_3 := x10.cell x_3
          replace y_0 := x10.cell y_0
          replace y_1 := x10.cell y_1
          replace y_2 := x10.cell y_2
          replace y_3 := x10.cell y_3
          replace z_0 := x10.cell z_0
          replace z_1 := x10.cell z_1
          replace z_2 := x10.cell z_2
          have half_0 := bb.1 0 (.int .i64 gone) rfl
          have half_1 := bb.1 1 (.slice Aone Lone cone) rfl
          have half_2 := bb.1 2 (.int .i64 gtwo) rfl
          have half_3 := bb.1 3 (.slice Atwo Ltwo ctwo) rfl
          clear hw bb
          have qh : QR w10 gone Aone cone Lone gtwo Atwo ctwo Ltwo 2 (mkRat 1 2) := qr_half (one.ext (by repeat' (first | with_reducible exact Ext.refl _ | with_reducible assumption | with_reducible apply Ext.alloc_r | with_reducible apply Ext.drew_r | with_reducible apply Ext.drewN_r | with_reducible refine Ext.trans ?_ ‹Ext _ _›))) (two.ext (by repeat' (first | with_reducible exact Ext.refl _ | with_reducible assumption | with_reducible apply Ext.alloc_r | with_reducible apply Ext.drew_r | with_reducible apply Ext.drewN_r | with_reducible refine Ext.trans ?_ ‹Ext _ _›)))
          clear one two
          go_wp2_with fail
          refine (small_rz (n := 1) (by omega)).mono ?_
          rintro e w11 ⟨gzo, Azo, czo, Lzo, rfl, zo, x11⟩
          replace e0_0 := x11.cell e0_0
          replace e0_1 := x11.cell e0_1
          replace e0_2 := x11.cell e0_2
          replace e1_0 := x11.cell e1_0
          replace e1_1 := x11.cell e1_1
          replace e1_2 := x11.cell e1_2
          replace x_0 := x11.cell x_0
          replace x_1 := x11.cell x_1
          replace x_2 := x11.cell x_2
          replace x_3 := x11.cell x_3
          replace y_0 := x11.cell y_0
          replace y_1 := x11.cell y_1
          replace y_2 := x11.cell y_2
          replace y_3 := x11.cell y_3
          replace z_0 := x11.cell z_0
          replace z_1 := x11.cell z_1
          replace z_2 := x11.cell z_2
          replace half_0 := x11.cell half_0
          replace half_1 := x11.cell half_1
          replace half_2 := x11.cell half_2
          replace half_3 := x11.cell half_3
          have te0_0 := fun o => (Ext.alloc w11 o).cell e0_0
          have te0_1 := fun o => (Ext.alloc w11 o).cell e0_1
          have te0_2 := fun o => (Ext.alloc w11 o).cell e0_2
          have te1_0 := fun o => (Ext.alloc w11 o).cell e1_0
          have te1_1 := fun o => (Ext.alloc w11 o).cell e1_1
          have te1_2 := fun o => (Ext.alloc w11 o).cell e1_2
          have tx_0 := fun o => (Ext.alloc w11 o).cell x_0
          have tx_1 := fun o => (Ext.alloc w11 o).cell x_1
          have tx_2 := fun o => (Ext.alloc w11 o).cell x_2
          have tx_3 := fun o => (Ext.alloc w11 o).cell x_3
          have ty_0 := fun o => (Ext.alloc w11 o).cell y_0
          have ty_1 := fun o => (Ext.alloc w11 o).cell y_1
          have ty_2 := fun o => (Ext.alloc w11 o).cell y_2
          have ty_3 := fun o => (Ext.alloc w11 o).cell y_3
          have tz_0 := fun o => (Ext.alloc w11 o).cell z_0
          have tz_1 := fun o => (Ext.alloc w11 o).cell z_1
          have tz_2 := fun o => (Ext.alloc w11 o).cell z_2
          have thalf_0 := fun o => (Ext.alloc w11 o).cell half_0
          have thalf_1 := fun o => (Ext.alloc w11 o).cell half_1
          have thalf_2 := fun o => (Ext.alloc w11 o).cell half_2
          have thalf_3 := fun o => (Ext.alloc w11 o).cell half_3
          go_wp2_with fail
          clear te0_0 te0_1 te0_2 te1_0 te1_1 te1_2 tx_0 tx_1 tx_2 tx_3 ty_0 ty_1 ty_2 ty_3 tz_0 tz_1 tz_2 thalf_0 thalf_1 thalf_2 thalf_3
          obtain ⟨w12, hw⟩ : ∃ z : World, z = (w11.alloc (.cells #[.int .i64 0, .slice none 0 0, .int .i64 gzo, .slice Azo Lzo czo] 38)) := ⟨_, rfl⟩
          rw [← hw]
          have x12 : Ext w11 w12 := by rw [hw]; exact Ext.alloc _ _
          have bb := box_at w11 #[.int .i64 0, .slice none 0 0, .int .i64 gzo, .slice Azo Lzo czo] 38
          rw [← hw] at bb
          replace e0_0 := x12.cell e0_0
          replace e0_1 := x12.cell e0_1
          replace e0_2 := x12.cell e0_2
          replace e1_0 := x12.cell e1_0
          replace e1_1 := x12.cell e1_1
          replace e1_2 := x12.cell e1_2
          replace x_0 := x12.cell x_0
          replace x_1 := x12.cell x_1
          replace x_2 := x12.cell x_2
          replace x_3 := x12.cell x_3
          replace y_0 := x12.cell y_0
          replace y_1 := x12.cell y_1
          replace y_2 := x12.cell y_2
          replace y_3 := x12.cell y_3
          replace z_0 := x12.cell z_0
          replace z_1 := x12.cell z_1
          replace z_2 := x12.cell z_2
          replace half_0 := x12.cell half_0
          replace half_1 := x12.cell half_1
          replace half_2 := x12.cell half_2
          replace half_3 := x12.cell half_3
          have zero_0 := bb.1 0 (.int .i64 0) rfl
          have zero_1 := bb.1 1 (.slice none 0 0) rfl
          have zero_2 := bb.1 2 (.int .i64 gzo) rfl
          have zero_3 := bb.1 3 (.slice Azo Lzo czo) rfl
          clear hw bb
          have qz : QR w12 0 none 0 0 gzo Azo czo Lzo 1 0 := qr_zero (zo.ext (by repeat' (first | with_reducible exact Ext.refl _ | with_reducible assumption | with_reducible apply Ext.alloc_r | with_reducible apply Ext.drew_r | with_reducible apply Ext.drewN_r | with_reducible refine Ext.trans ?_ ‹Ext _ _›)))
          clear zo
          go_wp2_with fail
          have HK : Hid (∀ w', Ext w12 w' → Ext w12 w' ∧ w'.cell? ⟨w.heap.size, 0, none⟩ = some (.bool s1) ∧ w'.cell? ⟨w.heap.size, 1, none⟩ = some (.slice A1 L1 c1) ∧ w'.cell? ⟨w.heap.size, 2, none⟩ = some (.slice B1 M1 d1) ∧ w'.cell? ⟨w.heap.size + 1, 0, none⟩ = some (.bool s2) ∧ w'.cell? ⟨w.heap.size + 1, 1, none⟩ = some (.slice A2 L2 c2) ∧ w'.cell? ⟨w.heap.size + 1, 2, none⟩ = some (.slice B2 M2 d2) ∧ w'.cell? ⟨bkx, 0, none⟩ = some (.int .i64 gx) ∧ w'.cell? ⟨bkx, 1, none⟩ = some (.slice Ax Lx cx) ∧ w'.cell? ⟨bkx, 2, none⟩ = some (.int .i64 hx) ∧ w'.cell? ⟨bkx, 3, none⟩ = some (.slice Bx Mx dx) ∧ w'.cell? ⟨bky, 0, none⟩ = some (.int .i64 gy) ∧ w'.cell? ⟨bky, 1, none⟩ = some (.slice Ay Ly cy) ∧ w'.cell? ⟨bky, 2, none⟩ = some (.int .i64 hy) ∧ w'.cell? ⟨bky, 3, none⟩ = some (.slice By My dy) ∧ w'.cell? ⟨w6.heap.size, 0, none⟩ = some (.bool sz) ∧ w'.cell? ⟨w6.heap.size, 1, none⟩ = some (.slice Az Lz cz) ∧ w'.cell? ⟨w6.heap.size, 2, none⟩ = some (.slice Bz Mz dz) ∧ w'.cell? ⟨w9.heap.size, 0, none⟩ = some (.int .i64 gone) ∧ w'.cell? ⟨w9.heap.size, 1, none⟩ = some (.slice Aone Lone cone) ∧ w'.cell? ⟨w9.heap.size, 2, none⟩ = some (.int .i64 gtwo) ∧ w'.cell? ⟨w9.heap.size, 3, none⟩ = some (.slice Atwo Ltwo ctwo) ∧ w'.cell? ⟨w11.heap.size, 0, none⟩ = some (.int .i64 0) ∧ w'.cell? ⟨w11.heap.size, 1, none⟩ = some (.slice none 0 0) ∧ w'.cell? ⟨w11.heap.size, 2, none⟩ = some (.int .i64 gzo) ∧ w'.cell? ⟨w11.heap.size, 3, none⟩ = some (.slice Azo Lzo czo)) := fun w' hk => ⟨hk, hk.cell e0_0, hk.cell e0_1, hk.cell e0_2, hk.cell e1_0, hk.cell e1_1, hk.cell e1_2, hk.cell x_0, hk.cell x_1, hk.cell x_2, hk.cell x_3, hk.cell y_0, hk.cell y_1, hk.cell y_2, hk.cell y_3, hk.cell z_0, hk.cell z_1, hk.cell z_2, hk.cell half_0, hk.cell half_1, hk.cell half_2, hk.cell half_3, hk.cell zero_0, hk.cell zero_1, hk.cell zero_2, hk.cell zero_3⟩
          first
          | go_region_held3 (fun w' => Ext w12 w' ∧ w'.cell? ⟨w.heap.size, 0, none⟩ = some (.bool s1) ∧ w'.cell? ⟨w.heap.size, 1, none⟩ = some (.slice A1 L1 c1) ∧ w'.cell? ⟨w.heap.size, 2, none⟩ = some (.slice B1 M1 d1) ∧ w'.cell? ⟨w.heap.size + 1, 0, none⟩ = some (.bool s2) ∧ w'.cell? ⟨w.heap.size + 1, 1, none⟩ = some (.slice A2 L2 c2) ∧ w'.cell? ⟨w.heap.size + 1, 2, none⟩ = some (.slice B2 M2 d2) ∧ w'.cell? ⟨bkx, 0, none⟩ = some (.int .i64 gx) ∧ w'.cell? ⟨bkx, 1, none⟩ = some (.slice Ax Lx cx) ∧ w'.cell? ⟨bkx, 2, none⟩ = some (.int .i64 hx) ∧ w'.cell? ⟨bkx, 3, none⟩ = some (.slice Bx Mx dx) ∧ w'.cell? ⟨bky, 0, none⟩ = some (.int .i64 gy) ∧ w'.cell? ⟨bky, 1, none⟩ = some (.slice Ay Ly cy) ∧ w'.cell? ⟨bky, 2, none⟩ = some (.int .i64 hy) ∧ w'.cell? ⟨bky, 3, none⟩ = some (.slice By My dy) ∧ w'.cell? ⟨w6.heap.size, 0, none⟩ = some (.bool sz) ∧ w'.cell? ⟨w6.heap.size, 1, none⟩ = some (.slice Az Lz cz) ∧ w'.cell? ⟨w6.heap.size, 2, none⟩ = some (.slice Bz Mz dz) ∧ w'.cell? ⟨w9.heap.size, 0, none⟩ = some (.int .i64 gone) ∧ w'.cell? ⟨w9.heap.size, 1, none⟩ = some (.slice Aone Lone cone) ∧ w'.cell? ⟨w9.heap.size, 2, none⟩ = some (.int .i64 gtwo) ∧ w'.cell? ⟨w9.heap.size, 3, none⟩ = some (.slice Atwo Ltwo ctwo) ∧ w'.cell? ⟨w11.heap.size, 0, none⟩ = some (.int .i64 0) ∧ w'.cell? ⟨w11.heap.size, 1, none⟩ = some (.slice none 0 0) ∧ w'.cell? ⟨w11.heap.size, 2, none⟩ = some (.int .i64 gzo) ∧ w'.cell? ⟨w11.heap.size, 3, none⟩ = some (.slice Azo Lzo czo))
              ((with_reducible refine HK.out _ ?_; (repeat' (first | with_reducible exact Ext.refl _ | with_reducible assumption | with_reducible apply Ext.alloc_r | with_reducible apply Ext.drew_r | with_reducible apply Ext.drewN_r | with_reducible refine Ext.trans ?_ ‹Ext _ _›))))
              (first
                | (go_at_call_of 21 (#[Value.agg #[Value.bool sm, Value.slice Am Lm cm, Value.slice Bm Mm dm], Value.agg #[Value.int IntKind.i64 gqm, Value.slice Aqm Lqm cqm, Value.int IntKind.i64 hqm, Value.slice Bqm Mqm dqm]]); have hgd := qm; clear hgd; refine (lis5 (m.ext (by repeat' (first | with_reducible exact Ext.refl _ | with_reducible assumption | with_reducible apply Ext.alloc_r | with_reducible apply Ext.drew_r | with_reducible apply Ext.drewN_r | with_reducible refine Ext.trans ?_ ‹Ext _ _›))) (qm.ext (by repeat' (first | with_reducible exact Ext.refl _ | with_reducible assumption | with_reducible apply Ext.alloc_r | with_reducible apply Ext.drew_r | with_reducible apply Ext.drewN_r | with_reducible refine Ext.trans ?_ ‹Ext _ _›))) (rfl) (by omega)).mono ?_; rintro e w16 ⟨rfl, x16⟩)
                | (go_at_call_of 37 (#[Value.agg #[Value.int IntKind.i64 gone, Value.slice Aone Lone cone, Value.int IntKind.i64 gtwo, Value.slice Atwo Ltwo ctwo], Value.agg #[Value.int IntKind.i64 gqa, Value.slice Aqa Lqa cqa, Value.int IntKind.i64 hqa, Value.slice Bqa Mqa dqa]]); have hgd := qa; clear hgd; refine (qmul_r (qh.ext (by repeat' (first | with_reducible exact Ext.refl _ | with_reducible assumption | with_reducible apply Ext.alloc_r | with_reducible apply Ext.drew_r | with_reducible apply Ext.drewN_r | with_reducible refine Ext.trans ?_ ‹Ext _ _›))) (qa.ext (by repeat' (first | with_reducible exact Ext.refl _ | with_reducible assumption | with_reducible apply Ext.alloc_r | with_reducible apply Ext.drew_r | with_reducible apply Ext.drewN_r | with_reducible refine Ext.trans ?_ ‹Ext _ _›))) (by omega) (by omega)).mono ?_; rintro e w15 ⟨gqm, Aqm, cqm, Lqm, hqm, Bqm, dqm, Mqm, rfl, qm, x15⟩)
                | (go_at_call_of 38 (#[Value.agg #[Value.int IntKind.i64 gx, Value.slice Ax Lx cx, Value.int IntKind.i64 hx, Value.slice Bx Mx dx], Value.agg #[Value.int IntKind.i64 gy, Value.slice Ay Ly cy, Value.int IntKind.i64 hy, Value.slice By My dy]]); have hgd := m; clear hgd; refine (qadd_r (x.ext (by repeat' (first | with_reducible exact Ext.refl _ | with_reducible assumption | with_reducible apply Ext.alloc_r | with_reducible apply Ext.drew_r | with_reducible apply Ext.drewN_r | with_reducible refine Ext.trans ?_ ‹Ext _ _›))) (y.ext (by repeat' (first | with_reducible exact Ext.refl _ | with_reducible assumption | with_reducible apply Ext.alloc_r | with_reducible apply Ext.drew_r | with_reducible apply Ext.drewN_r | with_reducible refine Ext.trans ?_ ‹Ext _ _›))) (by omega) (by omega)).mono ?_; rintro e w14 ⟨gqa, Aqa, cqa, Lqa, hqa, Bqa, dqa, Mqa, rfl, qa, x14⟩)
                | (go_at_call_of 36 (#[Value.agg #[Value.bool s1, Value.slice A1 L1 c1, Value.slice B1 M1 d1], Value.agg #[Value.bool s2, Value.slice A2 L2 c2, Value.slice B2 M2 d2]]); refine (rmid_r (e1.ext (by repeat' (first | with_reducible exact Ext.refl _ | with_reducible assumption | with_reducible apply Ext.alloc_r | with_reducible apply Ext.drew_r | with_reducible apply Ext.drewN_r | with_reducible refine Ext.trans ?_ ‹Ext _ _›))) (e2.ext (by repeat' (first | with_reducible exact Ext.refl _ | with_reducible assumption | with_reducible apply Ext.alloc_r | with_reducible apply Ext.drew_r | with_reducible apply Ext.drewN_r | with_reducible refine Ext.trans ?_ ‹Ext _ _›))) (by omega) (by omega)).mono ?_; rintro e w13 ⟨sm, Am, cm, Lm, Bm, dm, Mm, rfl, m, x13⟩))
          | fail
          clear HK
          have xh : Ext w12 w16 := (by repeat' (first | with_reducible exact Ext.refl _ | with_reducible assumption | with_reducible apply Ext.alloc_r | with_reducible apply Ext.drew_r | with_reducible apply Ext.drewN_r | with_reducible refine Ext.trans ?_ ‹Ext _ _›))
          replace e0_0 := xh.cell e0_0
          replace e0_1 := xh.cell e0_1
          replace e0_2 := xh.cell e0_2
          replace e1_0 := xh.cell e1_0
          replace e1_1 := xh.cell e1_1
          replace e1_2 := xh.cell e1_2
          replace x_0 := xh.cell x_0
          replace x_1 := xh.cell x_1
          replace x_2 := xh.cell x_2
          replace x_3 := xh.cell x_3
          replace y_0 := xh.cell y_0
          replace y_1 := xh.cell y_1
          replace y_2 := xh.cell y_2
          replace y_3 := xh.cell y_3
          replace z_0 := xh.cell z_0
          replace z_1 := xh.cell z_1
          replace z_2 := xh.cell z_2
          replace half_0 := xh.cell half_0
          replace half_1 := xh.cell half_1
          replace half_2 := xh.cell half_2
          replace half_3 := xh.cell half_3
          replace zero_0 := xh.cell zero_0
          replace zero_1 := xh.cell zero_1
          replace zero_2 := xh.cell zero_2
          replace zero_3 := xh.cell zero_3
          clear xh
          have HQ0 : Hid (q1 / q2 ≠ 0) := rat_div_ne h1 h2
          have H2 := Lib.hid h2
          clear h1 h2
          go_wp2_with fail
          have HK : Hid (∀ w', Ext w16 w' → Ext w16 w' ∧ w'.cell? ⟨w.heap.size, 0, none⟩ = some (.bool s1) ∧ w'.cell? ⟨w.heap.size, 1, none⟩ = some (.slice A1 L1 c1) ∧ w'.cell? ⟨w.heap.size, 2, none⟩ = some (.slice B1 M1 d1) ∧ w'.cell? ⟨w.heap.size + 1, 0, none⟩ = some (.bool s2) ∧ w'.cell? ⟨w.heap.size + 1, 1, none⟩ = some (.slice A2 L2 c2) ∧ w'.cell? ⟨w.heap.size + 1, 2, none⟩ = some (.slice B2 M2 d2) ∧ w'.cell? ⟨bkx, 0, none⟩ = some (.int .i64 gx) ∧ w'.cell? ⟨bkx, 1, none⟩ = some (.slice Ax Lx cx) ∧ w'.cell? ⟨bkx, 2, none⟩ = some (.int .i64 hx) ∧ w'.cell? ⟨bkx, 3, none⟩ = some (.slice Bx Mx dx) ∧ w'.cell? ⟨bky, 0, none⟩ = some (.int .i64 gy) ∧ w'.cell? ⟨bky, 1, none⟩ = some (.slice Ay Ly cy) ∧ w'.cell? ⟨bky, 2, none⟩ = some (.int .i64 hy) ∧ w'.cell? ⟨bky, 3, none⟩ = some (.slice By My dy) ∧ w'.cell? ⟨w6.heap.size, 0, none⟩ = some (.bool sz) ∧ w'.cell? ⟨w6.heap.size, 1, none⟩ = some (.slice Az Lz cz) ∧ w'.cell? ⟨w6.heap.size, 2, none⟩ = some (.slice Bz Mz dz) ∧ w'.cell? ⟨w9.heap.size, 0, none⟩ = some (.int .i64 gone) ∧ w'.cell? ⟨w9.heap.size, 1, none⟩ = some (.slice Aone Lone cone) ∧ w'.cell? ⟨w9.heap.size, 2, none⟩ = some (.int .i64 gtwo) ∧ w'.cell? ⟨w9.heap.size, 3, none⟩ = some (.slice Atwo Ltwo ctwo) ∧ w'.cell? ⟨w11.heap.size, 0, none⟩ = some (.int .i64 0) ∧ w'.cell? ⟨w11.heap.size, 1, none⟩ = some (.slice none 0 0) ∧ w'.cell? ⟨w11.heap.size, 2, none⟩ = some (.int .i64 gzo) ∧ w'.cell? ⟨w11.heap.size, 3, none⟩ = some (.slice Azo Lzo czo)) := fun w' hk => ⟨hk, hk.cell e0_0, hk.cell e0_1, hk.cell e0_2, hk.cell e1_0, hk.cell e1_1, hk.cell e1_2, hk.cell x_0, hk.cell x_1, hk.cell x_2, hk.cell x_3, hk.cell y_0, hk.cell y_1, hk.cell y_2, hk.cell y_3, hk.cell z_0, hk.cell z_1, hk.cell z_2, hk.cell half_0, hk.cell half_1, hk.cell half_2, hk.cell half_3, hk.cell zero_0, hk.cell zero_1, hk.cell zero_2, hk.cell zero_3⟩
          first
          | go_region_held3 (fun w' => Ext w16 w' ∧ w'.cell? ⟨w.heap.size, 0, none⟩ = some (.bool s1) ∧ w'.cell? ⟨w.heap.size, 1, none⟩ = some (.slice A1 L1 c1) ∧ w'.cell? ⟨w.heap.size, 2, none⟩ = some (.slice B1 M1 d1) ∧ w'.cell? ⟨w.heap.size + 1, 0, none⟩ = some (.bool s2) ∧ w'.cell? ⟨w.heap.size + 1, 1, none⟩ = some (.slice A2 L2 c2) ∧ w'.cell? ⟨w.heap.size + 1, 2, none⟩ = some (.slice B2 M2 d2) ∧ w'.cell? ⟨bkx, 0, none⟩ = some (.int .i64 gx) ∧ w'.cell? ⟨bkx, 1, none⟩ = some (.slice Ax Lx cx) ∧ w'.cell? ⟨bkx, 2, none⟩ = some (.int .i64 hx) ∧ w'.cell? ⟨bkx, 3, none⟩ = some (.slice Bx Mx dx) ∧ w'.cell? ⟨bky, 0, none⟩ = some (.int .i64 gy) ∧ w'.cell? ⟨bky, 1, none⟩ = some (.slice Ay Ly cy) ∧ w'.cell? ⟨bky, 2, none⟩ = some (.int .i64 hy) ∧ w'.cell? ⟨bky, 3, none⟩ = some (.slice By My dy) ∧ w'.cell? ⟨w6.heap.size, 0, none⟩ = some (.bool sz) ∧ w'.cell? ⟨w6.heap.size, 1, none⟩ = some (.slice Az Lz cz) ∧ w'.cell? ⟨w6.heap.size, 2, none⟩ = some (.slice Bz Mz dz) ∧ w'.cell? ⟨w9.heap.size, 0, none⟩ = some (.int .i64 gone) ∧ w'.cell? ⟨w9.heap.size, 1, none⟩ = some (.slice Aone Lone cone) ∧ w'.cell? ⟨w9.heap.size, 2, none⟩ = some (.int .i64 gtwo) ∧ w'.cell? ⟨w9.heap.size, 3, none⟩ = some (.slice Atwo Ltwo ctwo) ∧ w'.cell? ⟨w11.heap.size, 0, none⟩ = some (.int .i64 0) ∧ w'.cell? ⟨w11.heap.size, 1, none⟩ = some (.slice none 0 0) ∧ w'.cell? ⟨w11.heap.size, 2, none⟩ = some (.int .i64 gzo) ∧ w'.cell? ⟨w11.heap.size, 3, none⟩ = some (.slice Azo Lzo czo))
              ((with_reducible refine HK.out _ ?_; (repeat' (first | with_reducible exact Ext.refl _ | with_reducible assumption | with_reducible apply Ext.alloc_r | with_reducible apply Ext.drew_r | with_reducible apply Ext.drewN_r | with_reducible refine Ext.trans ?_ ‹Ext _ _›))))
              (first
                | (go_at_call_of 21 (#[Value.agg #[Value.bool sz, Value.slice Az Lz cz, Value.slice Bz Mz dz], Value.agg #[Value.int IntKind.i64 0, Value.slice none 0 0, Value.int IntKind.i64 gzo, Value.slice Azo Lzo czo]]); have hgd := qq; clear hgd; refine (lis_no (z.ext (by repeat' (first | with_reducible exact Ext.refl _ | with_reducible assumption | with_reducible apply Ext.alloc_r | with_reducible apply Ext.drew_r | with_reducible apply Ext.drewN_r | with_reducible refine Ext.trans ?_ ‹Ext _ _›))) (qz.ext (by repeat' (first | with_reducible exact Ext.refl _ | with_reducible assumption | with_reducible apply Ext.alloc_r | with_reducible apply Ext.drew_r | with_reducible apply Ext.drewN_r | with_reducible refine Ext.trans ?_ ‹Ext _ _›))) rfl HQ0.out (by omega)).mono ?_; rintro e w19 ⟨rfl, x19⟩)
                | (go_at_call_of 21 (#[Value.agg #[Value.bool sz, Value.slice Az Lz cz, Value.slice Bz Mz dz], Value.agg #[Value.int IntKind.i64 gqq, Value.slice Aqq Lqq cqq, Value.int IntKind.i64 hqq, Value.slice Bqq Mqq dqq]]); have hgd := qq; clear hgd; refine (lis5 (z.ext (by repeat' (first | with_reducible exact Ext.refl _ | with_reducible assumption | with_reducible apply Ext.alloc_r | with_reducible apply Ext.drew_r | with_reducible apply Ext.drewN_r | with_reducible refine Ext.trans ?_ ‹Ext _ _›))) (qq.ext (by repeat' (first | with_reducible exact Ext.refl _ | with_reducible assumption | with_reducible apply Ext.alloc_r | with_reducible apply Ext.drew_r | with_reducible apply Ext.drewN_r | with_reducible refine Ext.trans ?_ ‹Ext _ _›))) (rfl) (by omega)).mono ?_; rintro e w18 ⟨rfl, x18⟩)
                | (go_at_call_of 39 (#[Value.agg #[Value.int IntKind.i64 gx, Value.slice Ax Lx cx, Value.int IntKind.i64 hx, Value.slice Bx Mx dx], Value.agg #[Value.int IntKind.i64 gy, Value.slice Ay Ly cy, Value.int IntKind.i64 hy, Value.slice By My dy]]); refine (qquo_r (x.ext (by repeat' (first | with_reducible exact Ext.refl _ | with_reducible assumption | with_reducible apply Ext.alloc_r | with_reducible apply Ext.drew_r | with_reducible apply Ext.drewN_r | with_reducible refine Ext.trans ?_ ‹Ext _ _›))) (y.ext (by repeat' (first | with_reducible exact Ext.refl _ | with_reducible assumption | with_reducible apply Ext.alloc_r | with_reducible apply Ext.drew_r | with_reducible apply Ext.drewN_r | with_reducible refine Ext.trans ?_ ‹Ext _ _›))) H2.out (by omega) (by omega)).mono ?_; rintro e w17 ⟨gqq, Aqq, cqq, Lqq, hqq, Bqq, dqq, Mqq, rfl, qq, x17⟩))
          | fail
          clear HK
          have xh : Ext w16 w19 := (by repeat' (first | with_reducible exact Ext.refl _ | with_reducible assumption | with_reducible apply Ext.alloc_r | with_reducible apply Ext.drew_r | with_reducible apply Ext.drewN_r | with_reducible refine Ext.trans ?_ ‹Ext _ _›))
          replace e0_0 := xh.cell e0_0
          replace e0_1 := xh.cell e0_1
          replace e0_2 := xh.cell e0_2
          replace e1_0 := xh.cell e1_0
          replace e1_1 := xh.cell e1_1
          replace e1_2 := xh.cell e1_2
          replace x_0 := xh.cell x_0
          replace x_1 := xh.cell x_1
          replace x_2 := xh.cell x_2
          replace x_3 := xh.cell x_3
          replace y_0 := xh.cell y_0
          replace y_1 := xh.cell y_1
          replace y_2 := xh.cell y_2
          replace y_3 := xh.cell y_3
          replace z_0 := xh.cell z_0
          replace z_1 := xh.cell z_1
          replace z_2 := xh.cell z_2
          replace half_0 := xh.cell half_0
          replace half_1 := xh.cell half_1
          replace half_2 := xh.cell half_2
          replace half_3 := xh.cell half_3
          replace zero_0 := xh.cell zero_0
          replace zero_1 := xh.cell zero_1
          replace zero_2 := xh.cell zero_2
          replace zero_3 := xh.cell zero_3
          clear xh
          go_wp2_with fail
          go_ret
          exact ⟨rfl, (by repeat' (first | with_reducible exact Ext.refl _ | with_reducible assumption | with_reducible apply Ext.alloc_r | with_reducible apply Ext.drew_r | with_reducible apply Ext.drewN_r | with_reducible refine Ext.trans ?_ ‹Ext _ _›))⟩
  · have HF : Hid (((decide (L1 ≤ 6) && (decide (M1 ≤ 6) && decide (L2 ≤ 6))) && (decide (M2 ≤ 6) && (decide (L1 ≤ 6) && decide (M1 ≤ 6)))) = false) := by show _ = _; rw [Bool.eq_false_iff]; simp only [ne_eq, decide_eq_true_eq, Bool.and_eq_true]; omega
    clear hf
    go_enter Try.func5, Try.ntmps5
    go_wp2_with fail
    obtain ⟨w0, hw0⟩ : ∃ z : World, z = ((w.alloc (.cells #[.bool s1, .slice A1 L1 c1, .slice B1 M1 d1] 27)).alloc (.cells #[.bool s2, .slice A2 L2 c2, .slice B2 M2 d2] 27)) := ⟨_, rfl⟩
    rw [← hw0]
    have b0 := box_at w #[.bool s1, .slice A1 L1 c1, .slice B1 M1 d1] 27
    have b1 := box_at (w.alloc (.cells #[.bool s1, .slice A1 L1 c1, .slice B1 M1 d1] 27)) #[.bool s2, .slice A2 L2 c2, .slice B2 M2 d2] 27
    have hsz : w0.heap.size = w.heap.size + 1 + 1 := by rw [hw0]; simp
    rw [← hw0] at b1
    have y1 : Ext (w.alloc (.cells #[.bool s1, .slice A1 L1 c1, .slice B1 M1 d1] 27)) w0 := by rw [hw0]; exact Ext.alloc _ _
    have y0 : Ext w w0 := (Ext.alloc _ _).trans y1
    have x0 : Ext w w0 := y0
    have e0_0 := y1.cell (b0.1 0 (.bool s1) rfl)
    have e0_1 := y1.cell (b0.1 1 (.slice A1 L1 c1) rfl)
    have e0_2 := y1.cell (b0.1 2 (.slice B1 M1 d1) rfl)
    have e1_0 := b1.1 0 (.bool s2) rfl
    have e1_1 := b1.1 1 (.slice A2 L2 c2) rfl
    have e1_2 := b1.1 2 (.slice B2 M2 d2) rfl
    simp only [World.size_alloc] at e1_0 e1_1 e1_2
    clear hw0 b0 b1 y0 y1
    go_wp2_with fail
    refine (awake5 _).mono ?_
    rintro e w1 ⟨rfl, x1⟩
    replace e0_0 := x1.cell e0_0
    replace e0_1 := x1.cell e0_1
    replace e0_2 := x1.cell e0_2
    replace e1_0 := x1.cell e1_0
    replace e1_1 := x1.cell e1_1
    replace e1_2 := x1.cell e1_2
    go_wp2_with fail
    refine (few5 (n := 6) (by omega) (by omega) (by omega) (by omega) (by omega) (by omega)).mono ?_
    rintro e w2 ⟨rfl, x2⟩
    replace e0_0 := x2.cell e0_0
    replace e0_1 := x2.cell e0_1
    replace e0_2 := x2.cell e0_2
    replace e1_0 := x2.cell e1_0
    replace e1_1 := x2.cell e1_1
    replace e1_2 := x2.cell e1_2
    rw [HF.out]
    clear hsz
    go_wp2_with fail
    refine (awake5 _).mono ?_
    rintro e w3 ⟨rfl, x3⟩
    replace e0_0 := x3.cell e0_0
    replace e0_1 := x3.cell e0_1
    replace e0_2 := x3.cell e0_2
    replace e1_0 := x3.cell e1_0
    replace e1_1 := x3.cell e1_1
    replace e1_2 := x3.cell e1_2
    go_wp2_with fail
    go_ret
    exact ⟨rfl, (by repeat' (first | with_reducible exact Ext.refl _ | with_reducible assumption | with_reducible apply Ext.alloc_r | with_reducible apply Ext.drew_r | with_reducible apply Ext.drewN_r | with_reducible refine Ext.trans ?_ ‹Ext _ _›))⟩
end Go.Proofs.Ytfnmbhjifdfibaa
