/- The walk of RationalAdds. -/
import Derived.Test.YtfnmbhjifdfibaaLaw5b
import Derived.Test.YtfnmbhjifdfibaaKept
namespace Go.Proofs.Ytfnmbhjifdfibaa
open Go.RowKit
set_option maxHeartbeats 40000000 in
set_option maxRecDepth 100000 in
theorem rationalAdds_walk {w : World} {s1 : Bool} {A1 B1 : Option Addr} {c1 L1 d1 M1 : Nat} {x1 : Int} {y1 : Nat} {s2 : Bool} {A2 B2 : Option Addr} {c2 L2 d2 M2 : Nat} {x2 : Int} {y2 : Nat} (h1 : RW w s1 A1 c1 L1 B1 d1 M1 x1 y1) (h2 : RW w s2 A2 c2 L2 B2 d2 M2 x2 y2) :
    Calls Try.prog 7 #[Value.agg #[Value.bool s1, Value.slice A1 L1 c1, Value.slice B1 M1 d1], Value.agg #[Value.bool s2, Value.slice A2 L2 c2, Value.slice B2 M2 d2]] w fun e w' => e = .returned (.bool true) ∧ Ext w w' := by
  have pa1 := h1.num.nv.cap
  have pb1 := h1.den.cap
  have qa1 := h1.num.nv.le
  have qb1 := h1.den.le
  have pa2 := h2.num.nv.cap
  have pb2 := h2.den.cap
  have qa2 := h2.num.nv.le
  have qb2 := h2.den.le
  by_cases hf : L1 ≤ 6 ∧ M1 ≤ 6 ∧ L2 ≤ 6 ∧ M2 ≤ 6
  · have e1 := h1.rv (N := 6) (by omega) (by omega) (by omega)
    have e2 := h2.rv (N := 6) (by omega) (by omega) (by omega)
    have HF : Hid (((decide (L1 ≤ 6) && (decide (M1 ≤ 6) && decide (L2 ≤ 6))) && (decide (M2 ≤ 6) && (decide (L1 ≤ 6) && decide (M1 ≤ 6)))) = true) := by show _ = _; simp only [decide_eq_true_eq, Bool.and_eq_true]; omega
    have HO1 : Hid (∀ w', Ext w w' → Calls Try.prog 16 #[Value.agg #[Value.bool s1, Value.slice A1 L1 c1, Value.slice B1 M1 d1]] w' (RetQ w' 192 (mkRat x1 y1))) := fun w' hx => lof5 (h1.ext hx) (by omega) (by omega) (by omega) (by omega)
    generalize mkRat x1 y1 = q1 at *
    have HO2 : Hid (∀ w', Ext w w' → Calls Try.prog 16 #[Value.agg #[Value.bool s2, Value.slice A2 L2 c2, Value.slice B2 M2 d2]] w' (RetQ w' 192 (mkRat x2 y2))) := fun w' hx => lof5 (h2.ext hx) (by omega) (by omega) (by omega) (by omega)
    generalize mkRat x2 y2 = q2 at *
    clear hf h1 h2
    go_enter Try.func7, Try.ntmps7
    go_wp2_with fail
    obtain ⟨w0, hw0⟩ : ∃ z : World, z = ((w.alloc (.cells #[.bool s1, .slice A1 L1 c1, .slice B1 M1 d1] 27)).alloc (.cells #[.bool s2, .slice A2 L2 c2, .slice B2 M2 d2] 27)) := ⟨_, rfl⟩
    rw [← hw0]
    have b0 := box_at w #[.bool s1, .slice A1 L1 c1, .slice B1 M1 d1] 27
    have b1 := box_at (w.alloc (.cells #[.bool s1, .slice A1 L1 c1, .slice B1 M1 d1] 27)) #[.bool s2, .slice A2 L2 c2, .slice B2 M2 d2] 27
    have hsz : w0.heap.size = w.heap.size + 1 + 1 := by rw [hw0]; simp
    rw [← hw0] at b1
    have y1 : Ext (w.alloc (.cells #[.bool s1, .slice A1 L1 c1, .slice B1 M1 d1] 27)) w0 := by rw [hw0]; exact Ext.alloc _ _
    have y0 : Ext w w0 := (Ext.alloc _ _).trans y1
    have x0 : Ext w w0 := y0
    have e0_0 := y1.cell (b0.1 0 (.bool s1) rfl)
    have e0_1 := y1.cell (b0.1 1 (.slice A1 L1 c1) rfl)
    have e0_2 := y1.cell (b0.1 2 (.slice B1 M1 d1) rfl)
    have e1_0 := b1.1 0 (.bool s2) rfl
    have e1_1 := b1.1 1 (.slice A2 L2 c2) rfl
    have e1_2 := b1.1 2 (.slice B2 M2 d2) rfl
    simp only [World.size_alloc] at e1_0 e1_1 e1_2
    clear hw0 b0 b1 y0 y1
    go_wp2_with fail
    refine (awake5 _).mono ?_
    rintro e w1 ⟨rfl, x1⟩
    replace e0_0 := x1.cell e0_0
    replace e0_1 := x1.cell e0_1
    replace e0_2 := x1.cell e0_2
    replace e1_0 := x1.cell e1_0
    replace e1_1 := x1.cell e1_1
    replace e1_2 := x1.cell e1_2
    go_wp2_with fail
    refine (few5 (n := 6) (by omega) (by omega) (by omega) (by omega) (by omega) (by omega)).mono ?_
    rintro e w2 ⟨rfl, x2⟩
    replace e0_0 := x2.cell e0_0
    replace e0_1 := x2.cell e0_1
    replace e0_2 := x2.cell e0_2
    replace e1_0 := x2.cell e1_0
    replace e1_1 := x2.cell e1_1
    replace e1_2 := x2.cell e1_2
    rw [HF.out]
    clear hsz
    go_wp2_with fail
    go_cut [5, 6] (fun s5 s6 wx => PutQ w2 wx 192 q1 s5 ∧ PutQ w2 wx 192 q2 s6)
    case first =>
      have HK : Hid (∀ w', Ext w2 w' → Ext w2 w' ∧ w'.cell? ⟨w.heap.size, 0, none⟩ = some (.bool s1) ∧ w'.cell? ⟨w.heap.size, 1, none⟩ = some (.slice A1 L1 c1) ∧ w'.cell? ⟨w.heap.size, 2, none⟩ = some (.slice B1 M1 d1) ∧ w'.cell? ⟨w.heap.size + 1, 0, none⟩ = some (.bool s2) ∧ w'.cell? ⟨w.heap.size + 1, 1, none⟩ = some (.slice A2 L2 c2) ∧ w'.cell? ⟨w.heap.size + 1, 2, none⟩ = some (.slice B2 M2 d2)) := fun w' hk => ⟨hk, hk.cell e0_0, hk.cell e0_1, hk.cell e0_2, hk.cell e1_0, hk.cell e1_1, hk.cell e1_2⟩
      first
      | go_region_held3 (fun w' => Ext w2 w' ∧ w'.cell? ⟨w.heap.size, 0, none⟩ = some (.bool s1) ∧ w'.cell? ⟨w.heap.size, 1, none⟩ = some (.slice A1 L1 c1) ∧ w'.cell? ⟨w.heap.size, 2, none⟩ = some (.slice B1 M1 d1) ∧ w'.cell? ⟨w.heap.size + 1, 0, none⟩ = some (.bool s2) ∧ w'.cell? ⟨w.heap.size + 1, 1, none⟩ = some (.slice A2 L2 c2) ∧ w'.cell? ⟨w.heap.size + 1, 2, none⟩ = some (.slice B2 M2 d2))
          ((with_reducible refine HK.out _ ?_; (repeat' (first | with_reducible exact Ext.refl _ | with_reducible assumption | with_reducible apply Ext.alloc_r | with_reducible apply Ext.drew_r | with_reducible apply Ext.drewN_r | with_reducible apply Ext.set_r | with_reducible exact Nat.le_refl _ | omega | with_reducible refine Ext.trans ?_ ‹Ext _ _›))))
          (first
            | (go_at_call_of 16 (#[Value.agg #[Value.bool s2, Value.slice A2 L2 c2, Value.slice B2 M2 d2]]); have hgd := oa; clear hgd; refine (HO2.out _ (by repeat' (first | with_reducible exact Ext.refl _ | with_reducible assumption | with_reducible apply Ext.alloc_r | with_reducible apply Ext.drew_r | with_reducible apply Ext.drewN_r | with_reducible refine Ext.trans ?_ ‹Ext _ _›))).mono ?_; rintro e w4 ⟨gob, Aob, cob, Lob, hob, Bob, dob, Mob, rfl, ob, x4⟩; (have zs4 := x4.size); (try simp only [World.size_alloc] at zs4); (try ((with_reducible have h4_0 := box_ext (vs := #[.int .i64 0, .slice none 0 0, .int .i64 0, .slice none 0 0]) x4); have h4_0c0 := (h4_0.1 0 (.int .i64 0) rfl).1; have h4_0f0 := (h4_0.1 0 (.int .i64 0) rfl).2; have h4_0c1 := (h4_0.1 1 (.slice none 0 0) rfl).1; have h4_0f1 := (h4_0.1 1 (.slice none 0 0) rfl).2; have h4_0c2 := (h4_0.1 2 (.int .i64 0) rfl).1; have h4_0f2 := (h4_0.1 2 (.int .i64 0) rfl).2; have h4_0c3 := (h4_0.1 3 (.slice none 0 0) rfl).1; have h4_0f3 := (h4_0.1 3 (.slice none 0 0) rfl).2; have h4_0b := h4_0.2.1; have h4_0z := h4_0.2.2; (try simp only [World.size_alloc] at h4_0b h4_0z h4_0c0 h4_0f0 h4_0c1 h4_0f1 h4_0c2 h4_0f2 h4_0c3 h4_0f3); have h4_0m := Nat.ne_of_lt h4_0z; have h4_0n := Nat.ne_of_gt h4_0z; clear h4_0)); (try ((with_reducible have h4_1 := box_ext (vs := #[.int .i64 0, .slice none 0 0, .int .i64 0, .slice none 0 0]) ((Ext.alloc _ _).trans x4)); have h4_1c0 := (h4_1.1 0 (.int .i64 0) rfl).1; have h4_1f0 := (h4_1.1 0 (.int .i64 0) rfl).2; have h4_1c1 := (h4_1.1 1 (.slice none 0 0) rfl).1; have h4_1f1 := (h4_1.1 1 (.slice none 0 0) rfl).2; have h4_1c2 := (h4_1.1 2 (.int .i64 0) rfl).1; have h4_1f2 := (h4_1.1 2 (.int .i64 0) rfl).2; have h4_1c3 := (h4_1.1 3 (.slice none 0 0) rfl).1; have h4_1f3 := (h4_1.1 3 (.slice none 0 0) rfl).2; have h4_1b := h4_1.2.1; have h4_1z := h4_1.2.2; (try simp only [World.size_alloc] at h4_1b h4_1z h4_1c0 h4_1f0 h4_1c1 h4_1f1 h4_1c2 h4_1f2 h4_1c3 h4_1f3); have h4_1m := Nat.ne_of_lt h4_1z; have h4_1n := Nat.ne_of_gt h4_1z; clear h4_1)); (try (have hh : Ext w3 w4 := ?g400; (case g400 => ((repeat' (first | with_reducible exact Ext.refl _ | with_reducible assumption | with_reducible apply Ext.alloc_r | with_reducible apply Ext.drew_r | with_reducible apply Ext.drewN_r | with_reducible refine Ext.trans ?_ ‹Ext _ _›)); done)); replace h3_0f0 := hh.frozen h3_0c0 h3_0f0; replace h3_0c0 := hh.cell h3_0c0; replace h3_0f1 := hh.frozen h3_0c1 h3_0f1; replace h3_0c1 := hh.cell h3_0c1; replace h3_0f2 := hh.frozen h3_0c2 h3_0f2; replace h3_0c2 := hh.cell h3_0c2; replace h3_0f3 := hh.frozen h3_0c3 h3_0f3; replace h3_0c3 := hh.cell h3_0c3; replace h3_0b := h3_0b.ext hh; have h3_0z2 := Nat.lt_of_lt_of_le h3_0z hh.size; have h3_0m2 := Nat.ne_of_lt h3_0z2; have h3_0n2 := Nat.ne_of_gt h3_0z2; clear hh)); (try (have hh : Ext w3 w4 := ?g401; (case g401 => ((repeat' (first | with_reducible exact Ext.refl _ | with_reducible assumption | with_reducible apply Ext.alloc_r | with_reducible apply Ext.drew_r | with_reducible apply Ext.drewN_r | with_reducible refine Ext.trans ?_ ‹Ext _ _›)); done)); replace h3_1f0 := hh.frozen h3_1c0 h3_1f0; replace h3_1c0 := hh.cell h3_1c0; replace h3_1f1 := hh.frozen h3_1c1 h3_1f1; replace h3_1c1 := hh.cell h3_1c1; replace h3_1f2 := hh.frozen h3_1c2 h3_1f2; replace h3_1c2 := hh.cell h3_1c2; replace h3_1f3 := hh.frozen h3_1c3 h3_1f3; replace h3_1c3 := hh.cell h3_1c3; replace h3_1b := h3_1b.ext hh; have h3_1z2 := Nat.lt_of_lt_of_le h3_1z hh.size; have h3_1m2 := Nat.ne_of_lt h3_1z2; have h3_1n2 := Nat.ne_of_gt h3_1z2; clear hh)))
            | (go_at_call_of 16 (#[Value.agg #[Value.bool s1, Value.slice A1 L1 c1, Value.slice B1 M1 d1]]); refine (HO1.out _ (by repeat' (first | with_reducible exact Ext.refl _ | with_reducible assumption | with_reducible apply Ext.alloc_r | with_reducible apply Ext.drew_r | with_reducible apply Ext.drewN_r | with_reducible refine Ext.trans ?_ ‹Ext _ _›))).mono ?_; rintro e w3 ⟨goa, Aoa, coa, Loa, hoa, Boa, doa, Moa, rfl, oa, x3⟩; (have zs3 := x3.size); (try simp only [World.size_alloc, World.size_drew] at zs3); (try ((with_reducible have h3_0 := box_ext (vs := #[.int .i64 0, .slice none 0 0, .int .i64 0, .slice none 0 0]) ((Ext.drew _).trans x3)); have h3_0c0 := (h3_0.1 0 (.int .i64 0) rfl).1; have h3_0f0 := (h3_0.1 0 (.int .i64 0) rfl).2; have h3_0c1 := (h3_0.1 1 (.slice none 0 0) rfl).1; have h3_0f1 := (h3_0.1 1 (.slice none 0 0) rfl).2; have h3_0c2 := (h3_0.1 2 (.int .i64 0) rfl).1; have h3_0f2 := (h3_0.1 2 (.int .i64 0) rfl).2; have h3_0c3 := (h3_0.1 3 (.slice none 0 0) rfl).1; have h3_0f3 := (h3_0.1 3 (.slice none 0 0) rfl).2; have h3_0b := h3_0.2.1; have h3_0z := h3_0.2.2; (try simp only [World.size_alloc] at h3_0b h3_0z h3_0c0 h3_0f0 h3_0c1 h3_0f1 h3_0c2 h3_0f2 h3_0c3 h3_0f3); have h3_0m := Nat.ne_of_lt h3_0z; have h3_0n := Nat.ne_of_gt h3_0z; clear h3_0)); (try ((with_reducible have h3_1 := box_ext (vs := #[.int .i64 0, .slice none 0 0, .int .i64 0, .slice none 0 0]) (((Ext.alloc _ _).trans (Ext.drew _)).trans x3)); have h3_1c0 := (h3_1.1 0 (.int .i64 0) rfl).1; have h3_1f0 := (h3_1.1 0 (.int .i64 0) rfl).2; have h3_1c1 := (h3_1.1 1 (.slice none 0 0) rfl).1; have h3_1f1 := (h3_1.1 1 (.slice none 0 0) rfl).2; have h3_1c2 := (h3_1.1 2 (.int .i64 0) rfl).1; have h3_1f2 := (h3_1.1 2 (.int .i64 0) rfl).2; have h3_1c3 := (h3_1.1 3 (.slice none 0 0) rfl).1; have h3_1f3 := (h3_1.1 3 (.slice none 0 0) rfl).2; have h3_1b := h3_1.2.1; have h3_1z := h3_1.2.2; (try simp only [World.size_alloc] at h3_1b h3_1z h3_1c0 h3_1f0 h3_1c1 h3_1f1 h3_1c2 h3_1f2 h3_1c3 h3_1f3); have h3_1m := Nat.ne_of_lt h3_1z; have h3_1n := Nat.ne_of_gt h3_1z; clear h3_1))))
      | fail
      all_goals (clear HK; go_wp2_with fail; go_meet)
      all_goals
        refine ⟨?_, ?_⟩
        · refine PutQ.mk (g := goa) (A := Aoa) (c := coa) (L := Loa) (h := hoa) (B := Boa) (d := doa) (M := Moa) ?_ (oa.kept ?_) ?_
          · refine Bx.mk4 ?_ ?_ ?_ ?_
            · go_simp
            · go_simp
            · go_simp
            · go_simp
          · (repeat' (first | with_reducible exact Kept.refl _ | with_reducible apply Kept.alloc_r | with_reducible apply Kept.drew_r | (with_reducible apply Kept.setQ; (case hb => ((repeat' (first | with_reducible assumption | with_reducible apply IsBox.set_ | (with_reducible apply IsBox.new; (first | (with_reducible rfl) | simp); done) | with_reducible apply IsBox.alloc_ | with_reducible apply IsBox.drew_ | with_reducible refine IsBox.ext ?_ ‹Ext _ _›)); done))) | (with_reducible apply Kept.setR; (case hb => ((repeat' (first | with_reducible assumption | with_reducible apply IsBox.set_ | (with_reducible apply IsBox.new; (first | (with_reducible rfl) | simp); done) | with_reducible apply IsBox.alloc_ | with_reducible apply IsBox.drew_ | with_reducible refine IsBox.ext ?_ ‹Ext _ _›)); done))) | (with_reducible apply Kept.setZ; (case hb => ((repeat' (first | with_reducible assumption | with_reducible apply IsBox.set_ | (with_reducible apply IsBox.new; (first | (with_reducible rfl) | simp); done) | with_reducible apply IsBox.alloc_ | with_reducible apply IsBox.drew_ | with_reducible refine IsBox.ext ?_ ‹Ext _ _›)); done))) | (with_reducible apply Kept.setI; (case hb => ((repeat' (first | with_reducible assumption | with_reducible apply IsBox.set_ | (with_reducible apply IsBox.new; (first | (with_reducible rfl) | simp); done) | with_reducible apply IsBox.alloc_ | with_reducible apply IsBox.drew_ | with_reducible refine IsBox.ext ?_ ‹Ext _ _›)); done))) | with_reducible refine Kept.trans ?_ (Ext.kept ‹Ext _ _›)))
          · (repeat' (first | with_reducible exact Ext.refl _ | with_reducible assumption | with_reducible apply Ext.alloc_r | with_reducible apply Ext.drew_r | with_reducible apply Ext.drewN_r | with_reducible apply Ext.set_r | with_reducible exact Nat.le_refl _ | omega | with_reducible refine Ext.trans ?_ ‹Ext _ _›))
        · refine PutQ.mk (g := gob) (A := Aob) (c := cob) (L := Lob) (h := hob) (B := Bob) (d := dob) (M := Mob) ?_ (ob.kept ?_) ?_
          · refine Bx.mk4 ?_ ?_ ?_ ?_
            · go_simp
            · go_simp
            · go_simp
            · go_simp
          · (repeat' (first | with_reducible exact Kept.refl _ | with_reducible apply Kept.alloc_r | with_reducible apply Kept.drew_r | (with_reducible apply Kept.setQ; (case hb => ((repeat' (first | with_reducible assumption | with_reducible apply IsBox.set_ | (with_reducible apply IsBox.new; (first | (with_reducible rfl) | simp); done) | with_reducible apply IsBox.alloc_ | with_reducible apply IsBox.drew_ | with_reducible refine IsBox.ext ?_ ‹Ext _ _›)); done))) | (with_reducible apply Kept.setR; (case hb => ((repeat' (first | with_reducible assumption | with_reducible apply IsBox.set_ | (with_reducible apply IsBox.new; (first | (with_reducible rfl) | simp); done) | with_reducible apply IsBox.alloc_ | with_reducible apply IsBox.drew_ | with_reducible refine IsBox.ext ?_ ‹Ext _ _›)); done))) | (with_reducible apply Kept.setZ; (case hb => ((repeat' (first | with_reducible assumption | with_reducible apply IsBox.set_ | (with_reducible apply IsBox.new; (first | (with_reducible rfl) | simp); done) | with_reducible apply IsBox.alloc_ | with_reducible apply IsBox.drew_ | with_reducible refine IsBox.ext ?_ ‹Ext _ _›)); done))) | (with_reducible apply Kept.setI; (case hb => ((repeat' (first | with_reducible assumption | with_reducible apply IsBox.set_ | (with_reducible apply IsBox.new; (first | (with_reducible rfl) | simp); done) | with_reducible apply IsBox.alloc_ | with_reducible apply IsBox.drew_ | with_reducible refine IsBox.ext ?_ ‹Ext _ _›)); done))) | with_reducible refine Kept.trans ?_ (Ext.kept ‹Ext _ _›)))
          · (repeat' (first | with_reducible exact Ext.refl _ | with_reducible assumption | with_reducible apply Ext.alloc_r | with_reducible apply Ext.drew_r | with_reducible apply Ext.drewN_r | with_reducible apply Ext.set_r | with_reducible exact Nat.le_refl _ | omega | with_reducible refine Ext.trans ?_ ‹Ext _ _›))
    case rest =>
      have hcw := hcut
      obtain ⟨hc_0, hc_1⟩ := hcw
      obtain ⟨gx, Ax, cx, Lx, hx, Bx, dx, Mx, ⟨bkx, rfl, ccx⟩, x, xxx⟩ := hc_0
      obtain ⟨gy, Ay, cy, Ly, hy, By, dy, My, ⟨bky, rfl, ccy⟩, y, xxy⟩ := hc_1
      have x5 := xxx
      clear xxx
      clear xxy
      obtain ⟨wc5, rfl⟩ : ∃ z : World, z = wc := ⟨_, rfl⟩
      replace e0_0 := x5.cell e0_0
      replace e0_1 := x5.cell e0_1
      replace e0_2 := x5.cell e0_2
      replace e1_0 := x5.cell e1_0
      replace e1_1 := x5.cell e1_1
      replace e1_2 := x5.cell e1_2
      have x_0 := ccx 0 (.int .i64 gx) rfl
      have x_1 := ccx 1 (.slice Ax Lx cx) rfl
      have x_2 := ccx 2 (.int .i64 hx) rfl
      have x_3 := ccx 3 (.slice Bx Mx dx) rfl
      clear ccx
      have y_0 := ccy 0 (.int .i64 gy) rfl
      have y_1 := ccy 1 (.slice Ay Ly cy) rfl
      have y_2 := ccy 2 (.int .i64 hy) rfl
      have y_3 := ccy 3 (.slice By My dy) rfl
      clear ccy
      have hgx := x.sign
      obtain ⟨K, hK⟩ : ∃ K : Int, K = cmpQ q1 q2 := ⟨_, rfl⟩
      have HKK := Lib.hid hK
      clear hK
      rcases (show q1.num.sign = -1 ∨ ¬ q1.num.sign < 0 by rcases sign_cases q1.num with ⟨h5, h6⟩ | ⟨h5, h6⟩ | ⟨h5, h6⟩ <;> omega) with hneg | hneg
      · have HX := Lib.hid hgx
        have hgn : gx < 0 := by rw [hgx, hneg]; omega
        have HB : Hid (-q1 = absQ q1) := by show _ = _; unfold absQ; rw [if_pos (Int.sign_eq_neg_one_iff_neg.1 hneg)]
        clear hgx hneg
        have HA_ab := Lib.hid (And.intro True.intro (And.intro e0_0 (And.intro e0_1 (And.intro e0_2 (And.intro e1_0 (And.intro e1_1 (And.intro e1_2 (And.intro x_0 (And.intro x_1 (And.intro x_2 (And.intro x_3 (And.intro y_0 (And.intro y_1 (And.intro y_2 y_3))))))))))))))
        have te0_0 := fun o => (Ext.alloc wc5 o).cell e0_0
        have te0_1 := fun o => (Ext.alloc wc5 o).cell e0_1
        have te0_2 := fun o => (Ext.alloc wc5 o).cell e0_2
        have te1_0 := fun o => (Ext.alloc wc5 o).cell e1_0
        have te1_1 := fun o => (Ext.alloc wc5 o).cell e1_1
        have te1_2 := fun o => (Ext.alloc wc5 o).cell e1_2
        have tx_0 := fun o => (Ext.alloc wc5 o).cell x_0
        have tx_1 := fun o => (Ext.alloc wc5 o).cell x_1
        have tx_2 := fun o => (Ext.alloc wc5 o).cell x_2
        have tx_3 := fun o => (Ext.alloc wc5 o).cell x_3
        have ty_0 := fun o => (Ext.alloc wc5 o).cell y_0
        have ty_1 := fun o => (Ext.alloc wc5 o).cell y_1
        have ty_2 := fun o => (Ext.alloc wc5 o).cell y_2
        have ty_3 := fun o => (Ext.alloc wc5 o).cell y_3
        go_wp2_with fail
        clear te0_0 te0_1 te0_2 te1_0 te1_1 te1_2 tx_0 tx_1 tx_2 tx_3 ty_0 ty_1 ty_2 ty_3
        obtain ⟨w6, hw⟩ : ∃ z : World, z = (wc5.alloc (.cells #[.int .i64 gx, .slice Ax Lx cx, .int .i64 hx, .slice Bx Mx dx] 38)) := ⟨_, rfl⟩
        rw [← hw]
        have x6 : Ext wc5 w6 := by rw [hw]; exact Ext.alloc _ _
        have bb := box_at wc5 #[.int .i64 gx, .slice Ax Lx cx, .int .i64 hx, .slice Bx Mx dx] 38
        rw [← hw] at bb
        replace e0_0 := x6.cell e0_0
        replace e0_1 := x6.cell e0_1
        replace e0_2 := x6.cell e0_2
        replace e1_0 := x6.cell e1_0
        replace e1_1 := x6.cell e1_1
        replace e1_2 := x6.cell e1_2
        replace x_0 := x6.cell x_0
        replace x_1 := x6.cell x_1
        replace x_2 := x6.cell x_2
        replace x_3 := x6.cell x_3
        replace y_0 := x6.cell y_0
        replace y_1 := x6.cell y_1
        replace y_2 := x6.cell y_2
        replace y_3 := x6.cell y_3
        have ab_0 := bb.1 0 (.int .i64 gx) rfl
        have fab_0 := bb.2 0
        have ab_1 := bb.1 1 (.slice Ax Lx cx) rfl
        have fab_1 := bb.2 1
        have ab_2 := bb.1 2 (.int .i64 hx) rfl
        have fab_2 := bb.2 2
        have ab_3 := bb.1 3 (.slice Bx Mx dx) rfl
        have fab_3 := bb.2 3
        have ibab : IsBox w6 wc5.heap.size 38 := by rw [hw]; exact IsBox.new _ _ rfl
        clear hw bb
        refine (qneg_r (x.ext (by repeat' (first | with_reducible exact Ext.refl _ | with_reducible assumption | with_reducible apply Ext.alloc_r | with_reducible apply Ext.drew_r | with_reducible apply Ext.drewN_r | with_reducible refine Ext.trans ?_ ‹Ext _ _›)))).mono ?_
        rintro e w7 ⟨gnx, Anx, cnx, Lnx, hnx, Bnx, dnx, Mnx, rfl, nx, x7⟩
        replace fab_0 := x7.frozen ab_0 fab_0
        replace fab_1 := x7.frozen ab_1 fab_1
        replace fab_2 := x7.frozen ab_2 fab_2
        replace fab_3 := x7.frozen ab_3 fab_3
        replace e0_0 := x7.cell e0_0
        replace e0_1 := x7.cell e0_1
        replace e0_2 := x7.cell e0_2
        replace e1_0 := x7.cell e1_0
        replace e1_1 := x7.cell e1_1
        replace e1_2 := x7.cell e1_2
        replace x_0 := x7.cell x_0
        replace x_1 := x7.cell x_1
        replace x_2 := x7.cell x_2
        replace x_3 := x7.cell x_3
        replace y_0 := x7.cell y_0
        replace y_1 := x7.cell y_1
        replace y_2 := x7.cell y_2
        replace y_3 := x7.cell y_3
        replace ab_0 := x7.cell ab_0
        replace ab_1 := x7.cell ab_1
        replace ab_2 := x7.cell ab_2
        replace ab_3 := x7.cell ab_3
        obtain ⟨oe0_0, oe0_1, oe0_2, oe1_0, oe1_1, oe1_2, ox_0, ox_1, ox_2, ox_3, oy_0, oy_1, oy_2, oy_3⟩ := HA_ab.out.2
        have ne0_0 := Nat.ne_of_lt (World.block_lt_of_cell? wc5 _ oe0_0)
        have me0_0 := Nat.ne_of_gt (World.block_lt_of_cell? wc5 _ oe0_0)
        simp only at ne0_0 me0_0
        have ne1_0 := Nat.ne_of_lt (World.block_lt_of_cell? wc5 _ oe1_0)
        have me1_0 := Nat.ne_of_gt (World.block_lt_of_cell? wc5 _ oe1_0)
        simp only at ne1_0 me1_0
        have nx_0 := Nat.ne_of_lt (World.block_lt_of_cell? wc5 _ ox_0)
        have mx_0 := Nat.ne_of_gt (World.block_lt_of_cell? wc5 _ ox_0)
        simp only at nx_0 mx_0
        have ny_0 := Nat.ne_of_lt (World.block_lt_of_cell? wc5 _ oy_0)
        have my_0 := Nat.ne_of_gt (World.block_lt_of_cell? wc5 _ oy_0)
        simp only at ny_0 my_0
        go_wp2_with fail
        clear ne0_0 me0_0 ne1_0 me1_0 nx_0 mx_0 ny_0 my_0
        obtain ⟨w8, hw⟩ : ∃ z : World, z = ((((w7.setCell ⟨wc5.heap.size, 0, none⟩ (.int .i64 gnx)).setCell ⟨wc5.heap.size, 1, none⟩ (.slice Anx Lnx cnx)).setCell ⟨wc5.heap.size, 2, none⟩ (.int .i64 hnx)).setCell ⟨wc5.heap.size, 3, none⟩ (.slice Bnx Mnx dnx)) := ⟨_, rfl⟩
        rw [← hw]
        have x8 : Ext wc5 w8 := by rw [hw]; (repeat' (first | with_reducible exact Ext.refl _ | with_reducible assumption | with_reducible apply Ext.alloc_r | with_reducible apply Ext.drew_r | with_reducible apply Ext.drewN_r | with_reducible apply Ext.set_r | with_reducible exact Nat.le_refl _ | omega | with_reducible refine Ext.trans ?_ ‹Ext _ _›))
        have ib : IsBox w7 wc5.heap.size 38 := IsBox.ext ibab (by repeat' (first | with_reducible exact Ext.refl _ | with_reducible assumption | with_reducible apply Ext.alloc_r | with_reducible apply Ext.drew_r | with_reducible apply Ext.drewN_r | with_reducible refine Ext.trans ?_ ‹Ext _ _›))
        have kw8 : Kept w7 w8 := by rw [hw]; exact Kept.set_ (Kept.set_ (Kept.set_ (Kept.set_ (Kept.refl _) ib plain_Q) (IsBox.set_ ib) plain_Q) (IsBox.set_ (IsBox.set_ ib)) plain_Q) (IsBox.set_ (IsBox.set_ (IsBox.set_ ib))) plain_Q
        replace nx := nx.kept kw8
        clear fab_0
        clear fab_1
        clear fab_2
        clear fab_3
        replace e0_0 := x8.cell oe0_0
        replace e0_1 := x8.cell oe0_1
        replace e0_2 := x8.cell oe0_2
        replace e1_0 := x8.cell oe1_0
        replace e1_1 := x8.cell oe1_1
        replace e1_2 := x8.cell oe1_2
        replace x_0 := x8.cell ox_0
        replace x_1 := x8.cell ox_1
        replace x_2 := x8.cell ox_2
        replace x_3 := x8.cell ox_3
        replace y_0 := x8.cell oy_0
        replace y_1 := x8.cell oy_1
        replace y_2 := x8.cell oy_2
        replace y_3 := x8.cell oy_3
        clear oe0_0 oe0_1 oe0_2 oe1_0 oe1_1 oe1_2 ox_0 ox_1 ox_2 ox_3 oy_0 oy_1 oy_2 oy_3
        replace ab_0 : w8.cell? ⟨wc5.heap.size, 0, none⟩ = some (.int .i64 gnx) := by rw [hw]; go_simp
        replace ab_1 : w8.cell? ⟨wc5.heap.size, 1, none⟩ = some (.slice Anx Lnx cnx) := by rw [hw]; go_simp
        replace ab_2 : w8.cell? ⟨wc5.heap.size, 2, none⟩ = some (.int .i64 hnx) := by rw [hw]; go_simp
        replace ab_3 : w8.cell? ⟨wc5.heap.size, 3, none⟩ = some (.slice Bnx Mnx dnx) := by rw [hw]; go_simp
        clear hw ib ibab kw8 HA_ab
        go_wp2_with fail
        have HK : Hid (∀ w', Ext w8 w' → Ext w8 w' ∧ w'.cell? ⟨w.heap.size, 0, none⟩ = some (.bool s1) ∧ w'.cell? ⟨w.heap.size, 1, none⟩ = some (.slice A1 L1 c1) ∧ w'.cell? ⟨w.heap.size, 2, none⟩ = some (.slice B1 M1 d1) ∧ w'.cell? ⟨w.heap.size + 1, 0, none⟩ = some (.bool s2) ∧ w'.cell? ⟨w.heap.size + 1, 1, none⟩ = some (.slice A2 L2 c2) ∧ w'.cell? ⟨w.heap.size + 1, 2, none⟩ = some (.slice B2 M2 d2) ∧ w'.cell? ⟨bkx, 0, none⟩ = some (.int .i64 gx) ∧ w'.cell? ⟨bkx, 1, none⟩ = some (.slice Ax Lx cx) ∧ w'.cell? ⟨bkx, 2, none⟩ = some (.int .i64 hx) ∧ w'.cell? ⟨bkx, 3, none⟩ = some (.slice Bx Mx dx) ∧ w'.cell? ⟨bky, 0, none⟩ = some (.int .i64 gy) ∧ w'.cell? ⟨bky, 1, none⟩ = some (.slice Ay Ly cy) ∧ w'.cell? ⟨bky, 2, none⟩ = some (.int .i64 hy) ∧ w'.cell? ⟨bky, 3, none⟩ = some (.slice By My dy) ∧ w'.cell? ⟨wc5.heap.size, 0, none⟩ = some (.int .i64 gnx) ∧ w'.cell? ⟨wc5.heap.size, 1, none⟩ = some (.slice Anx Lnx cnx) ∧ w'.cell? ⟨wc5.heap.size, 2, none⟩ = some (.int .i64 hnx) ∧ w'.cell? ⟨wc5.heap.size, 3, none⟩ = some (.slice Bnx Mnx dnx)) := fun w' hk => ⟨hk, hk.cell e0_0, hk.cell e0_1, hk.cell e0_2, hk.cell e1_0, hk.cell e1_1, hk.cell e1_2, hk.cell x_0, hk.cell x_1, hk.cell x_2, hk.cell x_3, hk.cell y_0, hk.cell y_1, hk.cell y_2, hk.cell y_3, hk.cell ab_0, hk.cell ab_1, hk.cell ab_2, hk.cell ab_3⟩
        try dsimp only [List.append]
        first
        | go_region_held3 (fun w' => Ext w8 w' ∧ w'.cell? ⟨w.heap.size, 0, none⟩ = some (.bool s1) ∧ w'.cell? ⟨w.heap.size, 1, none⟩ = some (.slice A1 L1 c1) ∧ w'.cell? ⟨w.heap.size, 2, none⟩ = some (.slice B1 M1 d1) ∧ w'.cell? ⟨w.heap.size + 1, 0, none⟩ = some (.bool s2) ∧ w'.cell? ⟨w.heap.size + 1, 1, none⟩ = some (.slice A2 L2 c2) ∧ w'.cell? ⟨w.heap.size + 1, 2, none⟩ = some (.slice B2 M2 d2) ∧ w'.cell? ⟨bkx, 0, none⟩ = some (.int .i64 gx) ∧ w'.cell? ⟨bkx, 1, none⟩ = some (.slice Ax Lx cx) ∧ w'.cell? ⟨bkx, 2, none⟩ = some (.int .i64 hx) ∧ w'.cell? ⟨bkx, 3, none⟩ = some (.slice Bx Mx dx) ∧ w'.cell? ⟨bky, 0, none⟩ = some (.int .i64 gy) ∧ w'.cell? ⟨bky, 1, none⟩ = some (.slice Ay Ly cy) ∧ w'.cell? ⟨bky, 2, none⟩ = some (.int .i64 hy) ∧ w'.cell? ⟨bky, 3, none⟩ = some (.slice By My dy) ∧ w'.cell? ⟨wc5.heap.size, 0, none⟩ = some (.int .i64 gnx) ∧ w'.cell? ⟨wc5.heap.size, 1, none⟩ = some (.slice Anx Lnx cnx) ∧ w'.cell? ⟨wc5.heap.size, 2, none⟩ = some (.int .i64 hnx) ∧ w'.cell? ⟨wc5.heap.size, 3, none⟩ = some (.slice Bnx Mnx dnx))
            ((with_reducible refine HK.out _ ?_; (repeat' (first | with_reducible exact Ext.refl _ | with_reducible assumption | with_reducible apply Ext.alloc_r | with_reducible apply Ext.drew_r | with_reducible apply Ext.drewN_r | with_reducible refine Ext.trans ?_ ‹Ext _ _›))))
            (first
              | (go_at_call_of 21 (#[Value.agg #[Value.bool src, Value.slice Arc Lrc crc, Value.slice Brc Mrc drc], Value.agg #[Value.int IntKind.i64 gqd, Value.slice Aqd Lqd cqd, Value.int IntKind.i64 hqd, Value.slice Bqd Mqd dqd]]); have hgd := qd; clear hgd; refine (lis5 (rc.ext (by repeat' (first | with_reducible exact Ext.refl _ | with_reducible assumption | with_reducible apply Ext.alloc_r | with_reducible apply Ext.drew_r | with_reducible apply Ext.drewN_r | with_reducible refine Ext.trans ?_ ‹Ext _ _›))) (qd.ext (by repeat' (first | with_reducible exact Ext.refl _ | with_reducible assumption | with_reducible apply Ext.alloc_r | with_reducible apply Ext.drew_r | with_reducible apply Ext.drewN_r | with_reducible refine Ext.trans ?_ ‹Ext _ _›))) (rfl) (by omega)).mono ?_; rintro e w18 ⟨rfl, x18⟩)
              | (go_at_call_of 37 (#[Value.agg #[Value.int IntKind.i64 gx, Value.slice Ax Lx cx, Value.int IntKind.i64 hx, Value.slice Bx Mx dx], Value.agg #[Value.int IntKind.i64 gy, Value.slice Ay Ly cy, Value.int IntKind.i64 hy, Value.slice By My dy]]); have hgd := rc; clear hgd; refine (qmul_r (x.ext (by repeat' (first | with_reducible exact Ext.refl _ | with_reducible assumption | with_reducible apply Ext.alloc_r | with_reducible apply Ext.drew_r | with_reducible apply Ext.drewN_r | with_reducible refine Ext.trans ?_ ‹Ext _ _›))) (y.ext (by repeat' (first | with_reducible exact Ext.refl _ | with_reducible assumption | with_reducible apply Ext.alloc_r | with_reducible apply Ext.drew_r | with_reducible apply Ext.drewN_r | with_reducible refine Ext.trans ?_ ‹Ext _ _›))) (by omega) (by omega)).mono ?_; rintro e w17 ⟨gqd, Aqd, cqd, Lqd, hqd, Bqd, dqd, Mqd, rfl, qd, x17⟩)
              | (go_at_call_of 40 (#[Value.agg #[Value.bool s1, Value.slice A1 L1 c1, Value.slice B1 M1 d1], Value.agg #[Value.bool s2, Value.slice A2 L2 c2, Value.slice B2 M2 d2]]); have hgd := qc; clear hgd; refine (rmul_r (e1.ext (by repeat' (first | with_reducible exact Ext.refl _ | with_reducible assumption | with_reducible apply Ext.alloc_r | with_reducible apply Ext.drew_r | with_reducible apply Ext.drewN_r | with_reducible refine Ext.trans ?_ ‹Ext _ _›))) (e2.ext (by repeat' (first | with_reducible exact Ext.refl _ | with_reducible assumption | with_reducible apply Ext.alloc_r | with_reducible apply Ext.drew_r | with_reducible apply Ext.drewN_r | with_reducible refine Ext.trans ?_ ‹Ext _ _›))) (by omega) (by omega)).mono ?_; rintro e w16 ⟨src, Arc, crc, Lrc, Brc, drc, Mrc, rfl, rc, x16⟩)
              | (go_at_call_of 21 (#[Value.agg #[Value.bool srb, Value.slice Arb Lrb crb, Value.slice Brb Mrb drb], Value.agg #[Value.int IntKind.i64 gqc, Value.slice Aqc Lqc cqc, Value.int IntKind.i64 hqc, Value.slice Bqc Mqc dqc]]); have hgd := qc; clear hgd; refine (lis5 (rb.ext (by repeat' (first | with_reducible exact Ext.refl _ | with_reducible assumption | with_reducible apply Ext.alloc_r | with_reducible apply Ext.drew_r | with_reducible apply Ext.drewN_r | with_reducible refine Ext.trans ?_ ‹Ext _ _›))) (qc.ext (by repeat' (first | with_reducible exact Ext.refl _ | with_reducible assumption | with_reducible apply Ext.alloc_r | with_reducible apply Ext.drew_r | with_reducible apply Ext.drewN_r | with_reducible refine Ext.trans ?_ ‹Ext _ _›))) ((Rat.sub_eq_add_neg _ _).symm) (by omega)).mono ?_; rintro e w15 ⟨rfl, x15⟩)
              | (go_at_call_of 38 (#[Value.agg #[Value.int IntKind.i64 gx, Value.slice Ax Lx cx, Value.int IntKind.i64 hx, Value.slice Bx Mx dx], Value.agg #[Value.int IntKind.i64 gqb, Value.slice Aqb Lqb cqb, Value.int IntKind.i64 hqb, Value.slice Bqb Mqb dqb]]); have hgd := qb; clear hgd; refine (qadd_r (x.ext (by repeat' (first | with_reducible exact Ext.refl _ | with_reducible assumption | with_reducible apply Ext.alloc_r | with_reducible apply Ext.drew_r | with_reducible apply Ext.drewN_r | with_reducible refine Ext.trans ?_ ‹Ext _ _›))) (qb.ext (by repeat' (first | with_reducible exact Ext.refl _ | with_reducible assumption | with_reducible apply Ext.alloc_r | with_reducible apply Ext.drew_r | with_reducible apply Ext.drewN_r | with_reducible refine Ext.trans ?_ ‹Ext _ _›))) (by omega) (by omega)).mono ?_; rintro e w14 ⟨gqc, Aqc, cqc, Lqc, hqc, Bqc, dqc, Mqc, rfl, qc, x14⟩)
              | (go_at_call_of 30 (#[Value.agg #[Value.int IntKind.i64 gy, Value.slice Ay Ly cy, Value.int IntKind.i64 hy, Value.slice By My dy]]); have hgd := rb; clear hgd; refine (qneg_r (y.ext (by repeat' (first | with_reducible exact Ext.refl _ | with_reducible assumption | with_reducible apply Ext.alloc_r | with_reducible apply Ext.drew_r | with_reducible apply Ext.drewN_r | with_reducible refine Ext.trans ?_ ‹Ext _ _›)))).mono ?_; rintro e w13 ⟨gqb, Aqb, cqb, Lqb, hqb, Bqb, dqb, Mqb, rfl, qb, x13⟩)
              | (go_at_call_of 44 (#[Value.agg #[Value.bool s1, Value.slice A1 L1 c1, Value.slice B1 M1 d1], Value.agg #[Value.bool s2, Value.slice A2 L2 c2, Value.slice B2 M2 d2]]); have hgd := qa; clear hgd; refine (rsub_r (e1.ext (by repeat' (first | with_reducible exact Ext.refl _ | with_reducible assumption | with_reducible apply Ext.alloc_r | with_reducible apply Ext.drew_r | with_reducible apply Ext.drewN_r | with_reducible refine Ext.trans ?_ ‹Ext _ _›))) (e2.ext (by repeat' (first | with_reducible exact Ext.refl _ | with_reducible assumption | with_reducible apply Ext.alloc_r | with_reducible apply Ext.drew_r | with_reducible apply Ext.drewN_r | with_reducible refine Ext.trans ?_ ‹Ext _ _›))) (by omega) (by omega)).mono ?_; rintro e w12 ⟨srb, Arb, crb, Lrb, Brb, drb, Mrb, rfl, rb, x12⟩)
              | (go_at_call_of 21 (#[Value.agg #[Value.bool sra, Value.slice Ara Lra cra, Value.slice Bra Mra dra], Value.agg #[Value.int IntKind.i64 gqa, Value.slice Aqa Lqa cqa, Value.int IntKind.i64 hqa, Value.slice Bqa Mqa dqa]]); have hgd := qa; clear hgd; refine (lis5 (ra.ext (by repeat' (first | with_reducible exact Ext.refl _ | with_reducible assumption | with_reducible apply Ext.alloc_r | with_reducible apply Ext.drew_r | with_reducible apply Ext.drewN_r | with_reducible refine Ext.trans ?_ ‹Ext _ _›))) (qa.ext (by repeat' (first | with_reducible exact Ext.refl _ | with_reducible assumption | with_reducible apply Ext.alloc_r | with_reducible apply Ext.drew_r | with_reducible apply Ext.drewN_r | with_reducible refine Ext.trans ?_ ‹Ext _ _›))) (rfl) (by omega)).mono ?_; rintro e w11 ⟨rfl, x11⟩)
              | (go_at_call_of 38 (#[Value.agg #[Value.int IntKind.i64 gx, Value.slice Ax Lx cx, Value.int IntKind.i64 hx, Value.slice Bx Mx dx], Value.agg #[Value.int IntKind.i64 gy, Value.slice Ay Ly cy, Value.int IntKind.i64 hy, Value.slice By My dy]]); have hgd := ra; clear hgd; refine (qadd_r (x.ext (by repeat' (first | with_reducible exact Ext.refl _ | with_reducible assumption | with_reducible apply Ext.alloc_r | with_reducible apply Ext.drew_r | with_reducible apply Ext.drewN_r | with_reducible refine Ext.trans ?_ ‹Ext _ _›))) (y.ext (by repeat' (first | with_reducible exact Ext.refl _ | with_reducible assumption | with_reducible apply Ext.alloc_r | with_reducible apply Ext.drew_r | with_reducible apply Ext.drewN_r | with_reducible refine Ext.trans ?_ ‹Ext _ _›))) (by omega) (by omega)).mono ?_; rintro e w10 ⟨gqa, Aqa, cqa, Lqa, hqa, Bqa, dqa, Mqa, rfl, qa, x10⟩)
              | (go_at_call_of 41 (#[Value.agg #[Value.bool s1, Value.slice A1 L1 c1, Value.slice B1 M1 d1], Value.agg #[Value.bool s2, Value.slice A2 L2 c2, Value.slice B2 M2 d2]]); refine (radd_r (e1.ext (by repeat' (first | with_reducible exact Ext.refl _ | with_reducible assumption | with_reducible apply Ext.alloc_r | with_reducible apply Ext.drew_r | with_reducible apply Ext.drewN_r | with_reducible refine Ext.trans ?_ ‹Ext _ _›))) (e2.ext (by repeat' (first | with_reducible exact Ext.refl _ | with_reducible assumption | with_reducible apply Ext.alloc_r | with_reducible apply Ext.drew_r | with_reducible apply Ext.drewN_r | with_reducible refine Ext.trans ?_ ‹Ext _ _›))) (by omega) (by omega)).mono ?_; rintro e w9 ⟨sra, Ara, cra, Lra, Bra, dra, Mra, rfl, ra, x9⟩))
        | fail
        clear HK
        have xh : Ext w8 w18 := (by repeat' (first | with_reducible exact Ext.refl _ | with_reducible assumption | with_reducible apply Ext.alloc_r | with_reducible apply Ext.drew_r | with_reducible apply Ext.drewN_r | with_reducible refine Ext.trans ?_ ‹Ext _ _›))
        replace e0_0 := xh.cell e0_0
        replace e0_1 := xh.cell e0_1
        replace e0_2 := xh.cell e0_2
        replace e1_0 := xh.cell e1_0
        replace e1_1 := xh.cell e1_1
        replace e1_2 := xh.cell e1_2
        replace x_0 := xh.cell x_0
        replace x_1 := xh.cell x_1
        replace x_2 := xh.cell x_2
        replace x_3 := xh.cell x_3
        replace y_0 := xh.cell y_0
        replace y_1 := xh.cell y_1
        replace y_2 := xh.cell y_2
        replace y_3 := xh.cell y_3
        replace ab_0 := xh.cell ab_0
        replace ab_1 := xh.cell ab_1
        replace ab_2 := xh.cell ab_2
        replace ab_3 := xh.cell ab_3
        clear xh
        go_wp2_with fail
        have HK : Hid (∀ w', Ext w18 w' → Ext w18 w' ∧ w'.cell? ⟨w.heap.size, 0, none⟩ = some (.bool s1) ∧ w'.cell? ⟨w.heap.size, 1, none⟩ = some (.slice A1 L1 c1) ∧ w'.cell? ⟨w.heap.size, 2, none⟩ = some (.slice B1 M1 d1) ∧ w'.cell? ⟨w.heap.size + 1, 0, none⟩ = some (.bool s2) ∧ w'.cell? ⟨w.heap.size + 1, 1, none⟩ = some (.slice A2 L2 c2) ∧ w'.cell? ⟨w.heap.size + 1, 2, none⟩ = some (.slice B2 M2 d2) ∧ w'.cell? ⟨bkx, 0, none⟩ = some (.int .i64 gx) ∧ w'.cell? ⟨bkx, 1, none⟩ = some (.slice Ax Lx cx) ∧ w'.cell? ⟨bkx, 2, none⟩ = some (.int .i64 hx) ∧ w'.cell? ⟨bkx, 3, none⟩ = some (.slice Bx Mx dx) ∧ w'.cell? ⟨bky, 0, none⟩ = some (.int .i64 gy) ∧ w'.cell? ⟨bky, 1, none⟩ = some (.slice Ay Ly cy) ∧ w'.cell? ⟨bky, 2, none⟩ = some (.int .i64 hy) ∧ w'.cell? ⟨bky, 3, none⟩ = some (.slice By My dy) ∧ w'.cell? ⟨wc5.heap.size, 0, none⟩ = some (.int .i64 gnx) ∧ w'.cell? ⟨wc5.heap.size, 1, none⟩ = some (.slice Anx Lnx cnx) ∧ w'.cell? ⟨wc5.heap.size, 2, none⟩ = some (.int .i64 hnx) ∧ w'.cell? ⟨wc5.heap.size, 3, none⟩ = some (.slice Bnx Mnx dnx)) := fun w' hk => ⟨hk, hk.cell e0_0, hk.cell e0_1, hk.cell e0_2, hk.cell e1_0, hk.cell e1_1, hk.cell e1_2, hk.cell x_0, hk.cell x_1, hk.cell x_2, hk.cell x_3, hk.cell y_0, hk.cell y_1, hk.cell y_2, hk.cell y_3, hk.cell ab_0, hk.cell ab_1, hk.cell ab_2, hk.cell ab_3⟩
        try dsimp only [List.append]
        first
        | go_region_held3 (fun w' => Ext w18 w' ∧ w'.cell? ⟨w.heap.size, 0, none⟩ = some (.bool s1) ∧ w'.cell? ⟨w.heap.size, 1, none⟩ = some (.slice A1 L1 c1) ∧ w'.cell? ⟨w.heap.size, 2, none⟩ = some (.slice B1 M1 d1) ∧ w'.cell? ⟨w.heap.size + 1, 0, none⟩ = some (.bool s2) ∧ w'.cell? ⟨w.heap.size + 1, 1, none⟩ = some (.slice A2 L2 c2) ∧ w'.cell? ⟨w.heap.size + 1, 2, none⟩ = some (.slice B2 M2 d2) ∧ w'.cell? ⟨bkx, 0, none⟩ = some (.int .i64 gx) ∧ w'.cell? ⟨bkx, 1, none⟩ = some (.slice Ax Lx cx) ∧ w'.cell? ⟨bkx, 2, none⟩ = some (.int .i64 hx) ∧ w'.cell? ⟨bkx, 3, none⟩ = some (.slice Bx Mx dx) ∧ w'.cell? ⟨bky, 0, none⟩ = some (.int .i64 gy) ∧ w'.cell? ⟨bky, 1, none⟩ = some (.slice Ay Ly cy) ∧ w'.cell? ⟨bky, 2, none⟩ = some (.int .i64 hy) ∧ w'.cell? ⟨bky, 3, none⟩ = some (.slice By My dy) ∧ w'.cell? ⟨wc5.heap.size, 0, none⟩ = some (.int .i64 gnx) ∧ w'.cell? ⟨wc5.heap.size, 1, none⟩ = some (.slice Anx Lnx cnx) ∧ w'.cell? ⟨wc5.heap.size, 2, none⟩ = some (.int .i64 hnx) ∧ w'.cell? ⟨wc5.heap.size, 3, none⟩ = some (.slice Bnx Mnx dnx))
            ((with_reducible refine HK.out _ ?_; (repeat' (first | with_reducible exact Ext.refl _ | with_reducible assumption | with_reducible apply Ext.alloc_r | with_reducible apply Ext.drew_r | with_reducible apply Ext.drewN_r | with_reducible refine Ext.trans ?_ ‹Ext _ _›))))
            (first
              | (go_at_call_of 48 (#[Value.agg #[Value.int IntKind.i64 gx, Value.slice Ax Lx cx, Value.int IntKind.i64 hx, Value.slice Bx Mx dx], Value.agg #[Value.int IntKind.i64 gy, Value.slice Ay Ly cy, Value.int IntKind.i64 hy, Value.slice By My dy]]); have hgd := rf; clear hgd; refine (qcmp_is (k := K) (x.ext (by repeat' (first | with_reducible exact Ext.refl _ | with_reducible assumption | with_reducible apply Ext.alloc_r | with_reducible apply Ext.drew_r | with_reducible apply Ext.drewN_r | with_reducible refine Ext.trans ?_ ‹Ext _ _›))) (y.ext (by repeat' (first | with_reducible exact Ext.refl _ | with_reducible assumption | with_reducible apply Ext.alloc_r | with_reducible apply Ext.drew_r | with_reducible apply Ext.drewN_r | with_reducible refine Ext.trans ?_ ‹Ext _ _›))) (by omega) (by omega) (HKK.out.symm)).mono ?_; rintro e w28 ⟨rfl, x28⟩)
              | (go_at_call_of 43 (#[Value.agg #[Value.bool s1, Value.slice A1 L1 c1, Value.slice B1 M1 d1], Value.agg #[Value.bool s2, Value.slice A2 L2 c2, Value.slice B2 M2 d2]]); have hgd := rf; clear hgd; refine (rcmp_is (k := K) (e1.ext (by repeat' (first | with_reducible exact Ext.refl _ | with_reducible assumption | with_reducible apply Ext.alloc_r | with_reducible apply Ext.drew_r | with_reducible apply Ext.drewN_r | with_reducible refine Ext.trans ?_ ‹Ext _ _›))) (e2.ext (by repeat' (first | with_reducible exact Ext.refl _ | with_reducible assumption | with_reducible apply Ext.alloc_r | with_reducible apply Ext.drew_r | with_reducible apply Ext.drewN_r | with_reducible refine Ext.trans ?_ ‹Ext _ _›))) (by omega) (by omega) (HKK.out.symm)).mono ?_; rintro e w27 ⟨rfl, x27⟩)
              | (go_at_call_of 23 (#[Value.agg #[Value.bool s1, Value.slice A1 L1 c1, Value.slice B1 M1 d1]]); have hgd := rf; clear hgd; refine (rsign_is (k := gx) (e1.ext (by repeat' (first | with_reducible exact Ext.refl _ | with_reducible assumption | with_reducible apply Ext.alloc_r | with_reducible apply Ext.drew_r | with_reducible apply Ext.drewN_r | with_reducible refine Ext.trans ?_ ‹Ext _ _›))) (HX.out.symm)).mono ?_; rintro e w26 ⟨rfl, x26⟩)
              | (go_at_call_of 21 (#[Value.agg #[Value.bool srf, Value.slice Arf Lrf crf, Value.slice Brf Mrf drf], Value.agg #[Value.int IntKind.i64 gx, Value.slice Ax Lx cx, Value.int IntKind.i64 hx, Value.slice Bx Mx dx]]); have hgd := rf; clear hgd; refine (lis5 (rf.ext (by repeat' (first | with_reducible exact Ext.refl _ | with_reducible assumption | with_reducible apply Ext.alloc_r | with_reducible apply Ext.drew_r | with_reducible apply Ext.drewN_r | with_reducible refine Ext.trans ?_ ‹Ext _ _›))) (x.ext (by repeat' (first | with_reducible exact Ext.refl _ | with_reducible assumption | with_reducible apply Ext.alloc_r | with_reducible apply Ext.drew_r | with_reducible apply Ext.drewN_r | with_reducible refine Ext.trans ?_ ‹Ext _ _›))) (rfl) (by omega)).mono ?_; rintro e w25 ⟨rfl, x25⟩)
              | (go_at_call_of 47 (#[Value.agg #[Value.bool s1, Value.slice A1 L1 c1, Value.slice B1 M1 d1]]); have hgd := re; clear hgd; refine (rnormal_r (e1.ext (by repeat' (first | with_reducible exact Ext.refl _ | with_reducible assumption | with_reducible apply Ext.alloc_r | with_reducible apply Ext.drew_r | with_reducible apply Ext.drewN_r | with_reducible refine Ext.trans ?_ ‹Ext _ _›))) (by omega)).mono ?_; rintro e w24 ⟨srf, Arf, crf, Lrf, Brf, drf, Mrf, rfl, rf, x24⟩)
              | (go_at_call_of 21 (#[Value.agg #[Value.bool sre, Value.slice Are Lre cre, Value.slice Bre Mre dre], Value.agg #[Value.int IntKind.i64 gnx, Value.slice Anx Lnx cnx, Value.int IntKind.i64 hnx, Value.slice Bnx Mnx dnx]]); have hgd := re; clear hgd; refine (lis5 (re.ext (by repeat' (first | with_reducible exact Ext.refl _ | with_reducible assumption | with_reducible apply Ext.alloc_r | with_reducible apply Ext.drew_r | with_reducible apply Ext.drewN_r | with_reducible refine Ext.trans ?_ ‹Ext _ _›))) (nx.ext (by repeat' (first | with_reducible exact Ext.refl _ | with_reducible assumption | with_reducible apply Ext.alloc_r | with_reducible apply Ext.drew_r | with_reducible apply Ext.drewN_r | with_reducible refine Ext.trans ?_ ‹Ext _ _›))) (HB.out) (by omega)).mono ?_; rintro e w23 ⟨rfl, x23⟩)
              | (go_at_call_of 46 (#[Value.agg #[Value.bool s1, Value.slice A1 L1 c1, Value.slice B1 M1 d1]]); have hgd := qe; clear hgd; refine (rabs_r (e1.ext (by repeat' (first | with_reducible exact Ext.refl _ | with_reducible assumption | with_reducible apply Ext.alloc_r | with_reducible apply Ext.drew_r | with_reducible apply Ext.drewN_r | with_reducible refine Ext.trans ?_ ‹Ext _ _›))) (by omega)).mono ?_; rintro e w22 ⟨sre, Are, cre, Lre, Bre, dre, Mre, rfl, re, x22⟩)
              | (go_at_call_of 21 (#[Value.agg #[Value.bool srd, Value.slice Ard Lrd crd, Value.slice Brd Mrd drd], Value.agg #[Value.int IntKind.i64 gqe, Value.slice Aqe Lqe cqe, Value.int IntKind.i64 hqe, Value.slice Bqe Mqe dqe]]); have hgd := qe; clear hgd; refine (lis5 (rd.ext (by repeat' (first | with_reducible exact Ext.refl _ | with_reducible assumption | with_reducible apply Ext.alloc_r | with_reducible apply Ext.drew_r | with_reducible apply Ext.drewN_r | with_reducible refine Ext.trans ?_ ‹Ext _ _›))) (qe.ext (by repeat' (first | with_reducible exact Ext.refl _ | with_reducible assumption | with_reducible apply Ext.alloc_r | with_reducible apply Ext.drew_r | with_reducible apply Ext.drewN_r | with_reducible refine Ext.trans ?_ ‹Ext _ _›))) (rfl) (by omega)).mono ?_; rintro e w21 ⟨rfl, x21⟩)
              | (go_at_call_of 30 (#[Value.agg #[Value.int IntKind.i64 gx, Value.slice Ax Lx cx, Value.int IntKind.i64 hx, Value.slice Bx Mx dx]]); have hgd := rd; clear hgd; refine (qneg_r (x.ext (by repeat' (first | with_reducible exact Ext.refl _ | with_reducible assumption | with_reducible apply Ext.alloc_r | with_reducible apply Ext.drew_r | with_reducible apply Ext.drewN_r | with_reducible refine Ext.trans ?_ ‹Ext _ _›)))).mono ?_; rintro e w20 ⟨gqe, Aqe, cqe, Lqe, hqe, Bqe, dqe, Mqe, rfl, qe, x20⟩)
              | (go_at_call_of 45 (#[Value.agg #[Value.bool s1, Value.slice A1 L1 c1, Value.slice B1 M1 d1]]); refine (rneg_r (e1.ext (by repeat' (first | with_reducible exact Ext.refl _ | with_reducible assumption | with_reducible apply Ext.alloc_r | with_reducible apply Ext.drew_r | with_reducible apply Ext.drewN_r | with_reducible refine Ext.trans ?_ ‹Ext _ _›))) (by omega)).mono ?_; rintro e w19 ⟨srd, Ard, crd, Lrd, Brd, drd, Mrd, rfl, rd, x19⟩))
        | fail
        clear HK
        have xh : Ext w18 w28 := (by repeat' (first | with_reducible exact Ext.refl _ | with_reducible assumption | with_reducible apply Ext.alloc_r | with_reducible apply Ext.drew_r | with_reducible apply Ext.drewN_r | with_reducible refine Ext.trans ?_ ‹Ext _ _›))
        replace e0_0 := xh.cell e0_0
        replace e0_1 := xh.cell e0_1
        replace e0_2 := xh.cell e0_2
        replace e1_0 := xh.cell e1_0
        replace e1_1 := xh.cell e1_1
        replace e1_2 := xh.cell e1_2
        replace x_0 := xh.cell x_0
        replace x_1 := xh.cell x_1
        replace x_2 := xh.cell x_2
        replace x_3 := xh.cell x_3
        replace y_0 := xh.cell y_0
        replace y_1 := xh.cell y_1
        replace y_2 := xh.cell y_2
        replace y_3 := xh.cell y_3
        replace ab_0 := xh.cell ab_0
        replace ab_1 := xh.cell ab_1
        replace ab_2 := xh.cell ab_2
        replace ab_3 := xh.cell ab_3
        clear xh
        go_wp2_with fail
        go_ret
        exact ⟨rfl, (by repeat' (first | with_reducible exact Ext.refl _ | with_reducible assumption | with_reducible apply Ext.alloc_r | with_reducible apply Ext.drew_r | with_reducible apply Ext.drewN_r | with_reducible refine Ext.trans ?_ ‹Ext _ _›))⟩
      · have HX := Lib.hid hgx
        have hgn : ¬ gx < 0 := by rw [hgx]; exact hneg
        have HB : Hid (q1 = absQ q1) := by show _ = _; unfold absQ; rw [if_neg (fun h => hneg (by rw [Int.sign_eq_neg_one_of_neg h]; omega))]
        clear hgx hneg
        have te0_0 := fun o => (Ext.alloc wc5 o).cell e0_0
        have te0_1 := fun o => (Ext.alloc wc5 o).cell e0_1
        have te0_2 := fun o => (Ext.alloc wc5 o).cell e0_2
        have te1_0 := fun o => (Ext.alloc wc5 o).cell e1_0
        have te1_1 := fun o => (Ext.alloc wc5 o).cell e1_1
        have te1_2 := fun o => (Ext.alloc wc5 o).cell e1_2
        have tx_0 := fun o => (Ext.alloc wc5 o).cell x_0
        have tx_1 := fun o => (Ext.alloc wc5 o).cell x_1
        have tx_2 := fun o => (Ext.alloc wc5 o).cell x_2
        have tx_3 := fun o => (Ext.alloc wc5 o).cell x_3
        have ty_0 := fun o => (Ext.alloc wc5 o).cell y_0
        have ty_1 := fun o => (Ext.alloc wc5 o).cell y_1
        have ty_2 := fun o => (Ext.alloc wc5 o).cell y_2
        have ty_3 := fun o => (Ext.alloc wc5 o).cell y_3
        go_wp2_with fail
        clear te0_0 te0_1 te0_2 te1_0 te1_1 te1_2 tx_0 tx_1 tx_2 tx_3 ty_0 ty_1 ty_2 ty_3
        obtain ⟨w6, hw⟩ : ∃ z : World, z = (wc5.alloc (.cells #[.int .i64 gx, .slice Ax Lx cx, .int .i64 hx, .slice Bx Mx dx] 38)) := ⟨_, rfl⟩
        rw [← hw]
        have x6 : Ext wc5 w6 := by rw [hw]; exact Ext.alloc _ _
        have bb := box_at wc5 #[.int .i64 gx, .slice Ax Lx cx, .int .i64 hx, .slice Bx Mx dx] 38
        rw [← hw] at bb
        replace e0_0 := x6.cell e0_0
        replace e0_1 := x6.cell e0_1
        replace e0_2 := x6.cell e0_2
        replace e1_0 := x6.cell e1_0
        replace e1_1 := x6.cell e1_1
        replace e1_2 := x6.cell e1_2
        replace x_0 := x6.cell x_0
        replace x_1 := x6.cell x_1
        replace x_2 := x6.cell x_2
        replace x_3 := x6.cell x_3
        replace y_0 := x6.cell y_0
        replace y_1 := x6.cell y_1
        replace y_2 := x6.cell y_2
        replace y_3 := x6.cell y_3
        have ab_0 := bb.1 0 (.int .i64 gx) rfl
        have ab_1 := bb.1 1 (.slice Ax Lx cx) rfl
        have ab_2 := bb.1 2 (.int .i64 hx) rfl
        have ab_3 := bb.1 3 (.slice Bx Mx dx) rfl
        clear hw bb
        go_wp2_with fail
        have HK : Hid (∀ w', Ext w6 w' → Ext w6 w' ∧ w'.cell? ⟨w.heap.size, 0, none⟩ = some (.bool s1) ∧ w'.cell? ⟨w.heap.size, 1, none⟩ = some (.slice A1 L1 c1) ∧ w'.cell? ⟨w.heap.size, 2, none⟩ = some (.slice B1 M1 d1) ∧ w'.cell? ⟨w.heap.size + 1, 0, none⟩ = some (.bool s2) ∧ w'.cell? ⟨w.heap.size + 1, 1, none⟩ = some (.slice A2 L2 c2) ∧ w'.cell? ⟨w.heap.size + 1, 2, none⟩ = some (.slice B2 M2 d2) ∧ w'.cell? ⟨bkx, 0, none⟩ = some (.int .i64 gx) ∧ w'.cell? ⟨bkx, 1, none⟩ = some (.slice Ax Lx cx) ∧ w'.cell? ⟨bkx, 2, none⟩ = some (.int .i64 hx) ∧ w'.cell? ⟨bkx, 3, none⟩ = some (.slice Bx Mx dx) ∧ w'.cell? ⟨bky, 0, none⟩ = some (.int .i64 gy) ∧ w'.cell? ⟨bky, 1, none⟩ = some (.slice Ay Ly cy) ∧ w'.cell? ⟨bky, 2, none⟩ = some (.int .i64 hy) ∧ w'.cell? ⟨bky, 3, none⟩ = some (.slice By My dy) ∧ w'.cell? ⟨wc5.heap.size, 0, none⟩ = some (.int .i64 gx) ∧ w'.cell? ⟨wc5.heap.size, 1, none⟩ = some (.slice Ax Lx cx) ∧ w'.cell? ⟨wc5.heap.size, 2, none⟩ = some (.int .i64 hx) ∧ w'.cell? ⟨wc5.heap.size, 3, none⟩ = some (.slice Bx Mx dx)) := fun w' hk => ⟨hk, hk.cell e0_0, hk.cell e0_1, hk.cell e0_2, hk.cell e1_0, hk.cell e1_1, hk.cell e1_2, hk.cell x_0, hk.cell x_1, hk.cell x_2, hk.cell x_3, hk.cell y_0, hk.cell y_1, hk.cell y_2, hk.cell y_3, hk.cell ab_0, hk.cell ab_1, hk.cell ab_2, hk.cell ab_3⟩
        try dsimp only [List.append]
        first
        | go_region_held3 (fun w' => Ext w6 w' ∧ w'.cell? ⟨w.heap.size, 0, none⟩ = some (.bool s1) ∧ w'.cell? ⟨w.heap.size, 1, none⟩ = some (.slice A1 L1 c1) ∧ w'.cell? ⟨w.heap.size, 2, none⟩ = some (.slice B1 M1 d1) ∧ w'.cell? ⟨w.heap.size + 1, 0, none⟩ = some (.bool s2) ∧ w'.cell? ⟨w.heap.size + 1, 1, none⟩ = some (.slice A2 L2 c2) ∧ w'.cell? ⟨w.heap.size + 1, 2, none⟩ = some (.slice B2 M2 d2) ∧ w'.cell? ⟨bkx, 0, none⟩ = some (.int .i64 gx) ∧ w'.cell? ⟨bkx, 1, none⟩ = some (.slice Ax Lx cx) ∧ w'.cell? ⟨bkx, 2, none⟩ = some (.int .i64 hx) ∧ w'.cell? ⟨bkx, 3, none⟩ = some (.slice Bx Mx dx) ∧ w'.cell? ⟨bky, 0, none⟩ = some (.int .i64 gy) ∧ w'.cell? ⟨bky, 1, none⟩ = some (.slice Ay Ly cy) ∧ w'.cell? ⟨bky, 2, none⟩ = some (.int .i64 hy) ∧ w'.cell? ⟨bky, 3, none⟩ = some (.slice By My dy) ∧ w'.cell? ⟨wc5.heap.size, 0, none⟩ = some (.int .i64 gx) ∧ w'.cell? ⟨wc5.heap.size, 1, none⟩ = some (.slice Ax Lx cx) ∧ w'.cell? ⟨wc5.heap.size, 2, none⟩ = some (.int .i64 hx) ∧ w'.cell? ⟨wc5.heap.size, 3, none⟩ = some (.slice Bx Mx dx))
            ((with_reducible refine HK.out _ ?_; (repeat' (first | with_reducible exact Ext.refl _ | with_reducible assumption | with_reducible apply Ext.alloc_r | with_reducible apply Ext.drew_r | with_reducible apply Ext.drewN_r | with_reducible refine Ext.trans ?_ ‹Ext _ _›))))
            (first
              | (go_at_call_of 21 (#[Value.agg #[Value.bool src, Value.slice Arc Lrc crc, Value.slice Brc Mrc drc], Value.agg #[Value.int IntKind.i64 gqd, Value.slice Aqd Lqd cqd, Value.int IntKind.i64 hqd, Value.slice Bqd Mqd dqd]]); have hgd := qd; clear hgd; refine (lis5 (rc.ext (by repeat' (first | with_reducible exact Ext.refl _ | with_reducible assumption | with_reducible apply Ext.alloc_r | with_reducible apply Ext.drew_r | with_reducible apply Ext.drewN_r | with_reducible refine Ext.trans ?_ ‹Ext _ _›))) (qd.ext (by repeat' (first | with_reducible exact Ext.refl _ | with_reducible assumption | with_reducible apply Ext.alloc_r | with_reducible apply Ext.drew_r | with_reducible apply Ext.drewN_r | with_reducible refine Ext.trans ?_ ‹Ext _ _›))) (rfl) (by omega)).mono ?_; rintro e w16 ⟨rfl, x16⟩)
              | (go_at_call_of 37 (#[Value.agg #[Value.int IntKind.i64 gx, Value.slice Ax Lx cx, Value.int IntKind.i64 hx, Value.slice Bx Mx dx], Value.agg #[Value.int IntKind.i64 gy, Value.slice Ay Ly cy, Value.int IntKind.i64 hy, Value.slice By My dy]]); have hgd := rc; clear hgd; refine (qmul_r (x.ext (by repeat' (first | with_reducible exact Ext.refl _ | with_reducible assumption | with_reducible apply Ext.alloc_r | with_reducible apply Ext.drew_r | with_reducible apply Ext.drewN_r | with_reducible refine Ext.trans ?_ ‹Ext _ _›))) (y.ext (by repeat' (first | with_reducible exact Ext.refl _ | with_reducible assumption | with_reducible apply Ext.alloc_r | with_reducible apply Ext.drew_r | with_reducible apply Ext.drewN_r | with_reducible refine Ext.trans ?_ ‹Ext _ _›))) (by omega) (by omega)).mono ?_; rintro e w15 ⟨gqd, Aqd, cqd, Lqd, hqd, Bqd, dqd, Mqd, rfl, qd, x15⟩)
              | (go_at_call_of 40 (#[Value.agg #[Value.bool s1, Value.slice A1 L1 c1, Value.slice B1 M1 d1], Value.agg #[Value.bool s2, Value.slice A2 L2 c2, Value.slice B2 M2 d2]]); have hgd := qc; clear hgd; refine (rmul_r (e1.ext (by repeat' (first | with_reducible exact Ext.refl _ | with_reducible assumption | with_reducible apply Ext.alloc_r | with_reducible apply Ext.drew_r | with_reducible apply Ext.drewN_r | with_reducible refine Ext.trans ?_ ‹Ext _ _›))) (e2.ext (by repeat' (first | with_reducible exact Ext.refl _ | with_reducible assumption | with_reducible apply Ext.alloc_r | with_reducible apply Ext.drew_r | with_reducible apply Ext.drewN_r | with_reducible refine Ext.trans ?_ ‹Ext _ _›))) (by omega) (by omega)).mono ?_; rintro e w14 ⟨src, Arc, crc, Lrc, Brc, drc, Mrc, rfl, rc, x14⟩)
              | (go_at_call_of 21 (#[Value.agg #[Value.bool srb, Value.slice Arb Lrb crb, Value.slice Brb Mrb drb], Value.agg #[Value.int IntKind.i64 gqc, Value.slice Aqc Lqc cqc, Value.int IntKind.i64 hqc, Value.slice Bqc Mqc dqc]]); have hgd := qc; clear hgd; refine (lis5 (rb.ext (by repeat' (first | with_reducible exact Ext.refl _ | with_reducible assumption | with_reducible apply Ext.alloc_r | with_reducible apply Ext.drew_r | with_reducible apply Ext.drewN_r | with_reducible refine Ext.trans ?_ ‹Ext _ _›))) (qc.ext (by repeat' (first | with_reducible exact Ext.refl _ | with_reducible assumption | with_reducible apply Ext.alloc_r | with_reducible apply Ext.drew_r | with_reducible apply Ext.drewN_r | with_reducible refine Ext.trans ?_ ‹Ext _ _›))) ((Rat.sub_eq_add_neg _ _).symm) (by omega)).mono ?_; rintro e w13 ⟨rfl, x13⟩)
              | (go_at_call_of 38 (#[Value.agg #[Value.int IntKind.i64 gx, Value.slice Ax Lx cx, Value.int IntKind.i64 hx, Value.slice Bx Mx dx], Value.agg #[Value.int IntKind.i64 gqb, Value.slice Aqb Lqb cqb, Value.int IntKind.i64 hqb, Value.slice Bqb Mqb dqb]]); have hgd := qb; clear hgd; refine (qadd_r (x.ext (by repeat' (first | with_reducible exact Ext.refl _ | with_reducible assumption | with_reducible apply Ext.alloc_r | with_reducible apply Ext.drew_r | with_reducible apply Ext.drewN_r | with_reducible refine Ext.trans ?_ ‹Ext _ _›))) (qb.ext (by repeat' (first | with_reducible exact Ext.refl _ | with_reducible assumption | with_reducible apply Ext.alloc_r | with_reducible apply Ext.drew_r | with_reducible apply Ext.drewN_r | with_reducible refine Ext.trans ?_ ‹Ext _ _›))) (by omega) (by omega)).mono ?_; rintro e w12 ⟨gqc, Aqc, cqc, Lqc, hqc, Bqc, dqc, Mqc, rfl, qc, x12⟩)
              | (go_at_call_of 30 (#[Value.agg #[Value.int IntKind.i64 gy, Value.slice Ay Ly cy, Value.int IntKind.i64 hy, Value.slice By My dy]]); have hgd := rb; clear hgd; refine (qneg_r (y.ext (by repeat' (first | with_reducible exact Ext.refl _ | with_reducible assumption | with_reducible apply Ext.alloc_r | with_reducible apply Ext.drew_r | with_reducible apply Ext.drewN_r | with_reducible refine Ext.trans ?_ ‹Ext _ _›)))).mono ?_; rintro e w11 ⟨gqb, Aqb, cqb, Lqb, hqb, Bqb, dqb, Mqb, rfl, qb, x11⟩)
              | (go_at_call_of 44 (#[Value.agg #[Value.bool s1, Value.slice A1 L1 c1, Value.slice B1 M1 d1], Value.agg #[Value.bool s2, Value.slice A2 L2 c2, Value.slice B2 M2 d2]]); have hgd := qa; clear hgd; refine (rsub_r (e1.ext (by repeat' (first | with_reducible exact Ext.refl _ | with_reducible assumption | with_reducible apply Ext.alloc_r | with_reducible apply Ext.drew_r | with_reducible apply Ext.drewN_r | with_reducible refine Ext.trans ?_ ‹Ext _ _›))) (e2.ext (by repeat' (first | with_reducible exact Ext.refl _ | with_reducible assumption | with_reducible apply Ext.alloc_r | with_reducible apply Ext.drew_r | with_reducible apply Ext.drewN_r | with_reducible refine Ext.trans ?_ ‹Ext _ _›))) (by omega) (by omega)).mono ?_; rintro e w10 ⟨srb, Arb, crb, Lrb, Brb, drb, Mrb, rfl, rb, x10⟩)
              | (go_at_call_of 21 (#[Value.agg #[Value.bool sra, Value.slice Ara Lra cra, Value.slice Bra Mra dra], Value.agg #[Value.int IntKind.i64 gqa, Value.slice Aqa Lqa cqa, Value.int IntKind.i64 hqa, Value.slice Bqa Mqa dqa]]); have hgd := qa; clear hgd; refine (lis5 (ra.ext (by repeat' (first | with_reducible exact Ext.refl _ | with_reducible assumption | with_reducible apply Ext.alloc_r | with_reducible apply Ext.drew_r | with_reducible apply Ext.drewN_r | with_reducible refine Ext.trans ?_ ‹Ext _ _›))) (qa.ext (by repeat' (first | with_reducible exact Ext.refl _ | with_reducible assumption | with_reducible apply Ext.alloc_r | with_reducible apply Ext.drew_r | with_reducible apply Ext.drewN_r | with_reducible refine Ext.trans ?_ ‹Ext _ _›))) (rfl) (by omega)).mono ?_; rintro e w9 ⟨rfl, x9⟩)
              | (go_at_call_of 38 (#[Value.agg #[Value.int IntKind.i64 gx, Value.slice Ax Lx cx, Value.int IntKind.i64 hx, Value.slice Bx Mx dx], Value.agg #[Value.int IntKind.i64 gy, Value.slice Ay Ly cy, Value.int IntKind.i64 hy, Value.slice By My dy]]); have hgd := ra; clear hgd; refine (qadd_r (x.ext (by repeat' (first | with_reducible exact Ext.refl _ | with_reducible assumption | with_reducible apply Ext.alloc_r | with_reducible apply Ext.drew_r | with_reducible apply Ext.drewN_r | with_reducible refine Ext.trans ?_ ‹Ext _ _›))) (y.ext (by repeat' (first | with_reducible exact Ext.refl _ | with_reducible assumption | with_reducible apply Ext.alloc_r | with_reducible apply Ext.drew_r | with_reducible apply Ext.drewN_r | with_reducible refine Ext.trans ?_ ‹Ext _ _›))) (by omega) (by omega)).mono ?_; rintro e w8 ⟨gqa, Aqa, cqa, Lqa, hqa, Bqa, dqa, Mqa, rfl, qa, x8⟩)
              | (go_at_call_of 41 (#[Value.agg #[Value.bool s1, Value.slice A1 L1 c1, Value.slice B1 M1 d1], Value.agg #[Value.bool s2, Value.slice A2 L2 c2, Value.slice B2 M2 d2]]); refine (radd_r (e1.ext (by repeat' (first | with_reducible exact Ext.refl _ | with_reducible assumption | with_reducible apply Ext.alloc_r | with_reducible apply Ext.drew_r | with_reducible apply Ext.drewN_r | with_reducible refine Ext.trans ?_ ‹Ext _ _›))) (e2.ext (by repeat' (first | with_reducible exact Ext.refl _ | with_reducible assumption | with_reducible apply Ext.alloc_r | with_reducible apply Ext.drew_r | with_reducible apply Ext.drewN_r | with_reducible refine Ext.trans ?_ ‹Ext _ _›))) (by omega) (by omega)).mono ?_; rintro e w7 ⟨sra, Ara, cra, Lra, Bra, dra, Mra, rfl, ra, x7⟩))
        | fail
        clear HK
        have xh : Ext w6 w16 := (by repeat' (first | with_reducible exact Ext.refl _ | with_reducible assumption | with_reducible apply Ext.alloc_r | with_reducible apply Ext.drew_r | with_reducible apply Ext.drewN_r | with_reducible refine Ext.trans ?_ ‹Ext _ _›))
        replace e0_0 := xh.cell e0_0
        replace e0_1 := xh.cell e0_1
        replace e0_2 := xh.cell e0_2
        replace e1_0 := xh.cell e1_0
        replace e1_1 := xh.cell e1_1
        replace e1_2 := xh.cell e1_2
        replace x_0 := xh.cell x_0
        replace x_1 := xh.cell x_1
        replace x_2 := xh.cell x_2
        replace x_3 := xh.cell x_3
        replace y_0 := xh.cell y_0
        replace y_1 := xh.cell y_1
        replace y_2 := xh.cell y_2
        replace y_3 := xh.cell y_3
        replace ab_0 := xh.cell ab_0
        replace ab_1 := xh.cell ab_1
        replace ab_2 := xh.cell ab_2
        replace ab_3 := xh.cell ab_3
        clear xh
        go_wp2_with fail
        have HK : Hid (∀ w', Ext w16 w' → Ext w16 w' ∧ w'.cell? ⟨w.heap.size, 0, none⟩ = some (.bool s1) ∧ w'.cell? ⟨w.heap.size, 1, none⟩ = some (.slice A1 L1 c1) ∧ w'.cell? ⟨w.heap.size, 2, none⟩ = some (.slice B1 M1 d1) ∧ w'.cell? ⟨w.heap.size + 1, 0, none⟩ = some (.bool s2) ∧ w'.cell? ⟨w.heap.size + 1, 1, none⟩ = some (.slice A2 L2 c2) ∧ w'.cell? ⟨w.heap.size + 1, 2, none⟩ = some (.slice B2 M2 d2) ∧ w'.cell? ⟨bkx, 0, none⟩ = some (.int .i64 gx) ∧ w'.cell? ⟨bkx, 1, none⟩ = some (.slice Ax Lx cx) ∧ w'.cell? ⟨bkx, 2, none⟩ = some (.int .i64 hx) ∧ w'.cell? ⟨bkx, 3, none⟩ = some (.slice Bx Mx dx) ∧ w'.cell? ⟨bky, 0, none⟩ = some (.int .i64 gy) ∧ w'.cell? ⟨bky, 1, none⟩ = some (.slice Ay Ly cy) ∧ w'.cell? ⟨bky, 2, none⟩ = some (.int .i64 hy) ∧ w'.cell? ⟨bky, 3, none⟩ = some (.slice By My dy) ∧ w'.cell? ⟨wc5.heap.size, 0, none⟩ = some (.int .i64 gx) ∧ w'.cell? ⟨wc5.heap.size, 1, none⟩ = some (.slice Ax Lx cx) ∧ w'.cell? ⟨wc5.heap.size, 2, none⟩ = some (.int .i64 hx) ∧ w'.cell? ⟨wc5.heap.size, 3, none⟩ = some (.slice Bx Mx dx)) := fun w' hk => ⟨hk, hk.cell e0_0, hk.cell e0_1, hk.cell e0_2, hk.cell e1_0, hk.cell e1_1, hk.cell e1_2, hk.cell x_0, hk.cell x_1, hk.cell x_2, hk.cell x_3, hk.cell y_0, hk.cell y_1, hk.cell y_2, hk.cell y_3, hk.cell ab_0, hk.cell ab_1, hk.cell ab_2, hk.cell ab_3⟩
        try dsimp only [List.append]
        first
        | go_region_held3 (fun w' => Ext w16 w' ∧ w'.cell? ⟨w.heap.size, 0, none⟩ = some (.bool s1) ∧ w'.cell? ⟨w.heap.size, 1, none⟩ = some (.slice A1 L1 c1) ∧ w'.cell? ⟨w.heap.size, 2, none⟩ = some (.slice B1 M1 d1) ∧ w'.cell? ⟨w.heap.size + 1, 0, none⟩ = some (.bool s2) ∧ w'.cell? ⟨w.heap.size + 1, 1, none⟩ = some (.slice A2 L2 c2) ∧ w'.cell? ⟨w.heap.size + 1, 2, none⟩ = some (.slice B2 M2 d2) ∧ w'.cell? ⟨bkx, 0, none⟩ = some (.int .i64 gx) ∧ w'.cell? ⟨bkx, 1, none⟩ = some (.slice Ax Lx cx) ∧ w'.cell? ⟨bkx, 2, none⟩ = some (.int .i64 hx) ∧ w'.cell? ⟨bkx, 3, none⟩ = some (.slice Bx Mx dx) ∧ w'.cell? ⟨bky, 0, none⟩ = some (.int .i64 gy) ∧ w'.cell? ⟨bky, 1, none⟩ = some (.slice Ay Ly cy) ∧ w'.cell? ⟨bky, 2, none⟩ = some (.int .i64 hy) ∧ w'.cell? ⟨bky, 3, none⟩ = some (.slice By My dy) ∧ w'.cell? ⟨wc5.heap.size, 0, none⟩ = some (.int .i64 gx) ∧ w'.cell? ⟨wc5.heap.size, 1, none⟩ = some (.slice Ax Lx cx) ∧ w'.cell? ⟨wc5.heap.size, 2, none⟩ = some (.int .i64 hx) ∧ w'.cell? ⟨wc5.heap.size, 3, none⟩ = some (.slice Bx Mx dx))
            ((with_reducible refine HK.out _ ?_; (repeat' (first | with_reducible exact Ext.refl _ | with_reducible assumption | with_reducible apply Ext.alloc_r | with_reducible apply Ext.drew_r | with_reducible apply Ext.drewN_r | with_reducible refine Ext.trans ?_ ‹Ext _ _›))))
            (first
              | (go_at_call_of 48 (#[Value.agg #[Value.int IntKind.i64 gx, Value.slice Ax Lx cx, Value.int IntKind.i64 hx, Value.slice Bx Mx dx], Value.agg #[Value.int IntKind.i64 gy, Value.slice Ay Ly cy, Value.int IntKind.i64 hy, Value.slice By My dy]]); have hgd := rf; clear hgd; refine (qcmp_is (k := K) (x.ext (by repeat' (first | with_reducible exact Ext.refl _ | with_reducible assumption | with_reducible apply Ext.alloc_r | with_reducible apply Ext.drew_r | with_reducible apply Ext.drewN_r | with_reducible refine Ext.trans ?_ ‹Ext _ _›))) (y.ext (by repeat' (first | with_reducible exact Ext.refl _ | with_reducible assumption | with_reducible apply Ext.alloc_r | with_reducible apply Ext.drew_r | with_reducible apply Ext.drewN_r | with_reducible refine Ext.trans ?_ ‹Ext _ _›))) (by omega) (by omega) (HKK.out.symm)).mono ?_; rintro e w26 ⟨rfl, x26⟩)
              | (go_at_call_of 43 (#[Value.agg #[Value.bool s1, Value.slice A1 L1 c1, Value.slice B1 M1 d1], Value.agg #[Value.bool s2, Value.slice A2 L2 c2, Value.slice B2 M2 d2]]); have hgd := rf; clear hgd; refine (rcmp_is (k := K) (e1.ext (by repeat' (first | with_reducible exact Ext.refl _ | with_reducible assumption | with_reducible apply Ext.alloc_r | with_reducible apply Ext.drew_r | with_reducible apply Ext.drewN_r | with_reducible refine Ext.trans ?_ ‹Ext _ _›))) (e2.ext (by repeat' (first | with_reducible exact Ext.refl _ | with_reducible assumption | with_reducible apply Ext.alloc_r | with_reducible apply Ext.drew_r | with_reducible apply Ext.drewN_r | with_reducible refine Ext.trans ?_ ‹Ext _ _›))) (by omega) (by omega) (HKK.out.symm)).mono ?_; rintro e w25 ⟨rfl, x25⟩)
              | (go_at_call_of 23 (#[Value.agg #[Value.bool s1, Value.slice A1 L1 c1, Value.slice B1 M1 d1]]); have hgd := rf; clear hgd; refine (rsign_is (k := gx) (e1.ext (by repeat' (first | with_reducible exact Ext.refl _ | with_reducible assumption | with_reducible apply Ext.alloc_r | with_reducible apply Ext.drew_r | with_reducible apply Ext.drewN_r | with_reducible refine Ext.trans ?_ ‹Ext _ _›))) (HX.out.symm)).mono ?_; rintro e w24 ⟨rfl, x24⟩)
              | (go_at_call_of 21 (#[Value.agg #[Value.bool srf, Value.slice Arf Lrf crf, Value.slice Brf Mrf drf], Value.agg #[Value.int IntKind.i64 gx, Value.slice Ax Lx cx, Value.int IntKind.i64 hx, Value.slice Bx Mx dx]]); have hgd := rf; clear hgd; refine (lis5 (rf.ext (by repeat' (first | with_reducible exact Ext.refl _ | with_reducible assumption | with_reducible apply Ext.alloc_r | with_reducible apply Ext.drew_r | with_reducible apply Ext.drewN_r | with_reducible refine Ext.trans ?_ ‹Ext _ _›))) (x.ext (by repeat' (first | with_reducible exact Ext.refl _ | with_reducible assumption | with_reducible apply Ext.alloc_r | with_reducible apply Ext.drew_r | with_reducible apply Ext.drewN_r | with_reducible refine Ext.trans ?_ ‹Ext _ _›))) (rfl) (by omega)).mono ?_; rintro e w23 ⟨rfl, x23⟩)
              | (go_at_call_of 47 (#[Value.agg #[Value.bool s1, Value.slice A1 L1 c1, Value.slice B1 M1 d1]]); have hgd := re; clear hgd; refine (rnormal_r (e1.ext (by repeat' (first | with_reducible exact Ext.refl _ | with_reducible assumption | with_reducible apply Ext.alloc_r | with_reducible apply Ext.drew_r | with_reducible apply Ext.drewN_r | with_reducible refine Ext.trans ?_ ‹Ext _ _›))) (by omega)).mono ?_; rintro e w22 ⟨srf, Arf, crf, Lrf, Brf, drf, Mrf, rfl, rf, x22⟩)
              | (go_at_call_of 21 (#[Value.agg #[Value.bool sre, Value.slice Are Lre cre, Value.slice Bre Mre dre], Value.agg #[Value.int IntKind.i64 gx, Value.slice Ax Lx cx, Value.int IntKind.i64 hx, Value.slice Bx Mx dx]]); have hgd := re; clear hgd; refine (lis5 (re.ext (by repeat' (first | with_reducible exact Ext.refl _ | with_reducible assumption | with_reducible apply Ext.alloc_r | with_reducible apply Ext.drew_r | with_reducible apply Ext.drewN_r | with_reducible refine Ext.trans ?_ ‹Ext _ _›))) (x.ext (by repeat' (first | with_reducible exact Ext.refl _ | with_reducible assumption | with_reducible apply Ext.alloc_r | with_reducible apply Ext.drew_r | with_reducible apply Ext.drewN_r | with_reducible refine Ext.trans ?_ ‹Ext _ _›))) (HB.out) (by omega)).mono ?_; rintro e w21 ⟨rfl, x21⟩)
              | (go_at_call_of 46 (#[Value.agg #[Value.bool s1, Value.slice A1 L1 c1, Value.slice B1 M1 d1]]); have hgd := qe; clear hgd; refine (rabs_r (e1.ext (by repeat' (first | with_reducible exact Ext.refl _ | with_reducible assumption | with_reducible apply Ext.alloc_r | with_reducible apply Ext.drew_r | with_reducible apply Ext.drewN_r | with_reducible refine Ext.trans ?_ ‹Ext _ _›))) (by omega)).mono ?_; rintro e w20 ⟨sre, Are, cre, Lre, Bre, dre, Mre, rfl, re, x20⟩)
              | (go_at_call_of 21 (#[Value.agg #[Value.bool srd, Value.slice Ard Lrd crd, Value.slice Brd Mrd drd], Value.agg #[Value.int IntKind.i64 gqe, Value.slice Aqe Lqe cqe, Value.int IntKind.i64 hqe, Value.slice Bqe Mqe dqe]]); have hgd := qe; clear hgd; refine (lis5 (rd.ext (by repeat' (first | with_reducible exact Ext.refl _ | with_reducible assumption | with_reducible apply Ext.alloc_r | with_reducible apply Ext.drew_r | with_reducible apply Ext.drewN_r | with_reducible refine Ext.trans ?_ ‹Ext _ _›))) (qe.ext (by repeat' (first | with_reducible exact Ext.refl _ | with_reducible assumption | with_reducible apply Ext.alloc_r | with_reducible apply Ext.drew_r | with_reducible apply Ext.drewN_r | with_reducible refine Ext.trans ?_ ‹Ext _ _›))) (rfl) (by omega)).mono ?_; rintro e w19 ⟨rfl, x19⟩)
              | (go_at_call_of 30 (#[Value.agg #[Value.int IntKind.i64 gx, Value.slice Ax Lx cx, Value.int IntKind.i64 hx, Value.slice Bx Mx dx]]); have hgd := rd; clear hgd; refine (qneg_r (x.ext (by repeat' (first | with_reducible exact Ext.refl _ | with_reducible assumption | with_reducible apply Ext.alloc_r | with_reducible apply Ext.drew_r | with_reducible apply Ext.drewN_r | with_reducible refine Ext.trans ?_ ‹Ext _ _›)))).mono ?_; rintro e w18 ⟨gqe, Aqe, cqe, Lqe, hqe, Bqe, dqe, Mqe, rfl, qe, x18⟩)
              | (go_at_call_of 45 (#[Value.agg #[Value.bool s1, Value.slice A1 L1 c1, Value.slice B1 M1 d1]]); refine (rneg_r (e1.ext (by repeat' (first | with_reducible exact Ext.refl _ | with_reducible assumption | with_reducible apply Ext.alloc_r | with_reducible apply Ext.drew_r | with_reducible apply Ext.drewN_r | with_reducible refine Ext.trans ?_ ‹Ext _ _›))) (by omega)).mono ?_; rintro e w17 ⟨srd, Ard, crd, Lrd, Brd, drd, Mrd, rfl, rd, x17⟩))
        | fail
        clear HK
        have xh : Ext w16 w26 := (by repeat' (first | with_reducible exact Ext.refl _ | with_reducible assumption | with_reducible apply Ext.alloc_r | with_reducible apply Ext.drew_r | with_reducible apply Ext.drewN_r | with_reducible refine Ext.trans ?_ ‹Ext _ _›))
        replace e0_0 := xh.cell e0_0
        replace e0_1 := xh.cell e0_1
        replace e0_2 := xh.cell e0_2
        replace e1_0 := xh.cell e1_0
        replace e1_1 := xh.cell e1_1
        replace e1_2 := xh.cell e1_2
        replace x_0 := xh.cell x_0
        replace x_1 := xh.cell x_1
        replace x_2 := xh.cell x_2
        replace x_3 := xh.cell x_3
        replace y_0 := xh.cell y_0
        replace y_1 := xh.cell y_1
        replace y_2 := xh.cell y_2
        replace y_3 := xh.cell y_3
        replace ab_0 := xh.cell ab_0
        replace ab_1 := xh.cell ab_1
        replace ab_2 := xh.cell ab_2
        replace ab_3 := xh.cell ab_3
        clear xh
        go_wp2_with fail
        go_ret
        exact ⟨rfl, (by repeat' (first | with_reducible exact Ext.refl _ | with_reducible assumption | with_reducible apply Ext.alloc_r | with_reducible apply Ext.drew_r | with_reducible apply Ext.drewN_r | with_reducible refine Ext.trans ?_ ‹Ext _ _›))⟩
  · have HF : Hid (((decide (L1 ≤ 6) && (decide (M1 ≤ 6) && decide (L2 ≤ 6))) && (decide (M2 ≤ 6) && (decide (L1 ≤ 6) && decide (M1 ≤ 6)))) = false) := by show _ = _; rw [Bool.eq_false_iff]; simp only [ne_eq, decide_eq_true_eq, Bool.and_eq_true]; omega
    clear hf
    go_enter Try.func7, Try.ntmps7
    go_wp2_with fail
    obtain ⟨w0, hw0⟩ : ∃ z : World, z = ((w.alloc (.cells #[.bool s1, .slice A1 L1 c1, .slice B1 M1 d1] 27)).alloc (.cells #[.bool s2, .slice A2 L2 c2, .slice B2 M2 d2] 27)) := ⟨_, rfl⟩
    rw [← hw0]
    have b0 := box_at w #[.bool s1, .slice A1 L1 c1, .slice B1 M1 d1] 27
    have b1 := box_at (w.alloc (.cells #[.bool s1, .slice A1 L1 c1, .slice B1 M1 d1] 27)) #[.bool s2, .slice A2 L2 c2, .slice B2 M2 d2] 27
    have hsz : w0.heap.size = w.heap.size + 1 + 1 := by rw [hw0]; simp
    rw [← hw0] at b1
    have y1 : Ext (w.alloc (.cells #[.bool s1, .slice A1 L1 c1, .slice B1 M1 d1] 27)) w0 := by rw [hw0]; exact Ext.alloc _ _
    have y0 : Ext w w0 := (Ext.alloc _ _).trans y1
    have x0 : Ext w w0 := y0
    have e0_0 := y1.cell (b0.1 0 (.bool s1) rfl)
    have e0_1 := y1.cell (b0.1 1 (.slice A1 L1 c1) rfl)
    have e0_2 := y1.cell (b0.1 2 (.slice B1 M1 d1) rfl)
    have e1_0 := b1.1 0 (.bool s2) rfl
    have e1_1 := b1.1 1 (.slice A2 L2 c2) rfl
    have e1_2 := b1.1 2 (.slice B2 M2 d2) rfl
    simp only [World.size_alloc] at e1_0 e1_1 e1_2
    clear hw0 b0 b1 y0 y1
    go_wp2_with fail
    refine (awake5 _).mono ?_
    rintro e w1 ⟨rfl, x1⟩
    replace e0_0 := x1.cell e0_0
    replace e0_1 := x1.cell e0_1
    replace e0_2 := x1.cell e0_2
    replace e1_0 := x1.cell e1_0
    replace e1_1 := x1.cell e1_1
    replace e1_2 := x1.cell e1_2
    go_wp2_with fail
    refine (few5 (n := 6) (by omega) (by omega) (by omega) (by omega) (by omega) (by omega)).mono ?_
    rintro e w2 ⟨rfl, x2⟩
    replace e0_0 := x2.cell e0_0
    replace e0_1 := x2.cell e0_1
    replace e0_2 := x2.cell e0_2
    replace e1_0 := x2.cell e1_0
    replace e1_1 := x2.cell e1_1
    replace e1_2 := x2.cell e1_2
    rw [HF.out]
    clear hsz
    go_wp2_with fail
    refine (awake5 _).mono ?_
    rintro e w3 ⟨rfl, x3⟩
    replace e0_0 := x3.cell e0_0
    replace e0_1 := x3.cell e0_1
    replace e0_2 := x3.cell e0_2
    replace e1_0 := x3.cell e1_0
    replace e1_1 := x3.cell e1_1
    replace e1_2 := x3.cell e1_2
    go_wp2_with fail
    go_ret
    exact ⟨rfl, (by repeat' (first | with_reducible exact Ext.refl _ | with_reducible assumption | with_reducible apply Ext.alloc_r | with_reducible apply Ext.drew_r | with_reducible apply Ext.drewN_r | with_reducible refine Ext.trans ?_ ‹Ext _ _›))⟩
end Go.Proofs.Ytfnmbhjifdfibaa
