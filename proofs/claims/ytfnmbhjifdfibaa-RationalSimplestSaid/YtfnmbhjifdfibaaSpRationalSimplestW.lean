/- The walk of RationalSimplest. -/
import Derived.Test.YtfnmbhjifdfibaaSpLaw5c
import Derived.Test.YtfnmbhjifdfibaaRefY
import Derived.Test.YtfnmbhjifdfibaaSpSimpZ
import Derived.Test.YtfnmbhjifdfibaaSpRSimp
namespace Go.Proofs.Ytfnmbhjifdfibaa
open Go.RowKit
set_option maxHeartbeats 40000000 in
set_option maxRecDepth 100000 in
theorem rationalSimplest_walk {w : World} {s1 : Bool} {A1 B1 : Option Addr} {c1 L1 d1 M1 : Nat} {x1 : Int} {y1 : Nat} {s2 : Bool} {A2 B2 : Option Addr} {c2 L2 d2 M2 : Nat} {x2 : Int} {y2 : Nat} (h1 : RW w s1 A1 c1 L1 B1 d1 M1 x1 y1) (h2 : RW w s2 A2 c2 L2 B2 d2 M2 x2 y2) :
    Calls Try.prog 9 #[Value.agg #[Value.bool s1, Value.slice A1 L1 c1, Value.slice B1 M1 d1], Value.agg #[Value.bool s2, Value.slice A2 L2 c2, Value.slice B2 M2 d2]] w fun e w' => e = .returned (.bool true) ∧ Ext w w' := by
  have pa1 := h1.num.nv.cap
  have pb1 := h1.den.cap
  have qa1 := h1.num.nv.le
  have qb1 := h1.den.le
  have pa2 := h2.num.nv.cap
  have pb2 := h2.den.cap
  have qa2 := h2.num.nv.le
  have qb2 := h2.den.le
  by_cases hf : L1 ≤ 1 ∧ M1 ≤ 1 ∧ L2 ≤ 1 ∧ M2 ≤ 1
  · have e1 := h1.rv (N := 1) (by omega) (by omega) (by omega)
    have e2 := h2.rv (N := 1) (by omega) (by omega) (by omega)
    have HF : Hid (((decide (L1 ≤ 1) && (decide (M1 ≤ 1) && decide (L2 ≤ 1))) && (decide (M2 ≤ 1) && (decide (L1 ≤ 1) && decide (M1 ≤ 1)))) = true) := by show _ = _; simp only [decide_eq_true_eq, Bool.and_eq_true]; omega
    have HO1 : Hid (∀ w', Ext w w' → Calls Try.prog 16 #[Value.agg #[Value.bool s1, Value.slice A1 L1 c1, Value.slice B1 M1 d1]] w' (RetQ w' 32 (mkRat x1 y1))) := fun w' hx => lof5 (h1.ext hx) (by omega) (by omega) (by omega) (by omega)
    generalize mkRat x1 y1 = q1 at *
    have HO2 : Hid (∀ w', Ext w w' → Calls Try.prog 16 #[Value.agg #[Value.bool s2, Value.slice A2 L2 c2, Value.slice B2 M2 d2]] w' (RetQ w' 32 (mkRat x2 y2))) := fun w' hx => lof5 (h2.ext hx) (by omega) (by omega) (by omega) (by omega)
    generalize mkRat x2 y2 = q2 at *
    clear hf h1 h2
    go_enter Try.func9, Try.ntmps9
    go_wp2_with fail
    obtain ⟨w0, hw0⟩ : ∃ z : World, z = ((w.alloc (.cells #[.bool s1, .slice A1 L1 c1, .slice B1 M1 d1] 27)).alloc (.cells #[.bool s2, .slice A2 L2 c2, .slice B2 M2 d2] 27)) := ⟨_, rfl⟩
    rw [← hw0]
    have b0 := box_at w #[.bool s1, .slice A1 L1 c1, .slice B1 M1 d1] 27
    have b1 := box_at (w.alloc (.cells #[.bool s1, .slice A1 L1 c1, .slice B1 M1 d1] 27)) #[.bool s2, .slice A2 L2 c2, .slice B2 M2 d2] 27
    have hsz : w0.heap.size = w.heap.size + 1 + 1 := by rw [hw0]; simp
    rw [← hw0] at b1
    have y1 : Ext (w.alloc (.cells #[.bool s1, .slice A1 L1 c1, .slice B1 M1 d1] 27)) w0 := by rw [hw0]; exact Ext.alloc _ _
    have y0 : Ext w w0 := (Ext.alloc _ _).trans y1
    have x0 : Ext w w0 := y0
    have e0_0 := y1.cell (b0.1 0 (.bool s1) rfl)
    have e0_1 := y1.cell (b0.1 1 (.slice A1 L1 c1) rfl)
    have e0_2 := y1.cell (b0.1 2 (.slice B1 M1 d1) rfl)
    have e1_0 := b1.1 0 (.bool s2) rfl
    have e1_1 := b1.1 1 (.slice A2 L2 c2) rfl
    have e1_2 := b1.1 2 (.slice B2 M2 d2) rfl
    simp only [World.size_alloc] at e1_0 e1_1 e1_2
    clear hw0 b0 b1 y0 y1
    go_wp2_with fail
    refine (awake5 _).mono ?_
    rintro e w1 ⟨rfl, x1⟩
    replace e0_0 := x1.cell e0_0
    replace e0_1 := x1.cell e0_1
    replace e0_2 := x1.cell e0_2
    replace e1_0 := x1.cell e1_0
    replace e1_1 := x1.cell e1_1
    replace e1_2 := x1.cell e1_2
    go_wp2_with fail
    refine (few5 (n := 1) (by omega) (by omega) (by omega) (by omega) (by omega) (by omega)).mono ?_
    rintro e w2 ⟨rfl, x2⟩
    replace e0_0 := x2.cell e0_0
    replace e0_1 := x2.cell e0_1
    replace e0_2 := x2.cell e0_2
    replace e1_0 := x2.cell e1_0
    replace e1_1 := x2.cell e1_1
    replace e1_2 := x2.cell e1_2
    rw [HF.out]
    clear hsz
    obtain ⟨C, hC⟩ : ∃ K : Int, K = cmpQ q1 q2 := ⟨_, rfl⟩
    by_cases hab : q1 < q2
    · have hcn : ¬ 0 ≤ C := by rw [hC]; unfold cmpQ; rw [if_pos hab]; omega
      have HC := Lib.hid hC.symm
      clear hC
      obtain ⟨q, hq⟩ := isSimp_ex hab
      have HQ := Lib.hid hq
      have HAB := Lib.hid hab
      obtain ⟨D, hD⟩ : ∃ K : Int, K = cmpQ q1 q := ⟨_, rfl⟩
      obtain ⟨G, hG⟩ : ∃ K : Int, K = cmpQ q q2 := ⟨_, rfl⟩
      have gD : ¬ 0 ≤ D := by rw [hD]; unfold cmpQ; rw [if_pos hq.lo]; omega
      have gG : ¬ 0 ≤ G := by rw [hG]; unfold cmpQ; rw [if_pos hq.hi]; omega
      have HD := Lib.hid hD.symm
      have HG := Lib.hid hG.symm
      clear hD hG hq hab
      go_wp2_with fail
      refine (rsimp_r (e1.ext (by with_reducible repeat' first | exact Ext.refl _ | assumption | apply Ext.alloc_r | apply Ext.drew_r | apply Ext.drewN_r | refine Ext.trans ?_ ‹Ext _ _›)) (e2.ext (by with_reducible repeat' first | exact Ext.refl _ | assumption | apply Ext.alloc_r | apply Ext.drew_r | apply Ext.drewN_r | refine Ext.trans ?_ ‹Ext _ _›)) (by omega) HAB.out HQ.out).mono ?_
      rintro e w3 ⟨ss, As, cs, Ls, Bs, ds, Ms, rfl, s, x3⟩
      replace e0_0 := x3.cell e0_0
      replace e0_1 := x3.cell e0_1
      replace e0_2 := x3.cell e0_2
      replace e1_0 := x3.cell e1_0
      replace e1_1 := x3.cell e1_1
      replace e1_2 := x3.cell e1_2
      have te0_0 := fun o => (Ext.alloc w3 o).cell e0_0
      have te0_1 := fun o => (Ext.alloc w3 o).cell e0_1
      have te0_2 := fun o => (Ext.alloc w3 o).cell e0_2
      have te1_0 := fun o => (Ext.alloc w3 o).cell e1_0
      have te1_1 := fun o => (Ext.alloc w3 o).cell e1_1
      have te1_2 := fun o => (Ext.alloc w3 o).cell e1_2
      go_wp2_with fail
      clear te0_0 te0_1 te0_2 te1_0 te1_1 te1_2
      obtain ⟨w4, hw⟩ : ∃ z : World, z = (w3.alloc (.cells #[.bool ss, .slice As Ls cs, .slice Bs Ms ds] 27)) := ⟨_, rfl⟩
      rw [← hw]
      have x4 : Ext w3 w4 := by rw [hw]; exact Ext.alloc _ _
      have bb := box_at w3 #[.bool ss, .slice As Ls cs, .slice Bs Ms ds] 27
      rw [← hw] at bb
      replace e0_0 := x4.cell e0_0
      replace e0_1 := x4.cell e0_1
      replace e0_2 := x4.cell e0_2
      replace e1_0 := x4.cell e1_0
      replace e1_1 := x4.cell e1_1
      replace e1_2 := x4.cell e1_2
      have s_0 := bb.1 0 (.bool ss) rfl
      have s_1 := bb.1 1 (.slice As Ls cs) rfl
      have s_2 := bb.1 2 (.slice Bs Ms ds) rfl
      clear hw bb
      go_wp2_with fail
      go_cut [7, 8] (fun s7 s8 wx => PutQ w4 wx 32 q1 s7 ∧ PutQ w4 wx 32 q2 s8)
      case first =>
        have HK : Hid (∀ w', Ext w4 w' → Ext w4 w' ∧ w'.cell? ⟨w.heap.size, 0, none⟩ = some (.bool s1) ∧ w'.cell? ⟨w.heap.size, 1, none⟩ = some (.slice A1 L1 c1) ∧ w'.cell? ⟨w.heap.size, 2, none⟩ = some (.slice B1 M1 d1) ∧ w'.cell? ⟨w.heap.size + 1, 0, none⟩ = some (.bool s2) ∧ w'.cell? ⟨w.heap.size + 1, 1, none⟩ = some (.slice A2 L2 c2) ∧ w'.cell? ⟨w.heap.size + 1, 2, none⟩ = some (.slice B2 M2 d2) ∧ w'.cell? ⟨w3.heap.size, 0, none⟩ = some (.bool ss) ∧ w'.cell? ⟨w3.heap.size, 1, none⟩ = some (.slice As Ls cs) ∧ w'.cell? ⟨w3.heap.size, 2, none⟩ = some (.slice Bs Ms ds)) := fun w' hk => ⟨hk, hk.cell e0_0, hk.cell e0_1, hk.cell e0_2, hk.cell e1_0, hk.cell e1_1, hk.cell e1_2, hk.cell s_0, hk.cell s_1, hk.cell s_2⟩
        first
        | go_region_held3 (fun w' => Ext w4 w' ∧ w'.cell? ⟨w.heap.size, 0, none⟩ = some (.bool s1) ∧ w'.cell? ⟨w.heap.size, 1, none⟩ = some (.slice A1 L1 c1) ∧ w'.cell? ⟨w.heap.size, 2, none⟩ = some (.slice B1 M1 d1) ∧ w'.cell? ⟨w.heap.size + 1, 0, none⟩ = some (.bool s2) ∧ w'.cell? ⟨w.heap.size + 1, 1, none⟩ = some (.slice A2 L2 c2) ∧ w'.cell? ⟨w.heap.size + 1, 2, none⟩ = some (.slice B2 M2 d2) ∧ w'.cell? ⟨w3.heap.size, 0, none⟩ = some (.bool ss) ∧ w'.cell? ⟨w3.heap.size, 1, none⟩ = some (.slice As Ls cs) ∧ w'.cell? ⟨w3.heap.size, 2, none⟩ = some (.slice Bs Ms ds))
            ((with_reducible refine HK.out _ ?_; (repeat' (first | with_reducible exact Ext.refl _ | with_reducible assumption | with_reducible apply Ext.alloc_r | with_reducible apply Ext.drew_r | with_reducible apply Ext.drewN_r | with_reducible apply Ext.set_r | with_reducible exact Nat.le_refl _ | omega | with_reducible refine Ext.trans ?_ ‹Ext _ _›))))
            (first
              | (go_at_call_of 16 (#[Value.agg #[Value.bool s2, Value.slice A2 L2 c2, Value.slice B2 M2 d2]]); have hgd := oa; clear hgd; refine (HO2.out _ (by with_reducible repeat' first | exact Ext.refl _ | assumption | apply Ext.alloc_r | apply Ext.drew_r | apply Ext.drewN_r | refine Ext.trans ?_ ‹Ext _ _›)).mono ?_; rintro e w6 ⟨gob, Aob, cob, Lob, hob, Bob, dob, Mob, rfl, ob, x6⟩; (have zs6 := x6.size); (try simp only [World.size_alloc] at zs6); (try ((with_reducible have h6_0 := box_ext (vs := #[.int .i64 0, .slice none 0 0, .int .i64 0, .slice none 0 0]) x6); have h6_0c0 := (h6_0.1 0 (.int .i64 0) rfl).1; have h6_0f0 := (h6_0.1 0 (.int .i64 0) rfl).2; have h6_0c1 := (h6_0.1 1 (.slice none 0 0) rfl).1; have h6_0f1 := (h6_0.1 1 (.slice none 0 0) rfl).2; have h6_0c2 := (h6_0.1 2 (.int .i64 0) rfl).1; have h6_0f2 := (h6_0.1 2 (.int .i64 0) rfl).2; have h6_0c3 := (h6_0.1 3 (.slice none 0 0) rfl).1; have h6_0f3 := (h6_0.1 3 (.slice none 0 0) rfl).2; have h6_0b := h6_0.2.1; have h6_0z := h6_0.2.2; (try simp only [World.size_alloc] at h6_0b h6_0z h6_0c0 h6_0f0 h6_0c1 h6_0f1 h6_0c2 h6_0f2 h6_0c3 h6_0f3); have h6_0m := Nat.ne_of_lt h6_0z; have h6_0n := Nat.ne_of_gt h6_0z; clear h6_0)); (try ((with_reducible have h6_1 := box_ext (vs := #[.int .i64 0, .slice none 0 0, .int .i64 0, .slice none 0 0]) ((Ext.alloc _ _).trans x6)); have h6_1c0 := (h6_1.1 0 (.int .i64 0) rfl).1; have h6_1f0 := (h6_1.1 0 (.int .i64 0) rfl).2; have h6_1c1 := (h6_1.1 1 (.slice none 0 0) rfl).1; have h6_1f1 := (h6_1.1 1 (.slice none 0 0) rfl).2; have h6_1c2 := (h6_1.1 2 (.int .i64 0) rfl).1; have h6_1f2 := (h6_1.1 2 (.int .i64 0) rfl).2; have h6_1c3 := (h6_1.1 3 (.slice none 0 0) rfl).1; have h6_1f3 := (h6_1.1 3 (.slice none 0 0) rfl).2; have h6_1b := h6_1.2.1; have h6_1z := h6_1.2.2; (try simp only [World.size_alloc] at h6_1b h6_1z h6_1c0 h6_1f0 h6_1c1 h6_1f1 h6_1c2 h6_1f2 h6_1c3 h6_1f3); have h6_1m := Nat.ne_of_lt h6_1z; have h6_1n := Nat.ne_of_gt h6_1z; clear h6_1)); (try (have hh : Ext w5 w6 := ?g600; (case g600 => ((with_reducible repeat' first | exact Ext.refl _ | assumption | apply Ext.alloc_r | apply Ext.drew_r | apply Ext.drewN_r | refine Ext.trans ?_ ‹Ext _ _›); done)); replace h5_0f0 := hh.frozen h5_0c0 h5_0f0; replace h5_0c0 := hh.cell h5_0c0; replace h5_0f1 := hh.frozen h5_0c1 h5_0f1; replace h5_0c1 := hh.cell h5_0c1; replace h5_0f2 := hh.frozen h5_0c2 h5_0f2; replace h5_0c2 := hh.cell h5_0c2; replace h5_0f3 := hh.frozen h5_0c3 h5_0f3; replace h5_0c3 := hh.cell h5_0c3; replace h5_0b := h5_0b.ext hh; have h5_0z2 := Nat.lt_of_lt_of_le h5_0z hh.size; have h5_0m2 := Nat.ne_of_lt h5_0z2; have h5_0n2 := Nat.ne_of_gt h5_0z2; clear hh)); (try (have hh : Ext w5 w6 := ?g601; (case g601 => ((with_reducible repeat' first | exact Ext.refl _ | assumption | apply Ext.alloc_r | apply Ext.drew_r | apply Ext.drewN_r | refine Ext.trans ?_ ‹Ext _ _›); done)); replace h5_1f0 := hh.frozen h5_1c0 h5_1f0; replace h5_1c0 := hh.cell h5_1c0; replace h5_1f1 := hh.frozen h5_1c1 h5_1f1; replace h5_1c1 := hh.cell h5_1c1; replace h5_1f2 := hh.frozen h5_1c2 h5_1f2; replace h5_1c2 := hh.cell h5_1c2; replace h5_1f3 := hh.frozen h5_1c3 h5_1f3; replace h5_1c3 := hh.cell h5_1c3; replace h5_1b := h5_1b.ext hh; have h5_1z2 := Nat.lt_of_lt_of_le h5_1z hh.size; have h5_1m2 := Nat.ne_of_lt h5_1z2; have h5_1n2 := Nat.ne_of_gt h5_1z2; clear hh)))
              | (go_at_call_of 16 (#[Value.agg #[Value.bool s1, Value.slice A1 L1 c1, Value.slice B1 M1 d1]]); refine (HO1.out _ (by with_reducible repeat' first | exact Ext.refl _ | assumption | apply Ext.alloc_r | apply Ext.drew_r | apply Ext.drewN_r | refine Ext.trans ?_ ‹Ext _ _›)).mono ?_; rintro e w5 ⟨goa, Aoa, coa, Loa, hoa, Boa, doa, Moa, rfl, oa, x5⟩; (have zs5 := x5.size); (try simp only [World.size_alloc, World.size_drew] at zs5); (try ((with_reducible have h5_0 := box_ext (vs := #[.int .i64 0, .slice none 0 0, .int .i64 0, .slice none 0 0]) ((Ext.drew _).trans x5)); have h5_0c0 := (h5_0.1 0 (.int .i64 0) rfl).1; have h5_0f0 := (h5_0.1 0 (.int .i64 0) rfl).2; have h5_0c1 := (h5_0.1 1 (.slice none 0 0) rfl).1; have h5_0f1 := (h5_0.1 1 (.slice none 0 0) rfl).2; have h5_0c2 := (h5_0.1 2 (.int .i64 0) rfl).1; have h5_0f2 := (h5_0.1 2 (.int .i64 0) rfl).2; have h5_0c3 := (h5_0.1 3 (.slice none 0 0) rfl).1; have h5_0f3 := (h5_0.1 3 (.slice none 0 0) rfl).2; have h5_0b := h5_0.2.1; have h5_0z := h5_0.2.2; (try simp only [World.size_alloc] at h5_0b h5_0z h5_0c0 h5_0f0 h5_0c1 h5_0f1 h5_0c2 h5_0f2 h5_0c3 h5_0f3); have h5_0m := Nat.ne_of_lt h5_0z; have h5_0n := Nat.ne_of_gt h5_0z; clear h5_0)); (try ((with_reducible have h5_1 := box_ext (vs := #[.int .i64 0, .slice none 0 0, .int .i64 0, .slice none 0 0]) (((Ext.alloc _ _).trans (Ext.drew _)).trans x5)); have h5_1c0 := (h5_1.1 0 (.int .i64 0) rfl).1; have h5_1f0 := (h5_1.1 0 (.int .i64 0) rfl).2; have h5_1c1 := (h5_1.1 1 (.slice none 0 0) rfl).1; have h5_1f1 := (h5_1.1 1 (.slice none 0 0) rfl).2; have h5_1c2 := (h5_1.1 2 (.int .i64 0) rfl).1; have h5_1f2 := (h5_1.1 2 (.int .i64 0) rfl).2; have h5_1c3 := (h5_1.1 3 (.slice none 0 0) rfl).1; have h5_1f3 := (h5_1.1 3 (.slice none 0 0) rfl).2; have h5_1b := h5_1.2.1; have h5_1z := h5_1.2.2; (try simp only [World.size_alloc] at h5_1b h5_1z h5_1c0 h5_1f0 h5_1c1 h5_1f1 h5_1c2 h5_1f2 h5_1c3 h5_1f3); have h5_1m := Nat.ne_of_lt h5_1z; have h5_1n := Nat.ne_of_gt h5_1z; clear h5_1))))
        | fail
        all_goals (clear HK; go_wp2_with fail; go_meet)
        all_goals
          refine ⟨?_, ?_⟩
          · refine PutQ.mk (g := goa) (A := Aoa) (c := coa) (L := Loa) (h := hoa) (B := Boa) (d := doa) (M := Moa) ?_ (oa.kept ?_) ?_
            · refine Bx.mk4 ?_ ?_ ?_ ?_
              · go_simp
              · go_simp
              · go_simp
              · go_simp
            · (repeat' (first | with_reducible exact Kept.refl _ | with_reducible apply Kept.alloc_r | with_reducible apply Kept.drew_r | (with_reducible apply Kept.setQ; (case hb => ((repeat' (first | with_reducible assumption | with_reducible apply IsBox.set_ | (with_reducible apply IsBox.new; (first | (with_reducible rfl) | simp); done) | with_reducible apply IsBox.alloc_ | with_reducible apply IsBox.drew_ | with_reducible refine IsBox.ext ?_ ‹Ext _ _›)); done))) | (with_reducible apply Kept.setR; (case hb => ((repeat' (first | with_reducible assumption | with_reducible apply IsBox.set_ | (with_reducible apply IsBox.new; (first | (with_reducible rfl) | simp); done) | with_reducible apply IsBox.alloc_ | with_reducible apply IsBox.drew_ | with_reducible refine IsBox.ext ?_ ‹Ext _ _›)); done))) | (with_reducible apply Kept.setZ; (case hb => ((repeat' (first | with_reducible assumption | with_reducible apply IsBox.set_ | (with_reducible apply IsBox.new; (first | (with_reducible rfl) | simp); done) | with_reducible apply IsBox.alloc_ | with_reducible apply IsBox.drew_ | with_reducible refine IsBox.ext ?_ ‹Ext _ _›)); done))) | (with_reducible apply Kept.setI; (case hb => ((repeat' (first | with_reducible assumption | with_reducible apply IsBox.set_ | (with_reducible apply IsBox.new; (first | (with_reducible rfl) | simp); done) | with_reducible apply IsBox.alloc_ | with_reducible apply IsBox.drew_ | with_reducible refine IsBox.ext ?_ ‹Ext _ _›)); done))) | with_reducible refine Kept.trans ?_ (Ext.kept ‹Ext _ _›)))
            · (repeat' (first | with_reducible exact Ext.refl _ | with_reducible assumption | with_reducible apply Ext.alloc_r | with_reducible apply Ext.drew_r | with_reducible apply Ext.drewN_r | with_reducible apply Ext.set_r | with_reducible exact Nat.le_refl _ | omega | with_reducible refine Ext.trans ?_ ‹Ext _ _›))
          · refine PutQ.mk (g := gob) (A := Aob) (c := cob) (L := Lob) (h := hob) (B := Bob) (d := dob) (M := Mob) ?_ (ob.kept ?_) ?_
            · refine Bx.mk4 ?_ ?_ ?_ ?_
              · go_simp
              · go_simp
              · go_simp
              · go_simp
            · (repeat' (first | with_reducible exact Kept.refl _ | with_reducible apply Kept.alloc_r | with_reducible apply Kept.drew_r | (with_reducible apply Kept.setQ; (case hb => ((repeat' (first | with_reducible assumption | with_reducible apply IsBox.set_ | (with_reducible apply IsBox.new; (first | (with_reducible rfl) | simp); done) | with_reducible apply IsBox.alloc_ | with_reducible apply IsBox.drew_ | with_reducible refine IsBox.ext ?_ ‹Ext _ _›)); done))) | (with_reducible apply Kept.setR; (case hb => ((repeat' (first | with_reducible assumption | with_reducible apply IsBox.set_ | (with_reducible apply IsBox.new; (first | (with_reducible rfl) | simp); done) | with_reducible apply IsBox.alloc_ | with_reducible apply IsBox.drew_ | with_reducible refine IsBox.ext ?_ ‹Ext _ _›)); done))) | (with_reducible apply Kept.setZ; (case hb => ((repeat' (first | with_reducible assumption | with_reducible apply IsBox.set_ | (with_reducible apply IsBox.new; (first | (with_reducible rfl) | simp); done) | with_reducible apply IsBox.alloc_ | with_reducible apply IsBox.drew_ | with_reducible refine IsBox.ext ?_ ‹Ext _ _›)); done))) | (with_reducible apply Kept.setI; (case hb => ((repeat' (first | with_reducible assumption | with_reducible apply IsBox.set_ | (with_reducible apply IsBox.new; (first | (with_reducible rfl) | simp); done) | with_reducible apply IsBox.alloc_ | with_reducible apply IsBox.drew_ | with_reducible refine IsBox.ext ?_ ‹Ext _ _›)); done))) | with_reducible refine Kept.trans ?_ (Ext.kept ‹Ext _ _›)))
            · (repeat' (first | with_reducible exact Ext.refl _ | with_reducible assumption | with_reducible apply Ext.alloc_r | with_reducible apply Ext.drew_r | with_reducible apply Ext.drewN_r | with_reducible apply Ext.set_r | with_reducible exact Nat.le_refl _ | omega | with_reducible refine Ext.trans ?_ ‹Ext _ _›))
      case rest =>
        have hcw := hcut
        obtain ⟨hc_0, hc_1⟩ := hcw
        obtain ⟨gx, Ax, cx, Lx, hx, Bx, dx, Mx, ⟨bkx, rfl, ccx⟩, x, xxx⟩ := hc_0
        obtain ⟨gy, Ay, cy, Ly, hy, By, dy, My, ⟨bky, rfl, ccy⟩, y, xxy⟩ := hc_1
        have x7 := xxx
        clear xxx
        clear xxy
        obtain ⟨wc7, rfl⟩ : ∃ z : World, z = wc := ⟨_, rfl⟩
        replace e0_0 := x7.cell e0_0
        replace e0_1 := x7.cell e0_1
        replace e0_2 := x7.cell e0_2
        replace e1_0 := x7.cell e1_0
        replace e1_1 := x7.cell e1_1
        replace e1_2 := x7.cell e1_2
        replace s_0 := x7.cell s_0
        replace s_1 := x7.cell s_1
        replace s_2 := x7.cell s_2
        have x_0 := ccx 0 (.int .i64 gx) rfl
        have x_1 := ccx 1 (.slice Ax Lx cx) rfl
        have x_2 := ccx 2 (.int .i64 hx) rfl
        have x_3 := ccx 3 (.slice Bx Mx dx) rfl
        clear ccx
        have y_0 := ccy 0 (.int .i64 gy) rfl
        have y_1 := ccy 1 (.slice Ay Ly cy) rfl
        have y_2 := ccy 2 (.int .i64 hy) rfl
        have y_3 := ccy 3 (.slice By My dy) rfl
        clear ccy
        go_wp2_with fail
        refine (qcmp_is (k := C) (x.ext (by with_reducible repeat' first | exact Ext.refl _ | assumption | apply Ext.alloc_r | apply Ext.drew_r | apply Ext.drewN_r | refine Ext.trans ?_ ‹Ext _ _›)) (y.ext (by with_reducible repeat' first | exact Ext.refl _ | assumption | apply Ext.alloc_r | apply Ext.drew_r | apply Ext.drewN_r | refine Ext.trans ?_ ‹Ext _ _›)) (by omega) (by omega) HC.out).mono ?_
        rintro e w8 ⟨rfl, x8⟩
        replace e0_0 := x8.cell e0_0
        replace e0_1 := x8.cell e0_1
        replace e0_2 := x8.cell e0_2
        replace e1_0 := x8.cell e1_0
        replace e1_1 := x8.cell e1_1
        replace e1_2 := x8.cell e1_2
        replace s_0 := x8.cell s_0
        replace s_1 := x8.cell s_1
        replace s_2 := x8.cell s_2
        replace x_0 := x8.cell x_0
        replace x_1 := x8.cell x_1
        replace x_2 := x8.cell x_2
        replace x_3 := x8.cell x_3
        replace y_0 := x8.cell y_0
        replace y_1 := x8.cell y_1
        replace y_2 := x8.cell y_2
        replace y_3 := x8.cell y_3
        go_wp2_with fail
        refine (rcmp_is (k := D) (e1.ext (by with_reducible repeat' first | exact Ext.refl _ | assumption | apply Ext.alloc_r | apply Ext.drew_r | apply Ext.drewN_r | refine Ext.trans ?_ ‹Ext _ _›)) (s.rv.ext (by with_reducible repeat' first | exact Ext.refl _ | assumption | apply Ext.alloc_r | apply Ext.drew_r | apply Ext.drewN_r | refine Ext.trans ?_ ‹Ext _ _›)) (by omega) (by omega) HD.out).mono ?_
        rintro e w9 ⟨rfl, x9⟩
        replace e0_0 := x9.cell e0_0
        replace e0_1 := x9.cell e0_1
        replace e0_2 := x9.cell e0_2
        replace e1_0 := x9.cell e1_0
        replace e1_1 := x9.cell e1_1
        replace e1_2 := x9.cell e1_2
        replace s_0 := x9.cell s_0
        replace s_1 := x9.cell s_1
        replace s_2 := x9.cell s_2
        replace x_0 := x9.cell x_0
        replace x_1 := x9.cell x_1
        replace x_2 := x9.cell x_2
        replace x_3 := x9.cell x_3
        replace y_0 := x9.cell y_0
        replace y_1 := x9.cell y_1
        replace y_2 := x9.cell y_2
        replace y_3 := x9.cell y_3
        go_wp2_with fail
        refine (rcmp_is (k := G) (s.rv.ext (by with_reducible repeat' first | exact Ext.refl _ | assumption | apply Ext.alloc_r | apply Ext.drew_r | apply Ext.drewN_r | refine Ext.trans ?_ ‹Ext _ _›)) (e2.ext (by with_reducible repeat' first | exact Ext.refl _ | assumption | apply Ext.alloc_r | apply Ext.drew_r | apply Ext.drewN_r | refine Ext.trans ?_ ‹Ext _ _›)) (by omega) (by omega) HG.out).mono ?_
        rintro e w10 ⟨rfl, x10⟩
        replace e0_0 := x10.cell e0_0
        replace e0_1 := x10.cell e0_1
        replace e0_2 := x10.cell e0_2
        replace e1_0 := x10.cell e1_0
        replace e1_1 := x10.cell e1_1
        replace e1_2 := x10.cell e1_2
        replace s_0 := x10.cell s_0
        replace s_1 := x10.cell s_1
        replace s_2 := x10.cell s_2
        replace x_0 := x10.cell x_0
        replace x_1 := x10.cell x_1
        replace x_2 := x10.cell x_2
        replace x_3 := x10.cell x_3
        replace y_0 := x10.cell y_0
        replace y_1 := x10.cell y_1
        replace y_2 := x10.cell y_2
        replace y_3 := x10.cell y_3
        go_wp2_with fail
        refine (qsimp_r (x.ext (by with_reducible repeat' first | exact Ext.refl _ | assumption | apply Ext.alloc_r | apply Ext.drew_r | apply Ext.drewN_r | refine Ext.trans ?_ ‹Ext _ _›)) (y.ext (by with_reducible repeat' first | exact Ext.refl _ | assumption | apply Ext.alloc_r | apply Ext.drew_r | apply Ext.drewN_r | refine Ext.trans ?_ ‹Ext _ _›)) (by omega) HQ.out).mono ?_
        rintro e w11 ⟨gwa, Awa, cwa, Lwa, hwa, Bwa, dwa, Mwa, bwa, rfl, wa, x11⟩
        replace e0_0 := x11.cell e0_0
        replace e0_1 := x11.cell e0_1
        replace e0_2 := x11.cell e0_2
        replace e1_0 := x11.cell e1_0
        replace e1_1 := x11.cell e1_1
        replace e1_2 := x11.cell e1_2
        replace s_0 := x11.cell s_0
        replace s_1 := x11.cell s_1
        replace s_2 := x11.cell s_2
        replace x_0 := x11.cell x_0
        replace x_1 := x11.cell x_1
        replace x_2 := x11.cell x_2
        replace x_3 := x11.cell x_3
        replace y_0 := x11.cell y_0
        replace y_1 := x11.cell y_1
        replace y_2 := x11.cell y_2
        replace y_3 := x11.cell y_3
        have HWA := Lib.hid wa
        clear wa
        cases hb : bwa
        · clear HWA
          have te0_0 := fun o => (Ext.alloc w11 o).cell e0_0
          have te0_1 := fun o => (Ext.alloc w11 o).cell e0_1
          have te0_2 := fun o => (Ext.alloc w11 o).cell e0_2
          have te1_0 := fun o => (Ext.alloc w11 o).cell e1_0
          have te1_1 := fun o => (Ext.alloc w11 o).cell e1_1
          have te1_2 := fun o => (Ext.alloc w11 o).cell e1_2
          have ts_0 := fun o => (Ext.alloc w11 o).cell s_0
          have ts_1 := fun o => (Ext.alloc w11 o).cell s_1
          have ts_2 := fun o => (Ext.alloc w11 o).cell s_2
          have tx_0 := fun o => (Ext.alloc w11 o).cell x_0
          have tx_1 := fun o => (Ext.alloc w11 o).cell x_1
          have tx_2 := fun o => (Ext.alloc w11 o).cell x_2
          have tx_3 := fun o => (Ext.alloc w11 o).cell x_3
          have ty_0 := fun o => (Ext.alloc w11 o).cell y_0
          have ty_1 := fun o => (Ext.alloc w11 o).cell y_1
          have ty_2 := fun o => (Ext.alloc w11 o).cell y_2
          have ty_3 := fun o => (Ext.alloc w11 o).cell y_3
          go_wp2_with fail
          clear te0_0 te0_1 te0_2 te1_0 te1_1 te1_2 ts_0 ts_1 ts_2 tx_0 tx_1 tx_2 tx_3 ty_0 ty_1 ty_2 ty_3
          obtain ⟨w12, hw⟩ : ∃ z : World, z = (w11.alloc (.cells #[.int .i64 gwa, .slice Awa Lwa cwa, .int .i64 hwa, .slice Bwa Mwa dwa] 38)) := ⟨_, rfl⟩
          rw [← hw]
          have x12 : Ext w11 w12 := by rw [hw]; exact Ext.alloc _ _
          have bb := box_at w11 #[.int .i64 gwa, .slice Awa Lwa cwa, .int .i64 hwa, .slice Bwa Mwa dwa] 38
          rw [← hw] at bb
          replace e0_0 := x12.cell e0_0
          replace e0_1 := x12.cell e0_1
          replace e0_2 := x12.cell e0_2
          replace e1_0 := x12.cell e1_0
          replace e1_1 := x12.cell e1_1
          replace e1_2 := x12.cell e1_2
          replace s_0 := x12.cell s_0
          replace s_1 := x12.cell s_1
          replace s_2 := x12.cell s_2
          replace x_0 := x12.cell x_0
          replace x_1 := x12.cell x_1
          replace x_2 := x12.cell x_2
          replace x_3 := x12.cell x_3
          replace y_0 := x12.cell y_0
          replace y_1 := x12.cell y_1
          replace y_2 := x12.cell y_2
          replace y_3 := x12.cell y_3
          have wa_0 := bb.1 0 (.int .i64 gwa) rfl
          have wa_1 := bb.1 1 (.slice Awa Lwa cwa) rfl
          have wa_2 := bb.1 2 (.int .i64 hwa) rfl
          have wa_3 := bb.1 3 (.slice Bwa Mwa dwa) rfl
          clear hw bb
          go_wp2_with fail
          go_ret
          exact ⟨rfl, (by with_reducible repeat' first | exact Ext.refl _ | assumption | apply Ext.alloc_r | apply Ext.drew_r | apply Ext.drewN_r | refine Ext.trans ?_ ‹Ext _ _›)⟩
        · have hw := HWA.out hb
          have te0_0 := fun o => (Ext.alloc w11 o).cell e0_0
          have te0_1 := fun o => (Ext.alloc w11 o).cell e0_1
          have te0_2 := fun o => (Ext.alloc w11 o).cell e0_2
          have te1_0 := fun o => (Ext.alloc w11 o).cell e1_0
          have te1_1 := fun o => (Ext.alloc w11 o).cell e1_1
          have te1_2 := fun o => (Ext.alloc w11 o).cell e1_2
          have ts_0 := fun o => (Ext.alloc w11 o).cell s_0
          have ts_1 := fun o => (Ext.alloc w11 o).cell s_1
          have ts_2 := fun o => (Ext.alloc w11 o).cell s_2
          have tx_0 := fun o => (Ext.alloc w11 o).cell x_0
          have tx_1 := fun o => (Ext.alloc w11 o).cell x_1
          have tx_2 := fun o => (Ext.alloc w11 o).cell x_2
          have tx_3 := fun o => (Ext.alloc w11 o).cell x_3
          have ty_0 := fun o => (Ext.alloc w11 o).cell y_0
          have ty_1 := fun o => (Ext.alloc w11 o).cell y_1
          have ty_2 := fun o => (Ext.alloc w11 o).cell y_2
          have ty_3 := fun o => (Ext.alloc w11 o).cell y_3
          go_wp2_with fail
          clear te0_0 te0_1 te0_2 te1_0 te1_1 te1_2 ts_0 ts_1 ts_2 tx_0 tx_1 tx_2 tx_3 ty_0 ty_1 ty_2 ty_3
          obtain ⟨w12, hw⟩ : ∃ z : World, z = (w11.alloc (.cells #[.int .i64 gwa, .slice Awa Lwa cwa, .int .i64 hwa, .slice Bwa Mwa dwa] 38)) := ⟨_, rfl⟩
          rw [← hw]
          have x12 : Ext w11 w12 := by rw [hw]; exact Ext.alloc _ _
          have bb := box_at w11 #[.int .i64 gwa, .slice Awa Lwa cwa, .int .i64 hwa, .slice Bwa Mwa dwa] 38
          rw [← hw] at bb
          replace e0_0 := x12.cell e0_0
          replace e0_1 := x12.cell e0_1
          replace e0_2 := x12.cell e0_2
          replace e1_0 := x12.cell e1_0
          replace e1_1 := x12.cell e1_1
          replace e1_2 := x12.cell e1_2
          replace s_0 := x12.cell s_0
          replace s_1 := x12.cell s_1
          replace s_2 := x12.cell s_2
          replace x_0 := x12.cell x_0
          replace x_1 := x12.cell x_1
          replace x_2 := x12.cell x_2
          replace x_3 := x12.cell x_3
          replace y_0 := x12.cell y_0
          replace y_1 := x12.cell y_1
          replace y_2 := x12.cell y_2
          replace y_3 := x12.cell y_3
          have wa_0 := bb.1 0 (.int .i64 gwa) rfl
          have wa_1 := bb.1 1 (.slice Awa Lwa cwa) rfl
          have wa_2 := bb.1 2 (.int .i64 hwa) rfl
          have wa_3 := bb.1 3 (.slice Bwa Mwa dwa) rfl
          clear hw bb
          go_wp2_with fail
          refine (lis5 (s.ext (by with_reducible repeat' first | exact Ext.refl _ | assumption | apply Ext.alloc_r | apply Ext.drew_r | apply Ext.drewN_r | refine Ext.trans ?_ ‹Ext _ _›)) (hw.ext (by with_reducible repeat' first | exact Ext.refl _ | assumption | apply Ext.alloc_r | apply Ext.drew_r | apply Ext.drewN_r | refine Ext.trans ?_ ‹Ext _ _›)) rfl (by omega)).mono ?_
          rintro e w13 ⟨rfl, x13⟩
          replace e0_0 := x13.cell e0_0
          replace e0_1 := x13.cell e0_1
          replace e0_2 := x13.cell e0_2
          replace e1_0 := x13.cell e1_0
          replace e1_1 := x13.cell e1_1
          replace e1_2 := x13.cell e1_2
          replace s_0 := x13.cell s_0
          replace s_1 := x13.cell s_1
          replace s_2 := x13.cell s_2
          replace x_0 := x13.cell x_0
          replace x_1 := x13.cell x_1
          replace x_2 := x13.cell x_2
          replace x_3 := x13.cell x_3
          replace y_0 := x13.cell y_0
          replace y_1 := x13.cell y_1
          replace y_2 := x13.cell y_2
          replace y_3 := x13.cell y_3
          replace wa_0 := x13.cell wa_0
          replace wa_1 := x13.cell wa_1
          replace wa_2 := x13.cell wa_2
          replace wa_3 := x13.cell wa_3
          go_wp2_with fail
          go_ret
          exact ⟨rfl, (by with_reducible repeat' first | exact Ext.refl _ | assumption | apply Ext.alloc_r | apply Ext.drew_r | apply Ext.drewN_r | refine Ext.trans ?_ ‹Ext _ _›)⟩
    · have hcn : 0 ≤ C := by rw [hC]; unfold cmpQ; rw [if_neg hab]; split <;> omega
      have HC := Lib.hid hC.symm
      clear hC
      have HAB := Lib.hid hab
      clear hab
      go_wp2_with fail
      refine (rsimp_err (e1.ext (by with_reducible repeat' first | exact Ext.refl _ | assumption | apply Ext.alloc_r | apply Ext.drew_r | apply Ext.drewN_r | refine Ext.trans ?_ ‹Ext _ _›)) (e2.ext (by with_reducible repeat' first | exact Ext.refl _ | assumption | apply Ext.alloc_r | apply Ext.drew_r | apply Ext.drewN_r | refine Ext.trans ?_ ‹Ext _ _›)) (by omega) HAB.out).mono ?_
      rintro e w3 ⟨rfl, x3⟩
      replace e0_0 := x3.cell e0_0
      replace e0_1 := x3.cell e0_1
      replace e0_2 := x3.cell e0_2
      replace e1_0 := x3.cell e1_0
      replace e1_1 := x3.cell e1_1
      replace e1_2 := x3.cell e1_2
      have te0_0 := fun o => (Ext.alloc w3 o).cell e0_0
      have te0_1 := fun o => (Ext.alloc w3 o).cell e0_1
      have te0_2 := fun o => (Ext.alloc w3 o).cell e0_2
      have te1_0 := fun o => (Ext.alloc w3 o).cell e1_0
      have te1_1 := fun o => (Ext.alloc w3 o).cell e1_1
      have te1_2 := fun o => (Ext.alloc w3 o).cell e1_2
      go_wp2_with fail
      clear te0_0 te0_1 te0_2 te1_0 te1_1 te1_2
      obtain ⟨w4, hw⟩ : ∃ z : World, z = (w3.alloc (.cells #[.bool false, .slice none 0 0, .slice none 0 0] 27)) := ⟨_, rfl⟩
      rw [← hw]
      have x4 : Ext w3 w4 := by rw [hw]; exact Ext.alloc _ _
      have bb := box_at w3 #[.bool false, .slice none 0 0, .slice none 0 0] 27
      rw [← hw] at bb
      replace e0_0 := x4.cell e0_0
      replace e0_1 := x4.cell e0_1
      replace e0_2 := x4.cell e0_2
      replace e1_0 := x4.cell e1_0
      replace e1_1 := x4.cell e1_1
      replace e1_2 := x4.cell e1_2
      have s_0 := bb.1 0 (.bool false) rfl
      have s_1 := bb.1 1 (.slice none 0 0) rfl
      have s_2 := bb.1 2 (.slice none 0 0) rfl
      clear hw bb
      go_wp2_with fail
      go_cut [7, 8] (fun s7 s8 wx => PutQ w4 wx 32 q1 s7 ∧ PutQ w4 wx 32 q2 s8)
      case first =>
        have HK : Hid (∀ w', Ext w4 w' → Ext w4 w' ∧ w'.cell? ⟨w.heap.size, 0, none⟩ = some (.bool s1) ∧ w'.cell? ⟨w.heap.size, 1, none⟩ = some (.slice A1 L1 c1) ∧ w'.cell? ⟨w.heap.size, 2, none⟩ = some (.slice B1 M1 d1) ∧ w'.cell? ⟨w.heap.size + 1, 0, none⟩ = some (.bool s2) ∧ w'.cell? ⟨w.heap.size + 1, 1, none⟩ = some (.slice A2 L2 c2) ∧ w'.cell? ⟨w.heap.size + 1, 2, none⟩ = some (.slice B2 M2 d2) ∧ w'.cell? ⟨w3.heap.size, 0, none⟩ = some (.bool false) ∧ w'.cell? ⟨w3.heap.size, 1, none⟩ = some (.slice none 0 0) ∧ w'.cell? ⟨w3.heap.size, 2, none⟩ = some (.slice none 0 0)) := fun w' hk => ⟨hk, hk.cell e0_0, hk.cell e0_1, hk.cell e0_2, hk.cell e1_0, hk.cell e1_1, hk.cell e1_2, hk.cell s_0, hk.cell s_1, hk.cell s_2⟩
        first
        | go_region_held3 (fun w' => Ext w4 w' ∧ w'.cell? ⟨w.heap.size, 0, none⟩ = some (.bool s1) ∧ w'.cell? ⟨w.heap.size, 1, none⟩ = some (.slice A1 L1 c1) ∧ w'.cell? ⟨w.heap.size, 2, none⟩ = some (.slice B1 M1 d1) ∧ w'.cell? ⟨w.heap.size + 1, 0, none⟩ = some (.bool s2) ∧ w'.cell? ⟨w.heap.size + 1, 1, none⟩ = some (.slice A2 L2 c2) ∧ w'.cell? ⟨w.heap.size + 1, 2, none⟩ = some (.slice B2 M2 d2) ∧ w'.cell? ⟨w3.heap.size, 0, none⟩ = some (.bool false) ∧ w'.cell? ⟨w3.heap.size, 1, none⟩ = some (.slice none 0 0) ∧ w'.cell? ⟨w3.heap.size, 2, none⟩ = some (.slice none 0 0))
            ((with_reducible refine HK.out _ ?_; (repeat' (first | with_reducible exact Ext.refl _ | with_reducible assumption | with_reducible apply Ext.alloc_r | with_reducible apply Ext.drew_r | with_reducible apply Ext.drewN_r | with_reducible apply Ext.set_r | with_reducible exact Nat.le_refl _ | omega | with_reducible refine Ext.trans ?_ ‹Ext _ _›))))
            (first
              | (go_at_call_of 16 (#[Value.agg #[Value.bool s2, Value.slice A2 L2 c2, Value.slice B2 M2 d2]]); have hgd := oa; clear hgd; refine (HO2.out _ (by with_reducible repeat' first | exact Ext.refl _ | assumption | apply Ext.alloc_r | apply Ext.drew_r | apply Ext.drewN_r | refine Ext.trans ?_ ‹Ext _ _›)).mono ?_; rintro e w6 ⟨gob, Aob, cob, Lob, hob, Bob, dob, Mob, rfl, ob, x6⟩; (have zs6 := x6.size); (try simp only [World.size_alloc] at zs6); (try ((with_reducible have h6_0 := box_ext (vs := #[.int .i64 0, .slice none 0 0, .int .i64 0, .slice none 0 0]) x6); have h6_0c0 := (h6_0.1 0 (.int .i64 0) rfl).1; have h6_0f0 := (h6_0.1 0 (.int .i64 0) rfl).2; have h6_0c1 := (h6_0.1 1 (.slice none 0 0) rfl).1; have h6_0f1 := (h6_0.1 1 (.slice none 0 0) rfl).2; have h6_0c2 := (h6_0.1 2 (.int .i64 0) rfl).1; have h6_0f2 := (h6_0.1 2 (.int .i64 0) rfl).2; have h6_0c3 := (h6_0.1 3 (.slice none 0 0) rfl).1; have h6_0f3 := (h6_0.1 3 (.slice none 0 0) rfl).2; have h6_0b := h6_0.2.1; have h6_0z := h6_0.2.2; (try simp only [World.size_alloc] at h6_0b h6_0z h6_0c0 h6_0f0 h6_0c1 h6_0f1 h6_0c2 h6_0f2 h6_0c3 h6_0f3); have h6_0m := Nat.ne_of_lt h6_0z; have h6_0n := Nat.ne_of_gt h6_0z; clear h6_0)); (try ((with_reducible have h6_1 := box_ext (vs := #[.int .i64 0, .slice none 0 0, .int .i64 0, .slice none 0 0]) ((Ext.alloc _ _).trans x6)); have h6_1c0 := (h6_1.1 0 (.int .i64 0) rfl).1; have h6_1f0 := (h6_1.1 0 (.int .i64 0) rfl).2; have h6_1c1 := (h6_1.1 1 (.slice none 0 0) rfl).1; have h6_1f1 := (h6_1.1 1 (.slice none 0 0) rfl).2; have h6_1c2 := (h6_1.1 2 (.int .i64 0) rfl).1; have h6_1f2 := (h6_1.1 2 (.int .i64 0) rfl).2; have h6_1c3 := (h6_1.1 3 (.slice none 0 0) rfl).1; have h6_1f3 := (h6_1.1 3 (.slice none 0 0) rfl).2; have h6_1b := h6_1.2.1; have h6_1z := h6_1.2.2; (try simp only [World.size_alloc] at h6_1b h6_1z h6_1c0 h6_1f0 h6_1c1 h6_1f1 h6_1c2 h6_1f2 h6_1c3 h6_1f3); have h6_1m := Nat.ne_of_lt h6_1z; have h6_1n := Nat.ne_of_gt h6_1z; clear h6_1)); (try (have hh : Ext w5 w6 := ?g600; (case g600 => ((with_reducible repeat' first | exact Ext.refl _ | assumption | apply Ext.alloc_r | apply Ext.drew_r | apply Ext.drewN_r | refine Ext.trans ?_ ‹Ext _ _›); done)); replace h5_0f0 := hh.frozen h5_0c0 h5_0f0; replace h5_0c0 := hh.cell h5_0c0; replace h5_0f1 := hh.frozen h5_0c1 h5_0f1; replace h5_0c1 := hh.cell h5_0c1; replace h5_0f2 := hh.frozen h5_0c2 h5_0f2; replace h5_0c2 := hh.cell h5_0c2; replace h5_0f3 := hh.frozen h5_0c3 h5_0f3; replace h5_0c3 := hh.cell h5_0c3; replace h5_0b := h5_0b.ext hh; have h5_0z2 := Nat.lt_of_lt_of_le h5_0z hh.size; have h5_0m2 := Nat.ne_of_lt h5_0z2; have h5_0n2 := Nat.ne_of_gt h5_0z2; clear hh)); (try (have hh : Ext w5 w6 := ?g601; (case g601 => ((with_reducible repeat' first | exact Ext.refl _ | assumption | apply Ext.alloc_r | apply Ext.drew_r | apply Ext.drewN_r | refine Ext.trans ?_ ‹Ext _ _›); done)); replace h5_1f0 := hh.frozen h5_1c0 h5_1f0; replace h5_1c0 := hh.cell h5_1c0; replace h5_1f1 := hh.frozen h5_1c1 h5_1f1; replace h5_1c1 := hh.cell h5_1c1; replace h5_1f2 := hh.frozen h5_1c2 h5_1f2; replace h5_1c2 := hh.cell h5_1c2; replace h5_1f3 := hh.frozen h5_1c3 h5_1f3; replace h5_1c3 := hh.cell h5_1c3; replace h5_1b := h5_1b.ext hh; have h5_1z2 := Nat.lt_of_lt_of_le h5_1z hh.size; have h5_1m2 := Nat.ne_of_lt h5_1z2; have h5_1n2 := Nat.ne_of_gt h5_1z2; clear hh)))
              | (go_at_call_of 16 (#[Value.agg #[Value.bool s1, Value.slice A1 L1 c1, Value.slice B1 M1 d1]]); refine (HO1.out _ (by with_reducible repeat' first | exact Ext.refl _ | assumption | apply Ext.alloc_r | apply Ext.drew_r | apply Ext.drewN_r | refine Ext.trans ?_ ‹Ext _ _›)).mono ?_; rintro e w5 ⟨goa, Aoa, coa, Loa, hoa, Boa, doa, Moa, rfl, oa, x5⟩; (have zs5 := x5.size); (try simp only [World.size_alloc, World.size_drew] at zs5); (try ((with_reducible have h5_0 := box_ext (vs := #[.int .i64 0, .slice none 0 0, .int .i64 0, .slice none 0 0]) ((Ext.drew _).trans x5)); have h5_0c0 := (h5_0.1 0 (.int .i64 0) rfl).1; have h5_0f0 := (h5_0.1 0 (.int .i64 0) rfl).2; have h5_0c1 := (h5_0.1 1 (.slice none 0 0) rfl).1; have h5_0f1 := (h5_0.1 1 (.slice none 0 0) rfl).2; have h5_0c2 := (h5_0.1 2 (.int .i64 0) rfl).1; have h5_0f2 := (h5_0.1 2 (.int .i64 0) rfl).2; have h5_0c3 := (h5_0.1 3 (.slice none 0 0) rfl).1; have h5_0f3 := (h5_0.1 3 (.slice none 0 0) rfl).2; have h5_0b := h5_0.2.1; have h5_0z := h5_0.2.2; (try simp only [World.size_alloc] at h5_0b h5_0z h5_0c0 h5_0f0 h5_0c1 h5_0f1 h5_0c2 h5_0f2 h5_0c3 h5_0f3); have h5_0m := Nat.ne_of_lt h5_0z; have h5_0n := Nat.ne_of_gt h5_0z; clear h5_0)); (try ((with_reducible have h5_1 := box_ext (vs := #[.int .i64 0, .slice none 0 0, .int .i64 0, .slice none 0 0]) (((Ext.alloc _ _).trans (Ext.drew _)).trans x5)); have h5_1c0 := (h5_1.1 0 (.int .i64 0) rfl).1; have h5_1f0 := (h5_1.1 0 (.int .i64 0) rfl).2; have h5_1c1 := (h5_1.1 1 (.slice none 0 0) rfl).1; have h5_1f1 := (h5_1.1 1 (.slice none 0 0) rfl).2; have h5_1c2 := (h5_1.1 2 (.int .i64 0) rfl).1; have h5_1f2 := (h5_1.1 2 (.int .i64 0) rfl).2; have h5_1c3 := (h5_1.1 3 (.slice none 0 0) rfl).1; have h5_1f3 := (h5_1.1 3 (.slice none 0 0) rfl).2; have h5_1b := h5_1.2.1; have h5_1z := h5_1.2.2; (try simp only [World.size_alloc] at h5_1b h5_1z h5_1c0 h5_1f0 h5_1c1 h5_1f1 h5_1c2 h5_1f2 h5_1c3 h5_1f3); have h5_1m := Nat.ne_of_lt h5_1z; have h5_1n := Nat.ne_of_gt h5_1z; clear h5_1))))
        | fail
        all_goals (clear HK; go_wp2_with fail; go_meet)
        all_goals
          refine ⟨?_, ?_⟩
          · refine PutQ.mk (g := goa) (A := Aoa) (c := coa) (L := Loa) (h := hoa) (B := Boa) (d := doa) (M := Moa) ?_ (oa.kept ?_) ?_
            · refine Bx.mk4 ?_ ?_ ?_ ?_
              · go_simp
              · go_simp
              · go_simp
              · go_simp
            · (repeat' (first | with_reducible exact Kept.refl _ | with_reducible apply Kept.alloc_r | with_reducible apply Kept.drew_r | (with_reducible apply Kept.setQ; (case hb => ((repeat' (first | with_reducible assumption | with_reducible apply IsBox.set_ | (with_reducible apply IsBox.new; (first | (with_reducible rfl) | simp); done) | with_reducible apply IsBox.alloc_ | with_reducible apply IsBox.drew_ | with_reducible refine IsBox.ext ?_ ‹Ext _ _›)); done))) | (with_reducible apply Kept.setR; (case hb => ((repeat' (first | with_reducible assumption | with_reducible apply IsBox.set_ | (with_reducible apply IsBox.new; (first | (with_reducible rfl) | simp); done) | with_reducible apply IsBox.alloc_ | with_reducible apply IsBox.drew_ | with_reducible refine IsBox.ext ?_ ‹Ext _ _›)); done))) | (with_reducible apply Kept.setZ; (case hb => ((repeat' (first | with_reducible assumption | with_reducible apply IsBox.set_ | (with_reducible apply IsBox.new; (first | (with_reducible rfl) | simp); done) | with_reducible apply IsBox.alloc_ | with_reducible apply IsBox.drew_ | with_reducible refine IsBox.ext ?_ ‹Ext _ _›)); done))) | (with_reducible apply Kept.setI; (case hb => ((repeat' (first | with_reducible assumption | with_reducible apply IsBox.set_ | (with_reducible apply IsBox.new; (first | (with_reducible rfl) | simp); done) | with_reducible apply IsBox.alloc_ | with_reducible apply IsBox.drew_ | with_reducible refine IsBox.ext ?_ ‹Ext _ _›)); done))) | with_reducible refine Kept.trans ?_ (Ext.kept ‹Ext _ _›)))
            · (repeat' (first | with_reducible exact Ext.refl _ | with_reducible assumption | with_reducible apply Ext.alloc_r | with_reducible apply Ext.drew_r | with_reducible apply Ext.drewN_r | with_reducible apply Ext.set_r | with_reducible exact Nat.le_refl _ | omega | with_reducible refine Ext.trans ?_ ‹Ext _ _›))
          · refine PutQ.mk (g := gob) (A := Aob) (c := cob) (L := Lob) (h := hob) (B := Bob) (d := dob) (M := Mob) ?_ (ob.kept ?_) ?_
            · refine Bx.mk4 ?_ ?_ ?_ ?_
              · go_simp
              · go_simp
              · go_simp
              · go_simp
            · (repeat' (first | with_reducible exact Kept.refl _ | with_reducible apply Kept.alloc_r | with_reducible apply Kept.drew_r | (with_reducible apply Kept.setQ; (case hb => ((repeat' (first | with_reducible assumption | with_reducible apply IsBox.set_ | (with_reducible apply IsBox.new; (first | (with_reducible rfl) | simp); done) | with_reducible apply IsBox.alloc_ | with_reducible apply IsBox.drew_ | with_reducible refine IsBox.ext ?_ ‹Ext _ _›)); done))) | (with_reducible apply Kept.setR; (case hb => ((repeat' (first | with_reducible assumption | with_reducible apply IsBox.set_ | (with_reducible apply IsBox.new; (first | (with_reducible rfl) | simp); done) | with_reducible apply IsBox.alloc_ | with_reducible apply IsBox.drew_ | with_reducible refine IsBox.ext ?_ ‹Ext _ _›)); done))) | (with_reducible apply Kept.setZ; (case hb => ((repeat' (first | with_reducible assumption | with_reducible apply IsBox.set_ | (with_reducible apply IsBox.new; (first | (with_reducible rfl) | simp); done) | with_reducible apply IsBox.alloc_ | with_reducible apply IsBox.drew_ | with_reducible refine IsBox.ext ?_ ‹Ext _ _›)); done))) | (with_reducible apply Kept.setI; (case hb => ((repeat' (first | with_reducible assumption | with_reducible apply IsBox.set_ | (with_reducible apply IsBox.new; (first | (with_reducible rfl) | simp); done) | with_reducible apply IsBox.alloc_ | with_reducible apply IsBox.drew_ | with_reducible refine IsBox.ext ?_ ‹Ext _ _›)); done))) | with_reducible refine Kept.trans ?_ (Ext.kept ‹Ext _ _›)))
            · (repeat' (first | with_reducible exact Ext.refl _ | with_reducible assumption | with_reducible apply Ext.alloc_r | with_reducible apply Ext.drew_r | with_reducible apply Ext.drewN_r | with_reducible apply Ext.set_r | with_reducible exact Nat.le_refl _ | omega | with_reducible refine Ext.trans ?_ ‹Ext _ _›))
      case rest =>
        have hcw := hcut
        obtain ⟨hc_0, hc_1⟩ := hcw
        obtain ⟨gx, Ax, cx, Lx, hx, Bx, dx, Mx, ⟨bkx, rfl, ccx⟩, x, xxx⟩ := hc_0
        obtain ⟨gy, Ay, cy, Ly, hy, By, dy, My, ⟨bky, rfl, ccy⟩, y, xxy⟩ := hc_1
        have x7 := xxx
        clear xxx
        clear xxy
        obtain ⟨wc7, rfl⟩ : ∃ z : World, z = wc := ⟨_, rfl⟩
        replace e0_0 := x7.cell e0_0
        replace e0_1 := x7.cell e0_1
        replace e0_2 := x7.cell e0_2
        replace e1_0 := x7.cell e1_0
        replace e1_1 := x7.cell e1_1
        replace e1_2 := x7.cell e1_2
        replace s_0 := x7.cell s_0
        replace s_1 := x7.cell s_1
        replace s_2 := x7.cell s_2
        have x_0 := ccx 0 (.int .i64 gx) rfl
        have x_1 := ccx 1 (.slice Ax Lx cx) rfl
        have x_2 := ccx 2 (.int .i64 hx) rfl
        have x_3 := ccx 3 (.slice Bx Mx dx) rfl
        clear ccx
        have y_0 := ccy 0 (.int .i64 gy) rfl
        have y_1 := ccy 1 (.slice Ay Ly cy) rfl
        have y_2 := ccy 2 (.int .i64 hy) rfl
        have y_3 := ccy 3 (.slice By My dy) rfl
        clear ccy
        go_wp2_with fail
        refine (qcmp_is (k := C) (x.ext (by with_reducible repeat' first | exact Ext.refl _ | assumption | apply Ext.alloc_r | apply Ext.drew_r | apply Ext.drewN_r | refine Ext.trans ?_ ‹Ext _ _›)) (y.ext (by with_reducible repeat' first | exact Ext.refl _ | assumption | apply Ext.alloc_r | apply Ext.drew_r | apply Ext.drewN_r | refine Ext.trans ?_ ‹Ext _ _›)) (by omega) (by omega) HC.out).mono ?_
        rintro e w8 ⟨rfl, x8⟩
        replace e0_0 := x8.cell e0_0
        replace e0_1 := x8.cell e0_1
        replace e0_2 := x8.cell e0_2
        replace e1_0 := x8.cell e1_0
        replace e1_1 := x8.cell e1_1
        replace e1_2 := x8.cell e1_2
        replace s_0 := x8.cell s_0
        replace s_1 := x8.cell s_1
        replace s_2 := x8.cell s_2
        replace x_0 := x8.cell x_0
        replace x_1 := x8.cell x_1
        replace x_2 := x8.cell x_2
        replace x_3 := x8.cell x_3
        replace y_0 := x8.cell y_0
        replace y_1 := x8.cell y_1
        replace y_2 := x8.cell y_2
        replace y_3 := x8.cell y_3
        go_wp2_with fail
        refine (rsign_is (k := 0) (rv_zero _) rfl).mono ?_
        rintro e w9 ⟨rfl, x9⟩
        replace e0_0 := x9.cell e0_0
        replace e0_1 := x9.cell e0_1
        replace e0_2 := x9.cell e0_2
        replace e1_0 := x9.cell e1_0
        replace e1_1 := x9.cell e1_1
        replace e1_2 := x9.cell e1_2
        replace s_0 := x9.cell s_0
        replace s_1 := x9.cell s_1
        replace s_2 := x9.cell s_2
        replace x_0 := x9.cell x_0
        replace x_1 := x9.cell x_1
        replace x_2 := x9.cell x_2
        replace x_3 := x9.cell x_3
        replace y_0 := x9.cell y_0
        replace y_1 := x9.cell y_1
        replace y_2 := x9.cell y_2
        replace y_3 := x9.cell y_3
        go_wp2_with fail
        go_ret
        exact ⟨rfl, (by with_reducible repeat' first | exact Ext.refl _ | assumption | apply Ext.alloc_r | apply Ext.drew_r | apply Ext.drewN_r | refine Ext.trans ?_ ‹Ext _ _›)⟩
  · have HF : Hid (((decide (L1 ≤ 1) && (decide (M1 ≤ 1) && decide (L2 ≤ 1))) && (decide (M2 ≤ 1) && (decide (L1 ≤ 1) && decide (M1 ≤ 1)))) = false) := by show _ = _; rw [Bool.eq_false_iff]; simp only [ne_eq, decide_eq_true_eq, Bool.and_eq_true]; omega
    clear hf
    go_enter Try.func9, Try.ntmps9
    go_wp2_with fail
    obtain ⟨w0, hw0⟩ : ∃ z : World, z = ((w.alloc (.cells #[.bool s1, .slice A1 L1 c1, .slice B1 M1 d1] 27)).alloc (.cells #[.bool s2, .slice A2 L2 c2, .slice B2 M2 d2] 27)) := ⟨_, rfl⟩
    rw [← hw0]
    have b0 := box_at w #[.bool s1, .slice A1 L1 c1, .slice B1 M1 d1] 27
    have b1 := box_at (w.alloc (.cells #[.bool s1, .slice A1 L1 c1, .slice B1 M1 d1] 27)) #[.bool s2, .slice A2 L2 c2, .slice B2 M2 d2] 27
    have hsz : w0.heap.size = w.heap.size + 1 + 1 := by rw [hw0]; simp
    rw [← hw0] at b1
    have y1 : Ext (w.alloc (.cells #[.bool s1, .slice A1 L1 c1, .slice B1 M1 d1] 27)) w0 := by rw [hw0]; exact Ext.alloc _ _
    have y0 : Ext w w0 := (Ext.alloc _ _).trans y1
    have x0 : Ext w w0 := y0
    have e0_0 := y1.cell (b0.1 0 (.bool s1) rfl)
    have e0_1 := y1.cell (b0.1 1 (.slice A1 L1 c1) rfl)
    have e0_2 := y1.cell (b0.1 2 (.slice B1 M1 d1) rfl)
    have e1_0 := b1.1 0 (.bool s2) rfl
    have e1_1 := b1.1 1 (.slice A2 L2 c2) rfl
    have e1_2 := b1.1 2 (.slice B2 M2 d2) rfl
    simp only [World.size_alloc] at e1_0 e1_1 e1_2
    clear hw0 b0 b1 y0 y1
    go_wp2_with fail
    refine (awake5 _).mono ?_
    rintro e w1 ⟨rfl, x1⟩
    replace e0_0 := x1.cell e0_0
    replace e0_1 := x1.cell e0_1
    replace e0_2 := x1.cell e0_2
    replace e1_0 := x1.cell e1_0
    replace e1_1 := x1.cell e1_1
    replace e1_2 := x1.cell e1_2
    go_wp2_with fail
    refine (few5 (n := 1) (by omega) (by omega) (by omega) (by omega) (by omega) (by omega)).mono ?_
    rintro e w2 ⟨rfl, x2⟩
    replace e0_0 := x2.cell e0_0
    replace e0_1 := x2.cell e0_1
    replace e0_2 := x2.cell e0_2
    replace e1_0 := x2.cell e1_0
    replace e1_1 := x2.cell e1_1
    replace e1_2 := x2.cell e1_2
    rw [HF.out]
    clear hsz
    go_wp2_with fail
    refine (awake5 _).mono ?_
    rintro e w3 ⟨rfl, x3⟩
    replace e0_0 := x3.cell e0_0
    replace e0_1 := x3.cell e0_1
    replace e0_2 := x3.cell e0_2
    replace e1_0 := x3.cell e1_0
    replace e1_1 := x3.cell e1_1
    replace e1_2 := x3.cell e1_2
    go_wp2_with fail
    go_ret
    exact ⟨rfl, (by with_reducible repeat' first | exact Ext.refl _ | assumption | apply Ext.alloc_r | apply Ext.drew_r | apply Ext.drewN_r | refine Ext.trans ?_ ‹Ext _ _›)⟩
end Go.Proofs.Ytfnmbhjifdfibaa
