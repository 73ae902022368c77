/- The walk of RationalNarrows. -/
import Derived.Test.YtfnmbhjifdfibaaLaw5
import Derived.Test.YtfnmbhjifdfibaaRefY
import Derived.Test.YtfnmbhjifdfibaaSimpZ
namespace Go.Proofs.Ytfnmbhjifdfibaa
open Go.RowKit
theorem cmpQ_nle (a b : Rat) : cmpQ a b ≤ 0 ↔ ¬ b < a := by
  unfold cmpQ
  by_cases h : a < b
  · rw [if_pos h]
    exact ⟨fun _ h2 => Rat.lt_irrefl (ratLtTrans h h2), fun _ => by omega⟩
  · rw [if_neg h]
    by_cases h2 : b < a
    · rw [if_pos h2]; exact ⟨fun h3 => by omega, fun h3 => absurd h2 h3⟩
    · rw [if_neg h2]; exact ⟨fun _ => h2, fun _ => by omega⟩
theorem cmpQ_nlt (a b : Rat) : 0 ≤ cmpQ a b ↔ ¬ a < b := by
  unfold cmpQ
  by_cases h : a < b
  · rw [if_pos h]; exact ⟨fun h3 => by omega, fun h3 => absurd h h3⟩
  · rw [if_neg h]
    refine ⟨fun _ => h, fun _ => ?_⟩
    split <;> omega
set_option maxHeartbeats 40000000 in
set_option maxRecDepth 100000 in
theorem rationalNarrows_walk {w : World} {s1 : Bool} {A1 B1 : Option Addr} {c1 L1 d1 M1 : Nat} {x1 : Int} {y1 : Nat} {s2 : Bool} {A2 B2 : Option Addr} {c2 L2 d2 M2 : Nat} {x2 : Int} {y2 : Nat} {s3 : Bool} {A3 B3 : Option Addr} {c3 L3 d3 M3 : Nat} {x3 : Int} {y3 : Nat} (h1 : RW w s1 A1 c1 L1 B1 d1 M1 x1 y1) (h2 : RW w s2 A2 c2 L2 B2 d2 M2 x2 y2) (h3 : RW w s3 A3 c3 L3 B3 d3 M3 x3 y3) :
    Calls Try.prog 10 #[Value.agg #[Value.bool s1, Value.slice A1 L1 c1, Value.slice B1 M1 d1], Value.agg #[Value.bool s2, Value.slice A2 L2 c2, Value.slice B2 M2 d2], Value.agg #[Value.bool s3, Value.slice A3 L3 c3, Value.slice B3 M3 d3]] w fun e w' => e = .returned (.bool true) ∧ Ext w w' := by
  have pa1 := h1.num.nv.cap
  have pb1 := h1.den.cap
  have qa1 := h1.num.nv.le
  have qb1 := h1.den.le
  have pa2 := h2.num.nv.cap
  have pb2 := h2.den.cap
  have qa2 := h2.num.nv.le
  have qb2 := h2.den.le
  have pa3 := h3.num.nv.cap
  have pb3 := h3.den.cap
  have qa3 := h3.num.nv.le
  have qb3 := h3.den.le
  by_cases hf : L1 ≤ 3 ∧ M1 ≤ 3 ∧ L2 ≤ 3 ∧ M2 ≤ 3 ∧ L3 ≤ 3 ∧ M3 ≤ 3
  · have e1 := h1.rv (N := 3) (by omega) (by omega) (by omega)
    have e2 := h2.rv (N := 3) (by omega) (by omega) (by omega)
    have e3 := h3.rv (N := 3) (by omega) (by omega) (by omega)
    have HF : Hid (((decide (L1 ≤ 3) && (decide (M1 ≤ 3) && decide (L2 ≤ 3))) && (decide (M2 ≤ 3) && (decide (L3 ≤ 3) && decide (M3 ≤ 3)))) = true) := by show _ = _; simp only [decide_eq_true_eq, Bool.and_eq_true]; omega
    generalize mkRat x1 y1 = q1 at *
    generalize mkRat x2 y2 = q2 at *
    generalize mkRat x3 y3 = q3 at *
    clear hf h1 h2 h3
    go_enter Try.func10, Try.ntmps10
    go_wp2_with fail
    obtain ⟨w0, hw0⟩ : ∃ z : World, z = (((w.alloc (.cells #[.bool s1, .slice A1 L1 c1, .slice B1 M1 d1] 27)).alloc (.cells #[.bool s2, .slice A2 L2 c2, .slice B2 M2 d2] 27)).alloc (.cells #[.bool s3, .slice A3 L3 c3, .slice B3 M3 d3] 27)) := ⟨_, rfl⟩
    rw [← hw0]
    have b0 := box_at w #[.bool s1, .slice A1 L1 c1, .slice B1 M1 d1] 27
    have b1 := box_at (w.alloc (.cells #[.bool s1, .slice A1 L1 c1, .slice B1 M1 d1] 27)) #[.bool s2, .slice A2 L2 c2, .slice B2 M2 d2] 27
    have b2 := box_at ((w.alloc (.cells #[.bool s1, .slice A1 L1 c1, .slice B1 M1 d1] 27)).alloc (.cells #[.bool s2, .slice A2 L2 c2, .slice B2 M2 d2] 27)) #[.bool s3, .slice A3 L3 c3, .slice B3 M3 d3] 27
    have hsz : w0.heap.size = w.heap.size + 1 + 1 + 1 := by rw [hw0]; simp
    rw [← hw0] at b2
    have y2 : Ext ((w.alloc (.cells #[.bool s1, .slice A1 L1 c1, .slice B1 M1 d1] 27)).alloc (.cells #[.bool s2, .slice A2 L2 c2, .slice B2 M2 d2] 27)) w0 := by rw [hw0]; exact Ext.alloc _ _
    have y1 : Ext (w.alloc (.cells #[.bool s1, .slice A1 L1 c1, .slice B1 M1 d1] 27)) w0 := (Ext.alloc _ _).trans y2
    have y0 : Ext w w0 := (Ext.alloc _ _).trans y1
    have x0 : Ext w w0 := y0
    have e0_0 := y1.cell (b0.1 0 (.bool s1) rfl)
    have e0_1 := y1.cell (b0.1 1 (.slice A1 L1 c1) rfl)
    have e0_2 := y1.cell (b0.1 2 (.slice B1 M1 d1) rfl)
    have e1_0 := y2.cell (b1.1 0 (.bool s2) rfl)
    have e1_1 := y2.cell (b1.1 1 (.slice A2 L2 c2) rfl)
    have e1_2 := y2.cell (b1.1 2 (.slice B2 M2 d2) rfl)
    have e2_0 := b2.1 0 (.bool s3) rfl
    have e2_1 := b2.1 1 (.slice A3 L3 c3) rfl
    have e2_2 := b2.1 2 (.slice B3 M3 d3) rfl
    simp only [World.size_alloc] at e1_0 e1_1 e1_2 e2_0 e2_1 e2_2
    clear hw0 b0 b1 b2 y0 y1 y2
    go_wp2_with fail
    refine (awake5 _).mono ?_
    rintro e w1 ⟨rfl, x1⟩
    replace e0_0 := x1.cell e0_0
    replace e0_1 := x1.cell e0_1
    replace e0_2 := x1.cell e0_2
    replace e1_0 := x1.cell e1_0
    replace e1_1 := x1.cell e1_1
    replace e1_2 := x1.cell e1_2
    replace e2_0 := x1.cell e2_0
    replace e2_1 := x1.cell e2_1
    replace e2_2 := x1.cell e2_2
    go_wp2_with fail
    refine (few5 (n := 3) (by omega) (by omega) (by omega) (by omega) (by omega) (by omega)).mono ?_
    rintro e w2 ⟨rfl, x2⟩
    replace e0_0 := x2.cell e0_0
    replace e0_1 := x2.cell e0_1
    replace e0_2 := x2.cell e0_2
    replace e1_0 := x2.cell e1_0
    replace e1_1 := x2.cell e1_1
    replace e1_2 := x2.cell e1_2
    replace e2_0 := x2.cell e2_0
    replace e2_1 := x2.cell e2_1
    replace e2_2 := x2.cell e2_2
    rw [HF.out]
    clear hsz
    obtain ⟨C, hC⟩ : ∃ K : Int, K = cmpQ q1 q2 := ⟨_, rfl⟩
    by_cases hab : q1 < q2
    · have hcn : ¬ 0 ≤ C := by rw [hC]; unfold cmpQ; rw [if_pos hab]; omega
      have HC := Lib.hid hC.symm
      clear hC
      obtain ⟨q, hq⟩ := isSimp_ex hab
      have HQ := Lib.hid hq
      have HAB := Lib.hid hab
      obtain ⟨D, hD⟩ : ∃ K : Int, K = cmpQ q3 q1 := ⟨_, rfl⟩
      obtain ⟨G, hG⟩ : ∃ K : Int, K = cmpQ q3 q := ⟨_, rfl⟩
      have gD : D ≤ 0 ↔ ¬ q1 < q3 := by rw [hD, cmpQ_nle]
      have gG : 0 ≤ G ↔ ¬ q3 < q := by rw [hG, cmpQ_nlt]
      have HD := Lib.hid hD.symm
      have HG := Lib.hid hG.symm
      clear hD hG hq hab
      have HGD := Lib.hid (And.intro gD gG)
      clear gD gG
      go_wp2_with fail
      refine (rcmp_is (k := C) (e1.ext (by repeat' (first | with_reducible exact Ext.refl _ | with_reducible assumption | with_reducible apply Ext.alloc_r | with_reducible apply Ext.drew_r | with_reducible apply Ext.drewN_r | with_reducible refine Ext.trans ?_ ‹Ext _ _›))) (e2.ext (by repeat' (first | with_reducible exact Ext.refl _ | with_reducible assumption | with_reducible apply Ext.alloc_r | with_reducible apply Ext.drew_r | with_reducible apply Ext.drewN_r | with_reducible refine Ext.trans ?_ ‹Ext _ _›))) (by omega) (by omega) HC.out).mono ?_
      rintro e w3 ⟨rfl, x3⟩
      replace e0_0 := x3.cell e0_0
      replace e0_1 := x3.cell e0_1
      replace e0_2 := x3.cell e0_2
      replace e1_0 := x3.cell e1_0
      replace e1_1 := x3.cell e1_1
      replace e1_2 := x3.cell e1_2
      replace e2_0 := x3.cell e2_0
      replace e2_1 := x3.cell e2_1
      replace e2_2 := x3.cell e2_2
      go_wp2_with fail
      refine (rsimp_r (e1.ext (by repeat' (first | with_reducible exact Ext.refl _ | with_reducible assumption | with_reducible apply Ext.alloc_r | with_reducible apply Ext.drew_r | with_reducible apply Ext.drewN_r | with_reducible refine Ext.trans ?_ ‹Ext _ _›))) (e2.ext (by repeat' (first | with_reducible exact Ext.refl _ | with_reducible assumption | with_reducible apply Ext.alloc_r | with_reducible apply Ext.drew_r | with_reducible apply Ext.drewN_r | with_reducible refine Ext.trans ?_ ‹Ext _ _›))) (by omega) HAB.out HQ.out).mono ?_
      rintro e w4 ⟨ss, As, cs, Ls, Bs, ds, Ms, rfl, s, x4⟩
      replace e0_0 := x4.cell e0_0
      replace e0_1 := x4.cell e0_1
      replace e0_2 := x4.cell e0_2
      replace e1_0 := x4.cell e1_0
      replace e1_1 := x4.cell e1_1
      replace e1_2 := x4.cell e1_2
      replace e2_0 := x4.cell e2_0
      replace e2_1 := x4.cell e2_1
      replace e2_2 := x4.cell e2_2
      have te0_0 := fun o => (Ext.alloc w4 o).cell e0_0
      have te0_1 := fun o => (Ext.alloc w4 o).cell e0_1
      have te0_2 := fun o => (Ext.alloc w4 o).cell e0_2
      have te1_0 := fun o => (Ext.alloc w4 o).cell e1_0
      have te1_1 := fun o => (Ext.alloc w4 o).cell e1_1
      have te1_2 := fun o => (Ext.alloc w4 o).cell e1_2
      have te2_0 := fun o => (Ext.alloc w4 o).cell e2_0
      have te2_1 := fun o => (Ext.alloc w4 o).cell e2_1
      have te2_2 := fun o => (Ext.alloc w4 o).cell e2_2
      go_wp2_with fail
      clear te0_0 te0_1 te0_2 te1_0 te1_1 te1_2 te2_0 te2_1 te2_2
      obtain ⟨w5, hw⟩ : ∃ z : World, z = (w4.alloc (.cells #[.bool ss, .slice As Ls cs, .slice Bs Ms ds] 27)) := ⟨_, rfl⟩
      rw [← hw]
      have x5 : Ext w4 w5 := by rw [hw]; exact Ext.alloc _ _
      have bb := box_at w4 #[.bool ss, .slice As Ls cs, .slice Bs Ms ds] 27
      rw [← hw] at bb
      replace e0_0 := x5.cell e0_0
      replace e0_1 := x5.cell e0_1
      replace e0_2 := x5.cell e0_2
      replace e1_0 := x5.cell e1_0
      replace e1_1 := x5.cell e1_1
      replace e1_2 := x5.cell e1_2
      replace e2_0 := x5.cell e2_0
      replace e2_1 := x5.cell e2_1
      replace e2_2 := x5.cell e2_2
      have s_0 := bb.1 0 (.bool ss) rfl
      have s_1 := bb.1 1 (.slice As Ls cs) rfl
      have s_2 := bb.1 2 (.slice Bs Ms ds) rfl
      clear hw bb
      go_wp2_with fail
      go_cut [9, 10] (fun s9 s10 wx => PutR w5 wx 4 (-q) s9 ∧ s10 = Value.int .i64 0)
      case first =>
        have HK : Hid (∀ w', Ext w5 w' → Ext w5 w' ∧ w'.cell? ⟨w.heap.size, 0, none⟩ = some (.bool s1) ∧ w'.cell? ⟨w.heap.size, 1, none⟩ = some (.slice A1 L1 c1) ∧ w'.cell? ⟨w.heap.size, 2, none⟩ = some (.slice B1 M1 d1) ∧ w'.cell? ⟨w.heap.size + 1, 0, none⟩ = some (.bool s2) ∧ w'.cell? ⟨w.heap.size + 1, 1, none⟩ = some (.slice A2 L2 c2) ∧ w'.cell? ⟨w.heap.size + 1, 2, none⟩ = some (.slice B2 M2 d2) ∧ w'.cell? ⟨w.heap.size + 1 + 1, 0, none⟩ = some (.bool s3) ∧ w'.cell? ⟨w.heap.size + 1 + 1, 1, none⟩ = some (.slice A3 L3 c3) ∧ w'.cell? ⟨w.heap.size + 1 + 1, 2, none⟩ = some (.slice B3 M3 d3) ∧ w'.cell? ⟨w4.heap.size, 0, none⟩ = some (.bool ss) ∧ w'.cell? ⟨w4.heap.size, 1, none⟩ = some (.slice As Ls cs) ∧ w'.cell? ⟨w4.heap.size, 2, none⟩ = some (.slice Bs Ms ds)) := fun w' hk => ⟨hk, hk.cell e0_0, hk.cell e0_1, hk.cell e0_2, hk.cell e1_0, hk.cell e1_1, hk.cell e1_2, hk.cell e2_0, hk.cell e2_1, hk.cell e2_2, hk.cell s_0, hk.cell s_1, hk.cell s_2⟩
        first
        | go_region_held3 (fun w' => Ext w5 w' ∧ w'.cell? ⟨w.heap.size, 0, none⟩ = some (.bool s1) ∧ w'.cell? ⟨w.heap.size, 1, none⟩ = some (.slice A1 L1 c1) ∧ w'.cell? ⟨w.heap.size, 2, none⟩ = some (.slice B1 M1 d1) ∧ w'.cell? ⟨w.heap.size + 1, 0, none⟩ = some (.bool s2) ∧ w'.cell? ⟨w.heap.size + 1, 1, none⟩ = some (.slice A2 L2 c2) ∧ w'.cell? ⟨w.heap.size + 1, 2, none⟩ = some (.slice B2 M2 d2) ∧ w'.cell? ⟨w.heap.size + 1 + 1, 0, none⟩ = some (.bool s3) ∧ w'.cell? ⟨w.heap.size + 1 + 1, 1, none⟩ = some (.slice A3 L3 c3) ∧ w'.cell? ⟨w.heap.size + 1 + 1, 2, none⟩ = some (.slice B3 M3 d3) ∧ w'.cell? ⟨w4.heap.size, 0, none⟩ = some (.bool ss) ∧ w'.cell? ⟨w4.heap.size, 1, none⟩ = some (.slice As Ls cs) ∧ w'.cell? ⟨w4.heap.size, 2, none⟩ = some (.slice Bs Ms ds))
            ((with_reducible refine HK.out _ ?_; (repeat' (first | with_reducible exact Ext.refl _ | with_reducible assumption | with_reducible apply Ext.alloc_r | with_reducible apply Ext.drew_r | with_reducible apply Ext.drewN_r | with_reducible apply Ext.set_r | with_reducible exact Nat.le_refl _ | omega | with_reducible refine Ext.trans ?_ ‹Ext _ _›))))
            (first
              | (go_at_call 51; have hgd := na; clear hgd; refine (rsimp_r (nb.rv.ext (by repeat' (first | with_reducible exact Ext.refl _ | with_reducible assumption | with_reducible apply Ext.alloc_r | with_reducible apply Ext.drew_r | with_reducible apply Ext.drewN_r | with_reducible refine Ext.trans ?_ ‹Ext _ _›))) (na.rv.ext (by repeat' (first | with_reducible exact Ext.refl _ | with_reducible assumption | with_reducible apply Ext.alloc_r | with_reducible apply Ext.drew_r | with_reducible apply Ext.drewN_r | with_reducible refine Ext.trans ?_ ‹Ext _ _›))) (by omega) (Rat.neg_lt_neg HAB.out) HQ.out.neg).mono ?_; rintro e w8 ⟨st, At, ct, Lt, Bt, dt, Mt, rfl, t, x8⟩; (have zs8 := x8.size); (try simp only [World.size_alloc] at zs8); (try ((with_reducible have h8_0 := box_ext (vs := #[.bool false, .slice none 0 0, .slice none 0 0]) x8); have h8_0c0 := (h8_0.1 0 (.bool false) rfl).1; have h8_0f0 := (h8_0.1 0 (.bool false) rfl).2; have h8_0c1 := (h8_0.1 1 (.slice none 0 0) rfl).1; have h8_0f1 := (h8_0.1 1 (.slice none 0 0) rfl).2; have h8_0c2 := (h8_0.1 2 (.slice none 0 0) rfl).1; have h8_0f2 := (h8_0.1 2 (.slice none 0 0) rfl).2; have h8_0b := h8_0.2.1; have h8_0z := h8_0.2.2; (try simp only [World.size_alloc] at h8_0b h8_0z h8_0c0 h8_0f0 h8_0c1 h8_0f1 h8_0c2 h8_0f2); have h8_0m := Nat.ne_of_lt h8_0z; have h8_0n := Nat.ne_of_gt h8_0z; clear h8_0)); (try (have hh : Ext w6 w8 := ?g800; (case g800 => ((repeat' (first | with_reducible exact Ext.refl _ | with_reducible assumption | with_reducible apply Ext.alloc_r | with_reducible apply Ext.drew_r | with_reducible apply Ext.drewN_r | with_reducible refine Ext.trans ?_ ‹Ext _ _›)); done)); replace h6_0f0 := hh.frozen h6_0c0 h6_0f0; replace h6_0c0 := hh.cell h6_0c0; replace h6_0f1 := hh.frozen h6_0c1 h6_0f1; replace h6_0c1 := hh.cell h6_0c1; replace h6_0f2 := hh.frozen h6_0c2 h6_0f2; replace h6_0c2 := hh.cell h6_0c2; replace h6_0b := h6_0b.ext hh; have h6_0z2 := Nat.lt_of_lt_of_le h6_0z hh.size; have h6_0m2 := Nat.ne_of_lt h6_0z2; have h6_0n2 := Nat.ne_of_gt h6_0z2; clear hh)); (try (have hh : Ext w7 w8 := ?g810; (case g810 => ((repeat' (first | with_reducible exact Ext.refl _ | with_reducible assumption | with_reducible apply Ext.alloc_r | with_reducible apply Ext.drew_r | with_reducible apply Ext.drewN_r | with_reducible refine Ext.trans ?_ ‹Ext _ _›)); done)); replace h7_0f0 := hh.frozen h7_0c0 h7_0f0; replace h7_0c0 := hh.cell h7_0c0; replace h7_0f1 := hh.frozen h7_0c1 h7_0f1; replace h7_0c1 := hh.cell h7_0c1; replace h7_0f2 := hh.frozen h7_0c2 h7_0f2; replace h7_0c2 := hh.cell h7_0c2; replace h7_0b := h7_0b.ext hh; have h7_0z2 := Nat.lt_of_lt_of_le h7_0z hh.size; have h7_0m2 := Nat.ne_of_lt h7_0z2; have h7_0n2 := Nat.ne_of_gt h7_0z2; clear hh)))
              | (go_at_call_of 45 (#[Value.agg #[Value.bool s1, Value.slice A1 L1 c1, Value.slice B1 M1 d1]]); have hgd := nb; clear hgd; refine (rneg_r (e1.ext (by repeat' (first | with_reducible exact Ext.refl _ | with_reducible assumption | with_reducible apply Ext.alloc_r | with_reducible apply Ext.drew_r | with_reducible apply Ext.drewN_r | with_reducible refine Ext.trans ?_ ‹Ext _ _›))) (by omega)).mono ?_; rintro e w7 ⟨sna, Ana, cna, Lna, Bna, dna, Mna, rfl, na, x7⟩; (have zs7 := x7.size); (try simp only [World.size_alloc] at zs7); (try ((with_reducible have h7_0 := box_ext (vs := #[.bool false, .slice none 0 0, .slice none 0 0]) x7); have h7_0c0 := (h7_0.1 0 (.bool false) rfl).1; have h7_0f0 := (h7_0.1 0 (.bool false) rfl).2; have h7_0c1 := (h7_0.1 1 (.slice none 0 0) rfl).1; have h7_0f1 := (h7_0.1 1 (.slice none 0 0) rfl).2; have h7_0c2 := (h7_0.1 2 (.slice none 0 0) rfl).1; have h7_0f2 := (h7_0.1 2 (.slice none 0 0) rfl).2; have h7_0b := h7_0.2.1; have h7_0z := h7_0.2.2; (try simp only [World.size_alloc] at h7_0b h7_0z h7_0c0 h7_0f0 h7_0c1 h7_0f1 h7_0c2 h7_0f2); have h7_0m := Nat.ne_of_lt h7_0z; have h7_0n := Nat.ne_of_gt h7_0z; clear h7_0)))
              | (go_at_call_of 45 (#[Value.agg #[Value.bool s2, Value.slice A2 L2 c2, Value.slice B2 M2 d2]]); refine (rneg_r (e2.ext (by repeat' (first | with_reducible exact Ext.refl _ | with_reducible assumption | with_reducible apply Ext.alloc_r | with_reducible apply Ext.drew_r | with_reducible apply Ext.drewN_r | with_reducible refine Ext.trans ?_ ‹Ext _ _›))) (by omega)).mono ?_; rintro e w6 ⟨snb, Anb, cnb, Lnb, Bnb, dnb, Mnb, rfl, nb, x6⟩; (have zs6 := x6.size); (try simp only [World.size_alloc, World.size_drew] at zs6); (try ((with_reducible have h6_0 := box_ext (vs := #[.bool false, .slice none 0 0, .slice none 0 0]) ((Ext.drew _).trans x6)); have h6_0c0 := (h6_0.1 0 (.bool false) rfl).1; have h6_0f0 := (h6_0.1 0 (.bool false) rfl).2; have h6_0c1 := (h6_0.1 1 (.slice none 0 0) rfl).1; have h6_0f1 := (h6_0.1 1 (.slice none 0 0) rfl).2; have h6_0c2 := (h6_0.1 2 (.slice none 0 0) rfl).1; have h6_0f2 := (h6_0.1 2 (.slice none 0 0) rfl).2; have h6_0b := h6_0.2.1; have h6_0z := h6_0.2.2; (try simp only [World.size_alloc] at h6_0b h6_0z h6_0c0 h6_0f0 h6_0c1 h6_0f1 h6_0c2 h6_0f2); have h6_0m := Nat.ne_of_lt h6_0z; have h6_0n := Nat.ne_of_gt h6_0z; clear h6_0))))
        | fail
        all_goals (clear HK; go_wp2_with fail; go_meet)
        all_goals
          refine ⟨?_, rfl⟩
          refine PutR.mk (sb := st) (A := At) (c := ct) (L := Lt) (B := Bt) (d := dt) (M := Mt) ?_ ((t.mono (Nat.zero_le _)).kept ?_) ?_
          · refine Bx.mk3 ?_ ?_ ?_
            · go_simp
            · go_simp
            · go_simp
          · (repeat' (first | with_reducible exact Kept.refl _ | with_reducible apply Kept.alloc_r | with_reducible apply Kept.drew_r | (with_reducible apply Kept.setR; (case hb => ((repeat' (first | with_reducible assumption | with_reducible apply IsBox.set_ | (with_reducible apply IsBox.new; (first | (with_reducible rfl) | simp); done) | with_reducible apply IsBox.alloc_ | with_reducible apply IsBox.drew_ | with_reducible refine IsBox.ext ?_ ‹Ext _ _›)); done))) | (with_reducible apply Kept.setZ; (case hb => ((repeat' (first | with_reducible assumption | with_reducible apply IsBox.set_ | (with_reducible apply IsBox.new; (first | (with_reducible rfl) | simp); done) | with_reducible apply IsBox.alloc_ | with_reducible apply IsBox.drew_ | with_reducible refine IsBox.ext ?_ ‹Ext _ _›)); done))) | (with_reducible apply Kept.setI; (case hb => ((repeat' (first | with_reducible assumption | with_reducible apply IsBox.set_ | (with_reducible apply IsBox.new; (first | (with_reducible rfl) | simp); done) | with_reducible apply IsBox.alloc_ | with_reducible apply IsBox.drew_ | with_reducible refine IsBox.ext ?_ ‹Ext _ _›)); done))) | with_reducible refine Kept.trans ?_ (Ext.kept ‹Ext _ _›)))
          · (repeat' (first | with_reducible exact Ext.refl _ | with_reducible assumption | with_reducible apply Ext.alloc_r | with_reducible apply Ext.drew_r | with_reducible apply Ext.drewN_r | with_reducible apply Ext.set_r | with_reducible exact Nat.le_refl _ | omega | with_reducible refine Ext.trans ?_ ‹Ext _ _›))
      case rest =>
        have hcw := hcut.1
        have hc_0 := hcw
        obtain ⟨st, At, ct, Lt, Bt, dt, Mt, ⟨bkt, rfl, cct⟩, t, xxt⟩ := hc_0
        have x9 := xxt
        clear xxt
        obtain ⟨wc9, rfl⟩ : ∃ z : World, z = wc := ⟨_, rfl⟩
        replace e0_0 := x9.cell e0_0
        replace e0_1 := x9.cell e0_1
        replace e0_2 := x9.cell e0_2
        replace e1_0 := x9.cell e1_0
        replace e1_1 := x9.cell e1_1
        replace e1_2 := x9.cell e1_2
        replace e2_0 := x9.cell e2_0
        replace e2_1 := x9.cell e2_1
        replace e2_2 := x9.cell e2_2
        replace s_0 := x9.cell s_0
        replace s_1 := x9.cell s_1
        replace s_2 := x9.cell s_2
        have t_0 := cct 0 (.bool st) rfl
        have t_1 := cct 1 (.slice At Lt ct) rfl
        have t_2 := cct 2 (.slice Bt Mt dt) rfl
        clear cct
        obtain rfl := hcut.2
        go_wp2_with fail
        have HK : Hid (∀ w', Ext wc9 w' → Ext wc9 w' ∧ w'.cell? ⟨w.heap.size, 0, none⟩ = some (.bool s1) ∧ w'.cell? ⟨w.heap.size, 1, none⟩ = some (.slice A1 L1 c1) ∧ w'.cell? ⟨w.heap.size, 2, none⟩ = some (.slice B1 M1 d1) ∧ w'.cell? ⟨w.heap.size + 1, 0, none⟩ = some (.bool s2) ∧ w'.cell? ⟨w.heap.size + 1, 1, none⟩ = some (.slice A2 L2 c2) ∧ w'.cell? ⟨w.heap.size + 1, 2, none⟩ = some (.slice B2 M2 d2) ∧ w'.cell? ⟨w.heap.size + 1 + 1, 0, none⟩ = some (.bool s3) ∧ w'.cell? ⟨w.heap.size + 1 + 1, 1, none⟩ = some (.slice A3 L3 c3) ∧ w'.cell? ⟨w.heap.size + 1 + 1, 2, none⟩ = some (.slice B3 M3 d3) ∧ w'.cell? ⟨w4.heap.size, 0, none⟩ = some (.bool ss) ∧ w'.cell? ⟨w4.heap.size, 1, none⟩ = some (.slice As Ls cs) ∧ w'.cell? ⟨w4.heap.size, 2, none⟩ = some (.slice Bs Ms ds) ∧ w'.cell? ⟨bkt, 0, none⟩ = some (.bool st) ∧ w'.cell? ⟨bkt, 1, none⟩ = some (.slice At Lt ct) ∧ w'.cell? ⟨bkt, 2, none⟩ = some (.slice Bt Mt dt)) := fun w' hk => ⟨hk, hk.cell e0_0, hk.cell e0_1, hk.cell e0_2, hk.cell e1_0, hk.cell e1_1, hk.cell e1_2, hk.cell e2_0, hk.cell e2_1, hk.cell e2_2, hk.cell s_0, hk.cell s_1, hk.cell s_2, hk.cell t_0, hk.cell t_1, hk.cell t_2⟩
        first
        | go_region_held3 (fun w' => Ext wc9 w' ∧ w'.cell? ⟨w.heap.size, 0, none⟩ = some (.bool s1) ∧ w'.cell? ⟨w.heap.size, 1, none⟩ = some (.slice A1 L1 c1) ∧ w'.cell? ⟨w.heap.size, 2, none⟩ = some (.slice B1 M1 d1) ∧ w'.cell? ⟨w.heap.size + 1, 0, none⟩ = some (.bool s2) ∧ w'.cell? ⟨w.heap.size + 1, 1, none⟩ = some (.slice A2 L2 c2) ∧ w'.cell? ⟨w.heap.size + 1, 2, none⟩ = some (.slice B2 M2 d2) ∧ w'.cell? ⟨w.heap.size + 1 + 1, 0, none⟩ = some (.bool s3) ∧ w'.cell? ⟨w.heap.size + 1 + 1, 1, none⟩ = some (.slice A3 L3 c3) ∧ w'.cell? ⟨w.heap.size + 1 + 1, 2, none⟩ = some (.slice B3 M3 d3) ∧ w'.cell? ⟨w4.heap.size, 0, none⟩ = some (.bool ss) ∧ w'.cell? ⟨w4.heap.size, 1, none⟩ = some (.slice As Ls cs) ∧ w'.cell? ⟨w4.heap.size, 2, none⟩ = some (.slice Bs Ms ds) ∧ w'.cell? ⟨bkt, 0, none⟩ = some (.bool st) ∧ w'.cell? ⟨bkt, 1, none⟩ = some (.slice At Lt ct) ∧ w'.cell? ⟨bkt, 2, none⟩ = some (.slice Bt Mt dt))
            ((with_reducible refine HK.out _ ?_; (repeat' (first | with_reducible exact Ext.refl _ | with_reducible assumption | with_reducible apply Ext.alloc_r | with_reducible apply Ext.drew_r | with_reducible apply Ext.drewN_r | with_reducible refine Ext.trans ?_ ‹Ext _ _›))))
            (first
              | (go_at_call_of 42 (#[Value.agg #[Value.bool st, Value.slice At Lt ct, Value.slice Bt Mt dt], Value.agg #[Value.bool sns, Value.slice Ans Lns cns, Value.slice Bns Mns dns]]); have hgd := ns; clear hgd; refine (same_is (t.rv.ext (by repeat' (first | with_reducible exact Ext.refl _ | with_reducible assumption | with_reducible apply Ext.alloc_r | with_reducible apply Ext.drew_r | with_reducible apply Ext.drewN_r | with_reducible refine Ext.trans ?_ ‹Ext _ _›))) (ns.rv.ext (by repeat' (first | with_reducible exact Ext.refl _ | with_reducible assumption | with_reducible apply Ext.alloc_r | with_reducible apply Ext.drew_r | with_reducible apply Ext.drewN_r | with_reducible refine Ext.trans ?_ ‹Ext _ _›))) (by omega) (by omega) (rfl)).mono ?_; rintro e w11 ⟨rfl, x11⟩)
              | (go_at_call_of 45 (#[Value.agg #[Value.bool ss, Value.slice As Ls cs, Value.slice Bs Ms ds]]); refine (rneg_r (s.rv.ext (by repeat' (first | with_reducible exact Ext.refl _ | with_reducible assumption | with_reducible apply Ext.alloc_r | with_reducible apply Ext.drew_r | with_reducible apply Ext.drewN_r | with_reducible refine Ext.trans ?_ ‹Ext _ _›))) (by omega)).mono ?_; rintro e w10 ⟨sns, Ans, cns, Lns, Bns, dns, Mns, rfl, ns, x10⟩))
        | fail
        clear HK
        have xh : Ext wc9 w11 := (by repeat' (first | with_reducible exact Ext.refl _ | with_reducible assumption | with_reducible apply Ext.alloc_r | with_reducible apply Ext.drew_r | with_reducible apply Ext.drewN_r | with_reducible refine Ext.trans ?_ ‹Ext _ _›))
        replace e0_0 := xh.cell e0_0
        replace e0_1 := xh.cell e0_1
        replace e0_2 := xh.cell e0_2
        replace e1_0 := xh.cell e1_0
        replace e1_1 := xh.cell e1_1
        replace e1_2 := xh.cell e1_2
        replace e2_0 := xh.cell e2_0
        replace e2_1 := xh.cell e2_1
        replace e2_2 := xh.cell e2_2
        replace s_0 := xh.cell s_0
        replace s_1 := xh.cell s_1
        replace s_2 := xh.cell s_2
        replace t_0 := xh.cell t_0
        replace t_1 := xh.cell t_1
        replace t_2 := xh.cell t_2
        clear xh
        obtain ⟨gD, gG⟩ := HGD.out
        clear HGD
        by_cases hd : D ≤ 0
        · clear gD gG HG
          go_wp2_with fail
          refine (rcmp_is (k := D) (e3.ext (by repeat' (first | with_reducible exact Ext.refl _ | with_reducible assumption | with_reducible apply Ext.alloc_r | with_reducible apply Ext.drew_r | with_reducible apply Ext.drewN_r | with_reducible refine Ext.trans ?_ ‹Ext _ _›))) (e1.ext (by repeat' (first | with_reducible exact Ext.refl _ | with_reducible assumption | with_reducible apply Ext.alloc_r | with_reducible apply Ext.drew_r | with_reducible apply Ext.drewN_r | with_reducible refine Ext.trans ?_ ‹Ext _ _›))) (by omega) (by omega) HD.out).mono ?_
          rintro e w12 ⟨rfl, x12⟩
          replace e0_0 := x12.cell e0_0
          replace e0_1 := x12.cell e0_1
          replace e0_2 := x12.cell e0_2
          replace e1_0 := x12.cell e1_0
          replace e1_1 := x12.cell e1_1
          replace e1_2 := x12.cell e1_2
          replace e2_0 := x12.cell e2_0
          replace e2_1 := x12.cell e2_1
          replace e2_2 := x12.cell e2_2
          replace s_0 := x12.cell s_0
          replace s_1 := x12.cell s_1
          replace s_2 := x12.cell s_2
          replace t_0 := x12.cell t_0
          replace t_1 := x12.cell t_1
          replace t_2 := x12.cell t_2
          go_wp2_with fail
          go_ret
          exact ⟨rfl, (by repeat' (first | with_reducible exact Ext.refl _ | with_reducible assumption | with_reducible apply Ext.alloc_r | with_reducible apply Ext.drew_r | with_reducible apply Ext.drewN_r | with_reducible refine Ext.trans ?_ ‹Ext _ _›))⟩
        · by_cases hg : 0 ≤ G
          · clear gD gG
            go_wp2_with fail
            refine (rcmp_is (k := D) (e3.ext (by repeat' (first | with_reducible exact Ext.refl _ | with_reducible assumption | with_reducible apply Ext.alloc_r | with_reducible apply Ext.drew_r | with_reducible apply Ext.drewN_r | with_reducible refine Ext.trans ?_ ‹Ext _ _›))) (e1.ext (by repeat' (first | with_reducible exact Ext.refl _ | with_reducible assumption | with_reducible apply Ext.alloc_r | with_reducible apply Ext.drew_r | with_reducible apply Ext.drewN_r | with_reducible refine Ext.trans ?_ ‹Ext _ _›))) (by omega) (by omega) HD.out).mono ?_
            rintro e w12 ⟨rfl, x12⟩
            replace e0_0 := x12.cell e0_0
            replace e0_1 := x12.cell e0_1
            replace e0_2 := x12.cell e0_2
            replace e1_0 := x12.cell e1_0
            replace e1_1 := x12.cell e1_1
            replace e1_2 := x12.cell e1_2
            replace e2_0 := x12.cell e2_0
            replace e2_1 := x12.cell e2_1
            replace e2_2 := x12.cell e2_2
            replace s_0 := x12.cell s_0
            replace s_1 := x12.cell s_1
            replace s_2 := x12.cell s_2
            replace t_0 := x12.cell t_0
            replace t_1 := x12.cell t_1
            replace t_2 := x12.cell t_2
            go_wp2_with fail
            refine (rcmp_is (k := G) (e3.ext (by repeat' (first | with_reducible exact Ext.refl _ | with_reducible assumption | with_reducible apply Ext.alloc_r | with_reducible apply Ext.drew_r | with_reducible apply Ext.drewN_r | with_reducible refine Ext.trans ?_ ‹Ext _ _›))) (s.rv.ext (by repeat' (first | with_reducible exact Ext.refl _ | with_reducible assumption | with_reducible apply Ext.alloc_r | with_reducible apply Ext.drew_r | with_reducible apply Ext.drewN_r | with_reducible refine Ext.trans ?_ ‹Ext _ _›))) (by omega) (by omega) HG.out).mono ?_
            rintro e w13 ⟨rfl, x13⟩
            replace e0_0 := x13.cell e0_0
            replace e0_1 := x13.cell e0_1
            replace e0_2 := x13.cell e0_2
            replace e1_0 := x13.cell e1_0
            replace e1_1 := x13.cell e1_1
            replace e1_2 := x13.cell e1_2
            replace e2_0 := x13.cell e2_0
            replace e2_1 := x13.cell e2_1
            replace e2_2 := x13.cell e2_2
            replace s_0 := x13.cell s_0
            replace s_1 := x13.cell s_1
            replace s_2 := x13.cell s_2
            replace t_0 := x13.cell t_0
            replace t_1 := x13.cell t_1
            replace t_2 := x13.cell t_2
            go_wp2_with fail
            go_ret
            exact ⟨rfl, (by repeat' (first | with_reducible exact Ext.refl _ | with_reducible assumption | with_reducible apply Ext.alloc_r | with_reducible apply Ext.drew_r | with_reducible apply Ext.drewN_r | with_reducible refine Ext.trans ?_ ‹Ext _ _›))⟩
          · have hac : q1 < q3 := Decidable.not_not.1 fun h => hd (gD.2 h)
            have hcs : q3 < q := Decidable.not_not.1 fun h => hg (gG.2 h)
            have HN := Lib.hid (HQ.out.narrow (Rat.le_of_lt hac) hcs)
            have HCB := Lib.hid (ratLtTrans hcs HQ.out.hi)
            clear gD gG hac hcs
            go_wp2_with fail
            refine (rcmp_is (k := D) (e3.ext (by repeat' (first | with_reducible exact Ext.refl _ | with_reducible assumption | with_reducible apply Ext.alloc_r | with_reducible apply Ext.drew_r | with_reducible apply Ext.drewN_r | with_reducible refine Ext.trans ?_ ‹Ext _ _›))) (e1.ext (by repeat' (first | with_reducible exact Ext.refl _ | with_reducible assumption | with_reducible apply Ext.alloc_r | with_reducible apply Ext.drew_r | with_reducible apply Ext.drewN_r | with_reducible refine Ext.trans ?_ ‹Ext _ _›))) (by omega) (by omega) HD.out).mono ?_
            rintro e w12 ⟨rfl, x12⟩
            replace e0_0 := x12.cell e0_0
            replace e0_1 := x12.cell e0_1
            replace e0_2 := x12.cell e0_2
            replace e1_0 := x12.cell e1_0
            replace e1_1 := x12.cell e1_1
            replace e1_2 := x12.cell e1_2
            replace e2_0 := x12.cell e2_0
            replace e2_1 := x12.cell e2_1
            replace e2_2 := x12.cell e2_2
            replace s_0 := x12.cell s_0
            replace s_1 := x12.cell s_1
            replace s_2 := x12.cell s_2
            replace t_0 := x12.cell t_0
            replace t_1 := x12.cell t_1
            replace t_2 := x12.cell t_2
            go_wp2_with fail
            refine (rcmp_is (k := G) (e3.ext (by repeat' (first | with_reducible exact Ext.refl _ | with_reducible assumption | with_reducible apply Ext.alloc_r | with_reducible apply Ext.drew_r | with_reducible apply Ext.drewN_r | with_reducible refine Ext.trans ?_ ‹Ext _ _›))) (s.rv.ext (by repeat' (first | with_reducible exact Ext.refl _ | with_reducible assumption | with_reducible apply Ext.alloc_r | with_reducible apply Ext.drew_r | with_reducible apply Ext.drewN_r | with_reducible refine Ext.trans ?_ ‹Ext _ _›))) (by omega) (by omega) HG.out).mono ?_
            rintro e w13 ⟨rfl, x13⟩
            replace e0_0 := x13.cell e0_0
            replace e0_1 := x13.cell e0_1
            replace e0_2 := x13.cell e0_2
            replace e1_0 := x13.cell e1_0
            replace e1_1 := x13.cell e1_1
            replace e1_2 := x13.cell e1_2
            replace e2_0 := x13.cell e2_0
            replace e2_1 := x13.cell e2_1
            replace e2_2 := x13.cell e2_2
            replace s_0 := x13.cell s_0
            replace s_1 := x13.cell s_1
            replace s_2 := x13.cell s_2
            replace t_0 := x13.cell t_0
            replace t_1 := x13.cell t_1
            replace t_2 := x13.cell t_2
            go_wp2_with fail
            refine (rsimp_r (e3.ext (by repeat' (first | with_reducible exact Ext.refl _ | with_reducible assumption | with_reducible apply Ext.alloc_r | with_reducible apply Ext.drew_r | with_reducible apply Ext.drewN_r | with_reducible refine Ext.trans ?_ ‹Ext _ _›))) (e2.ext (by repeat' (first | with_reducible exact Ext.refl _ | with_reducible assumption | with_reducible apply Ext.alloc_r | with_reducible apply Ext.drew_r | with_reducible apply Ext.drewN_r | with_reducible refine Ext.trans ?_ ‹Ext _ _›))) (by omega) HCB.out HN.out).mono ?_
            rintro e w14 ⟨su, Au, cu, Lu, Bu, du, Mu, rfl, u, x14⟩
            replace e0_0 := x14.cell e0_0
            replace e0_1 := x14.cell e0_1
            replace e0_2 := x14.cell e0_2
            replace e1_0 := x14.cell e1_0
            replace e1_1 := x14.cell e1_1
            replace e1_2 := x14.cell e1_2
            replace e2_0 := x14.cell e2_0
            replace e2_1 := x14.cell e2_1
            replace e2_2 := x14.cell e2_2
            replace s_0 := x14.cell s_0
            replace s_1 := x14.cell s_1
            replace s_2 := x14.cell s_2
            replace t_0 := x14.cell t_0
            replace t_1 := x14.cell t_1
            replace t_2 := x14.cell t_2
            have te0_0 := fun o => (Ext.alloc w14 o).cell e0_0
            have te0_1 := fun o => (Ext.alloc w14 o).cell e0_1
            have te0_2 := fun o => (Ext.alloc w14 o).cell e0_2
            have te1_0 := fun o => (Ext.alloc w14 o).cell e1_0
            have te1_1 := fun o => (Ext.alloc w14 o).cell e1_1
            have te1_2 := fun o => (Ext.alloc w14 o).cell e1_2
            have te2_0 := fun o => (Ext.alloc w14 o).cell e2_0
            have te2_1 := fun o => (Ext.alloc w14 o).cell e2_1
            have te2_2 := fun o => (Ext.alloc w14 o).cell e2_2
            have ts_0 := fun o => (Ext.alloc w14 o).cell s_0
            have ts_1 := fun o => (Ext.alloc w14 o).cell s_1
            have ts_2 := fun o => (Ext.alloc w14 o).cell s_2
            have tt_0 := fun o => (Ext.alloc w14 o).cell t_0
            have tt_1 := fun o => (Ext.alloc w14 o).cell t_1
            have tt_2 := fun o => (Ext.alloc w14 o).cell t_2
            go_wp2_with fail
            clear te0_0 te0_1 te0_2 te1_0 te1_1 te1_2 te2_0 te2_1 te2_2 ts_0 ts_1 ts_2 tt_0 tt_1 tt_2
            obtain ⟨w15, hw⟩ : ∃ z : World, z = (w14.alloc (.cells #[.bool su, .slice Au Lu cu, .slice Bu Mu du] 27)) := ⟨_, rfl⟩
            rw [← hw]
            have x15 : Ext w14 w15 := by rw [hw]; exact Ext.alloc _ _
            have bb := box_at w14 #[.bool su, .slice Au Lu cu, .slice Bu Mu du] 27
            rw [← hw] at bb
            replace e0_0 := x15.cell e0_0
            replace e0_1 := x15.cell e0_1
            replace e0_2 := x15.cell e0_2
            replace e1_0 := x15.cell e1_0
            replace e1_1 := x15.cell e1_1
            replace e1_2 := x15.cell e1_2
            replace e2_0 := x15.cell e2_0
            replace e2_1 := x15.cell e2_1
            replace e2_2 := x15.cell e2_2
            replace s_0 := x15.cell s_0
            replace s_1 := x15.cell s_1
            replace s_2 := x15.cell s_2
            replace t_0 := x15.cell t_0
            replace t_1 := x15.cell t_1
            replace t_2 := x15.cell t_2
            have u_0 := bb.1 0 (.bool su) rfl
            have u_1 := bb.1 1 (.slice Au Lu cu) rfl
            have u_2 := bb.1 2 (.slice Bu Mu du) rfl
            clear hw bb
            go_wp2_with fail
            refine (same_is (u.rv.ext (by repeat' (first | with_reducible exact Ext.refl _ | with_reducible assumption | with_reducible apply Ext.alloc_r | with_reducible apply Ext.drew_r | with_reducible apply Ext.drewN_r | with_reducible refine Ext.trans ?_ ‹Ext _ _›))) (s.rv.ext (by repeat' (first | with_reducible exact Ext.refl _ | with_reducible assumption | with_reducible apply Ext.alloc_r | with_reducible apply Ext.drew_r | with_reducible apply Ext.drewN_r | with_reducible refine Ext.trans ?_ ‹Ext _ _›))) (by omega) (by omega) rfl).mono ?_
            rintro e w16 ⟨rfl, x16⟩
            replace e0_0 := x16.cell e0_0
            replace e0_1 := x16.cell e0_1
            replace e0_2 := x16.cell e0_2
            replace e1_0 := x16.cell e1_0
            replace e1_1 := x16.cell e1_1
            replace e1_2 := x16.cell e1_2
            replace e2_0 := x16.cell e2_0
            replace e2_1 := x16.cell e2_1
            replace e2_2 := x16.cell e2_2
            replace s_0 := x16.cell s_0
            replace s_1 := x16.cell s_1
            replace s_2 := x16.cell s_2
            replace t_0 := x16.cell t_0
            replace t_1 := x16.cell t_1
            replace t_2 := x16.cell t_2
            replace u_0 := x16.cell u_0
            replace u_1 := x16.cell u_1
            replace u_2 := x16.cell u_2
            go_wp2_with fail
            go_ret
            exact ⟨rfl, (by repeat' (first | with_reducible exact Ext.refl _ | with_reducible assumption | with_reducible apply Ext.alloc_r | with_reducible apply Ext.drew_r | with_reducible apply Ext.drewN_r | with_reducible refine Ext.trans ?_ ‹Ext _ _›))⟩
    · have hcn : 0 ≤ C := by rw [hC]; unfold cmpQ; rw [if_neg hab]; split <;> omega
      have HC := Lib.hid hC.symm
      clear hC hab
      go_wp2_with fail
      refine (rcmp_is (k := C) (e1.ext (by repeat' (first | with_reducible exact Ext.refl _ | with_reducible assumption | with_reducible apply Ext.alloc_r | with_reducible apply Ext.drew_r | with_reducible apply Ext.drewN_r | with_reducible refine Ext.trans ?_ ‹Ext _ _›))) (e2.ext (by repeat' (first | with_reducible exact Ext.refl _ | with_reducible assumption | with_reducible apply Ext.alloc_r | with_reducible apply Ext.drew_r | with_reducible apply Ext.drewN_r | with_reducible refine Ext.trans ?_ ‹Ext _ _›))) (by omega) (by omega) HC.out).mono ?_
      rintro e w3 ⟨rfl, x3⟩
      replace e0_0 := x3.cell e0_0
      replace e0_1 := x3.cell e0_1
      replace e0_2 := x3.cell e0_2
      replace e1_0 := x3.cell e1_0
      replace e1_1 := x3.cell e1_1
      replace e1_2 := x3.cell e1_2
      replace e2_0 := x3.cell e2_0
      replace e2_1 := x3.cell e2_1
      replace e2_2 := x3.cell e2_2
      go_wp2_with fail
      refine (awake5 _).mono ?_
      rintro e w4 ⟨rfl, x4⟩
      replace e0_0 := x4.cell e0_0
      replace e0_1 := x4.cell e0_1
      replace e0_2 := x4.cell e0_2
      replace e1_0 := x4.cell e1_0
      replace e1_1 := x4.cell e1_1
      replace e1_2 := x4.cell e1_2
      replace e2_0 := x4.cell e2_0
      replace e2_1 := x4.cell e2_1
      replace e2_2 := x4.cell e2_2
      go_wp2_with fail
      go_ret
      exact ⟨rfl, (by repeat' (first | with_reducible exact Ext.refl _ | with_reducible assumption | with_reducible apply Ext.alloc_r | with_reducible apply Ext.drew_r | with_reducible apply Ext.drewN_r | with_reducible refine Ext.trans ?_ ‹Ext _ _›))⟩
  · have HF : Hid (((decide (L1 ≤ 3) && (decide (M1 ≤ 3) && decide (L2 ≤ 3))) && (decide (M2 ≤ 3) && (decide (L3 ≤ 3) && decide (M3 ≤ 3)))) = false) := by show _ = _; rw [Bool.eq_false_iff]; simp only [ne_eq, decide_eq_true_eq, Bool.and_eq_true]; omega
    clear hf
    go_enter Try.func10, Try.ntmps10
    go_wp2_with fail
    obtain ⟨w0, hw0⟩ : ∃ z : World, z = (((w.alloc (.cells #[.bool s1, .slice A1 L1 c1, .slice B1 M1 d1] 27)).alloc (.cells #[.bool s2, .slice A2 L2 c2, .slice B2 M2 d2] 27)).alloc (.cells #[.bool s3, .slice A3 L3 c3, .slice B3 M3 d3] 27)) := ⟨_, rfl⟩
    rw [← hw0]
    have b0 := box_at w #[.bool s1, .slice A1 L1 c1, .slice B1 M1 d1] 27
    have b1 := box_at (w.alloc (.cells #[.bool s1, .slice A1 L1 c1, .slice B1 M1 d1] 27)) #[.bool s2, .slice A2 L2 c2, .slice B2 M2 d2] 27
    have b2 := box_at ((w.alloc (.cells #[.bool s1, .slice A1 L1 c1, .slice B1 M1 d1] 27)).alloc (.cells #[.bool s2, .slice A2 L2 c2, .slice B2 M2 d2] 27)) #[.bool s3, .slice A3 L3 c3, .slice B3 M3 d3] 27
    have hsz : w0.heap.size = w.heap.size + 1 + 1 + 1 := by rw [hw0]; simp
    rw [← hw0] at b2
    have y2 : Ext ((w.alloc (.cells #[.bool s1, .slice A1 L1 c1, .slice B1 M1 d1] 27)).alloc (.cells #[.bool s2, .slice A2 L2 c2, .slice B2 M2 d2] 27)) w0 := by rw [hw0]; exact Ext.alloc _ _
    have y1 : Ext (w.alloc (.cells #[.bool s1, .slice A1 L1 c1, .slice B1 M1 d1] 27)) w0 := (Ext.alloc _ _).trans y2
    have y0 : Ext w w0 := (Ext.alloc _ _).trans y1
    have x0 : Ext w w0 := y0
    have e0_0 := y1.cell (b0.1 0 (.bool s1) rfl)
    have e0_1 := y1.cell (b0.1 1 (.slice A1 L1 c1) rfl)
    have e0_2 := y1.cell (b0.1 2 (.slice B1 M1 d1) rfl)
    have e1_0 := y2.cell (b1.1 0 (.bool s2) rfl)
    have e1_1 := y2.cell (b1.1 1 (.slice A2 L2 c2) rfl)
    have e1_2 := y2.cell (b1.1 2 (.slice B2 M2 d2) rfl)
    have e2_0 := b2.1 0 (.bool s3) rfl
    have e2_1 := b2.1 1 (.slice A3 L3 c3) rfl
    have e2_2 := b2.1 2 (.slice B3 M3 d3) rfl
    simp only [World.size_alloc] at e1_0 e1_1 e1_2 e2_0 e2_1 e2_2
    clear hw0 b0 b1 b2 y0 y1 y2
    go_wp2_with fail
    refine (awake5 _).mono ?_
    rintro e w1 ⟨rfl, x1⟩
    replace e0_0 := x1.cell e0_0
    replace e0_1 := x1.cell e0_1
    replace e0_2 := x1.cell e0_2
    replace e1_0 := x1.cell e1_0
    replace e1_1 := x1.cell e1_1
    replace e1_2 := x1.cell e1_2
    replace e2_0 := x1.cell e2_0
    replace e2_1 := x1.cell e2_1
    replace e2_2 := x1.cell e2_2
    go_wp2_with fail
    refine (few5 (n := 3) (by omega) (by omega) (by omega) (by omega) (by omega) (by omega)).mono ?_
    rintro e w2 ⟨rfl, x2⟩
    replace e0_0 := x2.cell e0_0
    replace e0_1 := x2.cell e0_1
    replace e0_2 := x2.cell e0_2
    replace e1_0 := x2.cell e1_0
    replace e1_1 := x2.cell e1_1
    replace e1_2 := x2.cell e1_2
    replace e2_0 := x2.cell e2_0
    replace e2_1 := x2.cell e2_1
    replace e2_2 := x2.cell e2_2
    rw [HF.out]
    clear hsz
    go_wp2_with fail
    refine (awake5 _).mono ?_
    rintro e w3 ⟨rfl, x3⟩
    replace e0_0 := x3.cell e0_0
    replace e0_1 := x3.cell e0_1
    replace e0_2 := x3.cell e0_2
    replace e1_0 := x3.cell e1_0
    replace e1_1 := x3.cell e1_1
    replace e1_2 := x3.cell e1_2
    replace e2_0 := x3.cell e2_0
    replace e2_1 := x3.cell e2_1
    replace e2_2 := x3.cell e2_2
    go_wp2_with fail
    go_ret
    exact ⟨rfl, (by repeat' (first | with_reducible exact Ext.refl _ | with_reducible assumption | with_reducible apply Ext.alloc_r | with_reducible apply Ext.drew_r | with_reducible apply Ext.drewN_r | with_reducible refine Ext.trans ?_ ‹Ext _ _›))⟩
end Go.Proofs.Ytfnmbhjifdfibaa
