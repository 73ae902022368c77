/- The walk of RationalField. -/
import Derived.Test.YtfnmbhjifdfibaaLaw5
import Derived.Test.YtfnmbhjifdfibaaKept
namespace Go.Proofs.Ytfnmbhjifdfibaa
open Go.RowKit
set_option maxHeartbeats 40000000 in
set_option maxRecDepth 100000 in
theorem rationalField_walk {w : World} {s1 : Bool} {A1 B1 : Option Addr} {c1 L1 d1 M1 : Nat} {x1 : Int} {y1 : Nat} {s2 : Bool} {A2 B2 : Option Addr} {c2 L2 d2 M2 : Nat} {x2 : Int} {y2 : Nat} {s3 : Bool} {A3 B3 : Option Addr} {c3 L3 d3 M3 : Nat} {x3 : Int} {y3 : Nat} (h1 : RW w s1 A1 c1 L1 B1 d1 M1 x1 y1) (h2 : RW w s2 A2 c2 L2 B2 d2 M2 x2 y2) (h3 : RW w s3 A3 c3 L3 B3 d3 M3 x3 y3) :
    Calls Try.prog 6 #[Value.agg #[Value.bool s1, Value.slice A1 L1 c1, Value.slice B1 M1 d1], Value.agg #[Value.bool s2, Value.slice A2 L2 c2, Value.slice B2 M2 d2], Value.agg #[Value.bool s3, Value.slice A3 L3 c3, Value.slice B3 M3 d3]] w fun e w' => e = .returned (.bool true) ∧ Ext w w' := by
  have pa1 := h1.num.nv.cap
  have pb1 := h1.den.cap
  have qa1 := h1.num.nv.le
  have qb1 := h1.den.le
  have pa2 := h2.num.nv.cap
  have pb2 := h2.den.cap
  have qa2 := h2.num.nv.le
  have qb2 := h2.den.le
  have pa3 := h3.num.nv.cap
  have pb3 := h3.den.cap
  have qa3 := h3.num.nv.le
  have qb3 := h3.den.le
  by_cases hf : L1 ≤ 3 ∧ M1 ≤ 3 ∧ L2 ≤ 3 ∧ M2 ≤ 3 ∧ L3 ≤ 3 ∧ M3 ≤ 3
  · have e1 := h1.rv (N := 3) (by omega) (by omega) (by omega)
    have e2 := h2.rv (N := 3) (by omega) (by omega) (by omega)
    have e3 := h3.rv (N := 3) (by omega) (by omega) (by omega)
    have HF : Hid (((decide (L1 ≤ 3) && (decide (M1 ≤ 3) && decide (L2 ≤ 3))) && (decide (M2 ≤ 3) && (decide (L3 ≤ 3) && decide (M3 ≤ 3)))) = true) := by show _ = _; simp only [decide_eq_true_eq, Bool.and_eq_true]; omega
    generalize mkRat x1 y1 = q1 at *
    generalize mkRat x2 y2 = q2 at *
    generalize mkRat x3 y3 = q3 at *
    clear hf h1 h2 h3
    go_enter Try.func6, Try.ntmps6
    go_wp2_with fail
    obtain ⟨w0, hw0⟩ : ∃ z : World, z = (((w.alloc (.cells #[.bool s1, .slice A1 L1 c1, .slice B1 M1 d1] 27)).alloc (.cells #[.bool s2, .slice A2 L2 c2, .slice B2 M2 d2] 27)).alloc (.cells #[.bool s3, .slice A3 L3 c3, .slice B3 M3 d3] 27)) := ⟨_, rfl⟩
    rw [← hw0]
    have b0 := box_at w #[.bool s1, .slice A1 L1 c1, .slice B1 M1 d1] 27
    have b1 := box_at (w.alloc (.cells #[.bool s1, .slice A1 L1 c1, .slice B1 M1 d1] 27)) #[.bool s2, .slice A2 L2 c2, .slice B2 M2 d2] 27
    have b2 := box_at ((w.alloc (.cells #[.bool s1, .slice A1 L1 c1, .slice B1 M1 d1] 27)).alloc (.cells #[.bool s2, .slice A2 L2 c2, .slice B2 M2 d2] 27)) #[.bool s3, .slice A3 L3 c3, .slice B3 M3 d3] 27
    have hsz : w0.heap.size = w.heap.size + 1 + 1 + 1 := by rw [hw0]; simp
    rw [← hw0] at b2
    have y2 : Ext ((w.alloc (.cells #[.bool s1, .slice A1 L1 c1, .slice B1 M1 d1] 27)).alloc (.cells #[.bool s2, .slice A2 L2 c2, .slice B2 M2 d2] 27)) w0 := by rw [hw0]; exact Ext.alloc _ _
    have y1 : Ext (w.alloc (.cells #[.bool s1, .slice A1 L1 c1, .slice B1 M1 d1] 27)) w0 := (Ext.alloc _ _).trans y2
    have y0 : Ext w w0 := (Ext.alloc _ _).trans y1
    have x0 : Ext w w0 := y0
    have e0_0 := y1.cell (b0.1 0 (.bool s1) rfl)
    have e0_1 := y1.cell (b0.1 1 (.slice A1 L1 c1) rfl)
    have e0_2 := y1.cell (b0.1 2 (.slice B1 M1 d1) rfl)
    have e1_0 := y2.cell (b1.1 0 (.bool s2) rfl)
    have e1_1 := y2.cell (b1.1 1 (.slice A2 L2 c2) rfl)
    have e1_2 := y2.cell (b1.1 2 (.slice B2 M2 d2) rfl)
    have e2_0 := b2.1 0 (.bool s3) rfl
    have e2_1 := b2.1 1 (.slice A3 L3 c3) rfl
    have e2_2 := b2.1 2 (.slice B3 M3 d3) rfl
    simp only [World.size_alloc] at e1_0 e1_1 e1_2 e2_0 e2_1 e2_2
    clear hw0 b0 b1 b2 y0 y1 y2
    go_wp2_with fail
    refine (awake5 _).mono ?_
    rintro e w1 ⟨rfl, x1⟩
    replace e0_0 := x1.cell e0_0
    replace e0_1 := x1.cell e0_1
    replace e0_2 := x1.cell e0_2
    replace e1_0 := x1.cell e1_0
    replace e1_1 := x1.cell e1_1
    replace e1_2 := x1.cell e1_2
    replace e2_0 := x1.cell e2_0
    replace e2_1 := x1.cell e2_1
    replace e2_2 := x1.cell e2_2
    go_wp2_with fail
    refine (few5 (n := 3) (by omega) (by omega) (by omega) (by omega) (by omega) (by omega)).mono ?_
    rintro e w2 ⟨rfl, x2⟩
    replace e0_0 := x2.cell e0_0
    replace e0_1 := x2.cell e0_1
    replace e0_2 := x2.cell e0_2
    replace e1_0 := x2.cell e1_0
    replace e1_1 := x2.cell e1_1
    replace e1_2 := x2.cell e1_2
    replace e2_0 := x2.cell e2_0
    replace e2_1 := x2.cell e2_1
    replace e2_2 := x2.cell e2_2
    rw [HF.out]
    clear hsz
    obtain ⟨K, hK⟩ : ∃ K : Int, K = cmpQ q1 q2 := ⟨_, rfl⟩
    obtain ⟨T, hT⟩ : ∃ T : Int, T = q3.num.sign := ⟨_, rfl⟩
    obtain ⟨P, hP⟩ : ∃ P : Int, K * T = P := ⟨_, rfl⟩
    obtain ⟨U, hU⟩ : ∃ U : Int, U = q2.num.sign := ⟨_, rfl⟩
    have hPb : -1 ≤ K * T ∧ K * T ≤ 1 := by rw [hK, hT, ← cmpQ_mul]; exact cmpQ_bd _ _
    have hw : IntKind.i64.wrap (K * T) = P := by rw [← hP]; exact IntWalk.i64_in _ (by omega)
    have HA : Hid (cmpQ (q1 + q3) (q2 + q3) = K) := by show _ = _; rw [hK]; exact cmpQ_add _ _ _
    have HM : Hid (cmpQ (q1 * q3) (q2 * q3) = P) := by show _ = _; rw [← hP, hK, hT]; exact cmpQ_mul _ _ _
    have HS : Hid ((q1 - q2).num.sign = K) := by show _ = _; rw [hK]; exact sgnQ_sub _ _
    have HK := Lib.hid hK
    have HT := Lib.hid hT
    have HU := Lib.hid hU
    have hz : q2 = 0 ↔ U = 0 := by rw [hU]; exact num_sign0 q2
    clear hK hT hP hPb hU
    go_wp2_with fail
    go_cut [7] (fun s7 wx => PutR w2 wx 10 (q1 * (q2 + q3)) s7)
    case first =>
      have HK : Hid (∀ w', Ext w2 w' → Ext w2 w' ∧ w'.cell? ⟨w.heap.size, 0, none⟩ = some (.bool s1) ∧ w'.cell? ⟨w.heap.size, 1, none⟩ = some (.slice A1 L1 c1) ∧ w'.cell? ⟨w.heap.size, 2, none⟩ = some (.slice B1 M1 d1) ∧ w'.cell? ⟨w.heap.size + 1, 0, none⟩ = some (.bool s2) ∧ w'.cell? ⟨w.heap.size + 1, 1, none⟩ = some (.slice A2 L2 c2) ∧ w'.cell? ⟨w.heap.size + 1, 2, none⟩ = some (.slice B2 M2 d2) ∧ w'.cell? ⟨w.heap.size + 1 + 1, 0, none⟩ = some (.bool s3) ∧ w'.cell? ⟨w.heap.size + 1 + 1, 1, none⟩ = some (.slice A3 L3 c3) ∧ w'.cell? ⟨w.heap.size + 1 + 1, 2, none⟩ = some (.slice B3 M3 d3)) := fun w' hk => ⟨hk, hk.cell e0_0, hk.cell e0_1, hk.cell e0_2, hk.cell e1_0, hk.cell e1_1, hk.cell e1_2, hk.cell e2_0, hk.cell e2_1, hk.cell e2_2⟩
      first
      | go_region_held3 (fun w' => Ext w2 w' ∧ w'.cell? ⟨w.heap.size, 0, none⟩ = some (.bool s1) ∧ w'.cell? ⟨w.heap.size, 1, none⟩ = some (.slice A1 L1 c1) ∧ w'.cell? ⟨w.heap.size, 2, none⟩ = some (.slice B1 M1 d1) ∧ w'.cell? ⟨w.heap.size + 1, 0, none⟩ = some (.bool s2) ∧ w'.cell? ⟨w.heap.size + 1, 1, none⟩ = some (.slice A2 L2 c2) ∧ w'.cell? ⟨w.heap.size + 1, 2, none⟩ = some (.slice B2 M2 d2) ∧ w'.cell? ⟨w.heap.size + 1 + 1, 0, none⟩ = some (.bool s3) ∧ w'.cell? ⟨w.heap.size + 1 + 1, 1, none⟩ = some (.slice A3 L3 c3) ∧ w'.cell? ⟨w.heap.size + 1 + 1, 2, none⟩ = some (.slice B3 M3 d3))
          ((with_reducible refine HK.out _ ?_; (repeat' (first | with_reducible exact Ext.refl _ | with_reducible assumption | with_reducible apply Ext.alloc_r | with_reducible apply Ext.drew_r | with_reducible apply Ext.drewN_r | with_reducible apply Ext.set_r | with_reducible exact Nat.le_refl _ | omega | with_reducible refine Ext.trans ?_ ‹Ext _ _›))))
          (first
            | (go_at_call_of 40 (#[Value.agg #[Value.bool s1, Value.slice A1 L1 c1, Value.slice B1 M1 d1], Value.agg #[Value.bool sla, Value.slice Ala Lla cla, Value.slice Bla Mla dla]]); have hgd := la; clear hgd; refine (rmul_r (e1.ext (by repeat' (first | with_reducible exact Ext.refl _ | with_reducible assumption | with_reducible apply Ext.alloc_r | with_reducible apply Ext.drew_r | with_reducible apply Ext.drewN_r | with_reducible refine Ext.trans ?_ ‹Ext _ _›))) (la.rv.ext (by repeat' (first | with_reducible exact Ext.refl _ | with_reducible assumption | with_reducible apply Ext.alloc_r | with_reducible apply Ext.drew_r | with_reducible apply Ext.drewN_r | with_reducible refine Ext.trans ?_ ‹Ext _ _›))) (by omega) (by omega)).mono ?_; rintro e w4 ⟨slb, Alb, clb, Llb, Blb, dlb, Mlb, rfl, lb, x4⟩; (have zs4 := x4.size); (try simp only [World.size_alloc] at zs4); (try ((with_reducible have h4_0 := box_ext (vs := #[.bool false, .slice none 0 0, .slice none 0 0]) x4); have h4_0c0 := (h4_0.1 0 (.bool false) rfl).1; have h4_0f0 := (h4_0.1 0 (.bool false) rfl).2; have h4_0c1 := (h4_0.1 1 (.slice none 0 0) rfl).1; have h4_0f1 := (h4_0.1 1 (.slice none 0 0) rfl).2; have h4_0c2 := (h4_0.1 2 (.slice none 0 0) rfl).1; have h4_0f2 := (h4_0.1 2 (.slice none 0 0) rfl).2; have h4_0b := h4_0.2.1; have h4_0z := h4_0.2.2; (try simp only [World.size_alloc] at h4_0b h4_0z h4_0c0 h4_0f0 h4_0c1 h4_0f1 h4_0c2 h4_0f2); have h4_0m := Nat.ne_of_lt h4_0z; have h4_0n := Nat.ne_of_gt h4_0z; clear h4_0)); (try (have hh : Ext w3 w4 := ?g400; (case g400 => ((repeat' (first | with_reducible exact Ext.refl _ | with_reducible assumption | with_reducible apply Ext.alloc_r | with_reducible apply Ext.drew_r | with_reducible apply Ext.drewN_r | with_reducible refine Ext.trans ?_ ‹Ext _ _›)); done)); replace h3_0f0 := hh.frozen h3_0c0 h3_0f0; replace h3_0c0 := hh.cell h3_0c0; replace h3_0f1 := hh.frozen h3_0c1 h3_0f1; replace h3_0c1 := hh.cell h3_0c1; replace h3_0f2 := hh.frozen h3_0c2 h3_0f2; replace h3_0c2 := hh.cell h3_0c2; replace h3_0b := h3_0b.ext hh; have h3_0z2 := Nat.lt_of_lt_of_le h3_0z hh.size; have h3_0m2 := Nat.ne_of_lt h3_0z2; have h3_0n2 := Nat.ne_of_gt h3_0z2; clear hh)))
            | (go_at_call_of 41 (#[Value.agg #[Value.bool s2, Value.slice A2 L2 c2, Value.slice B2 M2 d2], Value.agg #[Value.bool s3, Value.slice A3 L3 c3, Value.slice B3 M3 d3]]); refine (radd_r (e2.ext (by repeat' (first | with_reducible exact Ext.refl _ | with_reducible assumption | with_reducible apply Ext.alloc_r | with_reducible apply Ext.drew_r | with_reducible apply Ext.drewN_r | with_reducible refine Ext.trans ?_ ‹Ext _ _›))) (e3.ext (by repeat' (first | with_reducible exact Ext.refl _ | with_reducible assumption | with_reducible apply Ext.alloc_r | with_reducible apply Ext.drew_r | with_reducible apply Ext.drewN_r | with_reducible refine Ext.trans ?_ ‹Ext _ _›))) (by omega) (by omega)).mono ?_; rintro e w3 ⟨sla, Ala, cla, Lla, Bla, dla, Mla, rfl, la, x3⟩; (have zs3 := x3.size); (try simp only [World.size_alloc, World.size_drew] at zs3); (try ((with_reducible have h3_0 := box_ext (vs := #[.bool false, .slice none 0 0, .slice none 0 0]) ((Ext.drew _).trans x3)); have h3_0c0 := (h3_0.1 0 (.bool false) rfl).1; have h3_0f0 := (h3_0.1 0 (.bool false) rfl).2; have h3_0c1 := (h3_0.1 1 (.slice none 0 0) rfl).1; have h3_0f1 := (h3_0.1 1 (.slice none 0 0) rfl).2; have h3_0c2 := (h3_0.1 2 (.slice none 0 0) rfl).1; have h3_0f2 := (h3_0.1 2 (.slice none 0 0) rfl).2; have h3_0b := h3_0.2.1; have h3_0z := h3_0.2.2; (try simp only [World.size_alloc] at h3_0b h3_0z h3_0c0 h3_0f0 h3_0c1 h3_0f1 h3_0c2 h3_0f2); have h3_0m := Nat.ne_of_lt h3_0z; have h3_0n := Nat.ne_of_gt h3_0z; clear h3_0))))
      | fail
      all_goals (clear HK; go_wp2_with fail; go_meet)
      all_goals
        refine PutR.mk (sb := slb) (A := Alb) (c := clb) (L := Llb) (B := Blb) (d := dlb) (M := Mlb) ?_ ((lb.mono (Nat.zero_le _)).kept ?_) ?_
        · refine Bx.mk3 ?_ ?_ ?_
          · go_simp
          · go_simp
          · go_simp
        · (repeat' (first | with_reducible exact Kept.refl _ | with_reducible apply Kept.alloc_r | with_reducible apply Kept.drew_r | (with_reducible apply Kept.setR; (case hb => ((repeat' (first | with_reducible assumption | with_reducible apply IsBox.set_ | (with_reducible apply IsBox.new; (first | (with_reducible rfl) | simp); done) | with_reducible apply IsBox.alloc_ | with_reducible apply IsBox.drew_ | with_reducible refine IsBox.ext ?_ ‹Ext _ _›)); done))) | (with_reducible apply Kept.setZ; (case hb => ((repeat' (first | with_reducible assumption | with_reducible apply IsBox.set_ | (with_reducible apply IsBox.new; (first | (with_reducible rfl) | simp); done) | with_reducible apply IsBox.alloc_ | with_reducible apply IsBox.drew_ | with_reducible refine IsBox.ext ?_ ‹Ext _ _›)); done))) | (with_reducible apply Kept.setI; (case hb => ((repeat' (first | with_reducible assumption | with_reducible apply IsBox.set_ | (with_reducible apply IsBox.new; (first | (with_reducible rfl) | simp); done) | with_reducible apply IsBox.alloc_ | with_reducible apply IsBox.drew_ | with_reducible refine IsBox.ext ?_ ‹Ext _ _›)); done))) | with_reducible refine Kept.trans ?_ (Ext.kept ‹Ext _ _›)))
        · (repeat' (first | with_reducible exact Ext.refl _ | with_reducible assumption | with_reducible apply Ext.alloc_r | with_reducible apply Ext.drew_r | with_reducible apply Ext.drewN_r | with_reducible apply Ext.set_r | with_reducible exact Nat.le_refl _ | omega | with_reducible refine Ext.trans ?_ ‹Ext _ _›))
    case rest =>
      have hcw := hcut
      have hc_0 := hcw
      obtain ⟨sleft, Aleft, cleft, Lleft, Bleft, dleft, Mleft, ⟨bkleft, rfl, ccleft⟩, left, xxleft⟩ := hc_0
      have x5 := xxleft
      clear xxleft
      obtain ⟨wc5, rfl⟩ : ∃ z : World, z = wc := ⟨_, rfl⟩
      replace e0_0 := x5.cell e0_0
      replace e0_1 := x5.cell e0_1
      replace e0_2 := x5.cell e0_2
      replace e1_0 := x5.cell e1_0
      replace e1_1 := x5.cell e1_1
      replace e1_2 := x5.cell e1_2
      replace e2_0 := x5.cell e2_0
      replace e2_1 := x5.cell e2_1
      replace e2_2 := x5.cell e2_2
      have left_0 := ccleft 0 (.bool sleft) rfl
      have left_1 := ccleft 1 (.slice Aleft Lleft cleft) rfl
      have left_2 := ccleft 2 (.slice Bleft Mleft dleft) rfl
      clear ccleft
      go_wp2_with fail
      go_cut [8] (fun s8 wx => PutR wc5 wx 13 (q1 * q2 + q1 * q3) s8)
      case first =>
        have HK : Hid (∀ w', Ext wc5 w' → Ext wc5 w' ∧ w'.cell? ⟨w.heap.size, 0, none⟩ = some (.bool s1) ∧ w'.cell? ⟨w.heap.size, 1, none⟩ = some (.slice A1 L1 c1) ∧ w'.cell? ⟨w.heap.size, 2, none⟩ = some (.slice B1 M1 d1) ∧ w'.cell? ⟨w.heap.size + 1, 0, none⟩ = some (.bool s2) ∧ w'.cell? ⟨w.heap.size + 1, 1, none⟩ = some (.slice A2 L2 c2) ∧ w'.cell? ⟨w.heap.size + 1, 2, none⟩ = some (.slice B2 M2 d2) ∧ w'.cell? ⟨w.heap.size + 1 + 1, 0, none⟩ = some (.bool s3) ∧ w'.cell? ⟨w.heap.size + 1 + 1, 1, none⟩ = some (.slice A3 L3 c3) ∧ w'.cell? ⟨w.heap.size + 1 + 1, 2, none⟩ = some (.slice B3 M3 d3) ∧ w'.cell? ⟨bkleft, 0, none⟩ = some (.bool sleft) ∧ w'.cell? ⟨bkleft, 1, none⟩ = some (.slice Aleft Lleft cleft) ∧ w'.cell? ⟨bkleft, 2, none⟩ = some (.slice Bleft Mleft dleft)) := fun w' hk => ⟨hk, hk.cell e0_0, hk.cell e0_1, hk.cell e0_2, hk.cell e1_0, hk.cell e1_1, hk.cell e1_2, hk.cell e2_0, hk.cell e2_1, hk.cell e2_2, hk.cell left_0, hk.cell left_1, hk.cell left_2⟩
        first
        | go_region_held3 (fun w' => Ext wc5 w' ∧ w'.cell? ⟨w.heap.size, 0, none⟩ = some (.bool s1) ∧ w'.cell? ⟨w.heap.size, 1, none⟩ = some (.slice A1 L1 c1) ∧ w'.cell? ⟨w.heap.size, 2, none⟩ = some (.slice B1 M1 d1) ∧ w'.cell? ⟨w.heap.size + 1, 0, none⟩ = some (.bool s2) ∧ w'.cell? ⟨w.heap.size + 1, 1, none⟩ = some (.slice A2 L2 c2) ∧ w'.cell? ⟨w.heap.size + 1, 2, none⟩ = some (.slice B2 M2 d2) ∧ w'.cell? ⟨w.heap.size + 1 + 1, 0, none⟩ = some (.bool s3) ∧ w'.cell? ⟨w.heap.size + 1 + 1, 1, none⟩ = some (.slice A3 L3 c3) ∧ w'.cell? ⟨w.heap.size + 1 + 1, 2, none⟩ = some (.slice B3 M3 d3) ∧ w'.cell? ⟨bkleft, 0, none⟩ = some (.bool sleft) ∧ w'.cell? ⟨bkleft, 1, none⟩ = some (.slice Aleft Lleft cleft) ∧ w'.cell? ⟨bkleft, 2, none⟩ = some (.slice Bleft Mleft dleft))
            ((with_reducible refine HK.out _ ?_; (repeat' (first | with_reducible exact Ext.refl _ | with_reducible assumption | with_reducible apply Ext.alloc_r | with_reducible apply Ext.drew_r | with_reducible apply Ext.drewN_r | with_reducible apply Ext.set_r | with_reducible exact Nat.le_refl _ | omega | with_reducible refine Ext.trans ?_ ‹Ext _ _›))))
            (first
              | (go_at_call_of 41 (#[Value.agg #[Value.bool sra, Value.slice Ara Lra cra, Value.slice Bra Mra dra], Value.agg #[Value.bool srb, Value.slice Arb Lrb crb, Value.slice Brb Mrb drb]]); have hgd := rb; clear hgd; refine (radd_r (ra.rv.ext (by repeat' (first | with_reducible exact Ext.refl _ | with_reducible assumption | with_reducible apply Ext.alloc_r | with_reducible apply Ext.drew_r | with_reducible apply Ext.drewN_r | with_reducible refine Ext.trans ?_ ‹Ext _ _›))) (rb.rv.ext (by repeat' (first | with_reducible exact Ext.refl _ | with_reducible assumption | with_reducible apply Ext.alloc_r | with_reducible apply Ext.drew_r | with_reducible apply Ext.drewN_r | with_reducible refine Ext.trans ?_ ‹Ext _ _›))) (by omega) (by omega)).mono ?_; rintro e w8 ⟨src, Arc, crc, Lrc, Brc, drc, Mrc, rfl, rc, x8⟩; (have zs8 := x8.size); (try simp only [World.size_alloc] at zs8); (try ((with_reducible have h8_0 := box_ext (vs := #[.bool false, .slice none 0 0, .slice none 0 0]) x8); have h8_0c0 := (h8_0.1 0 (.bool false) rfl).1; have h8_0f0 := (h8_0.1 0 (.bool false) rfl).2; have h8_0c1 := (h8_0.1 1 (.slice none 0 0) rfl).1; have h8_0f1 := (h8_0.1 1 (.slice none 0 0) rfl).2; have h8_0c2 := (h8_0.1 2 (.slice none 0 0) rfl).1; have h8_0f2 := (h8_0.1 2 (.slice none 0 0) rfl).2; have h8_0b := h8_0.2.1; have h8_0z := h8_0.2.2; (try simp only [World.size_alloc] at h8_0b h8_0z h8_0c0 h8_0f0 h8_0c1 h8_0f1 h8_0c2 h8_0f2); have h8_0m := Nat.ne_of_lt h8_0z; have h8_0n := Nat.ne_of_gt h8_0z; clear h8_0)); (try (have hh : Ext w6 w8 := ?g800; (case g800 => ((repeat' (first | with_reducible exact Ext.refl _ | with_reducible assumption | with_reducible apply Ext.alloc_r | with_reducible apply Ext.drew_r | with_reducible apply Ext.drewN_r | with_reducible refine Ext.trans ?_ ‹Ext _ _›)); done)); replace h6_0f0 := hh.frozen h6_0c0 h6_0f0; replace h6_0c0 := hh.cell h6_0c0; replace h6_0f1 := hh.frozen h6_0c1 h6_0f1; replace h6_0c1 := hh.cell h6_0c1; replace h6_0f2 := hh.frozen h6_0c2 h6_0f2; replace h6_0c2 := hh.cell h6_0c2; replace h6_0b := h6_0b.ext hh; have h6_0z2 := Nat.lt_of_lt_of_le h6_0z hh.size; have h6_0m2 := Nat.ne_of_lt h6_0z2; have h6_0n2 := Nat.ne_of_gt h6_0z2; clear hh)); (try (have hh : Ext w7 w8 := ?g810; (case g810 => ((repeat' (first | with_reducible exact Ext.refl _ | with_reducible assumption | with_reducible apply Ext.alloc_r | with_reducible apply Ext.drew_r | with_reducible apply Ext.drewN_r | with_reducible refine Ext.trans ?_ ‹Ext _ _›)); done)); replace h7_0f0 := hh.frozen h7_0c0 h7_0f0; replace h7_0c0 := hh.cell h7_0c0; replace h7_0f1 := hh.frozen h7_0c1 h7_0f1; replace h7_0c1 := hh.cell h7_0c1; replace h7_0f2 := hh.frozen h7_0c2 h7_0f2; replace h7_0c2 := hh.cell h7_0c2; replace h7_0b := h7_0b.ext hh; have h7_0z2 := Nat.lt_of_lt_of_le h7_0z hh.size; have h7_0m2 := Nat.ne_of_lt h7_0z2; have h7_0n2 := Nat.ne_of_gt h7_0z2; clear hh)))
              | (go_at_call_of 40 (#[Value.agg #[Value.bool s1, Value.slice A1 L1 c1, Value.slice B1 M1 d1], Value.agg #[Value.bool s3, Value.slice A3 L3 c3, Value.slice B3 M3 d3]]); have hgd := ra; clear hgd; refine (rmul_r (e1.ext (by repeat' (first | with_reducible exact Ext.refl _ | with_reducible assumption | with_reducible apply Ext.alloc_r | with_reducible apply Ext.drew_r | with_reducible apply Ext.drewN_r | with_reducible refine Ext.trans ?_ ‹Ext _ _›))) (e3.ext (by repeat' (first | with_reducible exact Ext.refl _ | with_reducible assumption | with_reducible apply Ext.alloc_r | with_reducible apply Ext.drew_r | with_reducible apply Ext.drewN_r | with_reducible refine Ext.trans ?_ ‹Ext _ _›))) (by omega) (by omega)).mono ?_; rintro e w7 ⟨srb, Arb, crb, Lrb, Brb, drb, Mrb, rfl, rb, x7⟩; (have zs7 := x7.size); (try simp only [World.size_alloc] at zs7); (try ((with_reducible have h7_0 := box_ext (vs := #[.bool false, .slice none 0 0, .slice none 0 0]) x7); have h7_0c0 := (h7_0.1 0 (.bool false) rfl).1; have h7_0f0 := (h7_0.1 0 (.bool false) rfl).2; have h7_0c1 := (h7_0.1 1 (.slice none 0 0) rfl).1; have h7_0f1 := (h7_0.1 1 (.slice none 0 0) rfl).2; have h7_0c2 := (h7_0.1 2 (.slice none 0 0) rfl).1; have h7_0f2 := (h7_0.1 2 (.slice none 0 0) rfl).2; have h7_0b := h7_0.2.1; have h7_0z := h7_0.2.2; (try simp only [World.size_alloc] at h7_0b h7_0z h7_0c0 h7_0f0 h7_0c1 h7_0f1 h7_0c2 h7_0f2); have h7_0m := Nat.ne_of_lt h7_0z; have h7_0n := Nat.ne_of_gt h7_0z; clear h7_0)))
              | (go_at_call_of 40 (#[Value.agg #[Value.bool s1, Value.slice A1 L1 c1, Value.slice B1 M1 d1], Value.agg #[Value.bool s2, Value.slice A2 L2 c2, Value.slice B2 M2 d2]]); refine (rmul_r (e1.ext (by repeat' (first | with_reducible exact Ext.refl _ | with_reducible assumption | with_reducible apply Ext.alloc_r | with_reducible apply Ext.drew_r | with_reducible apply Ext.drewN_r | with_reducible refine Ext.trans ?_ ‹Ext _ _›))) (e2.ext (by repeat' (first | with_reducible exact Ext.refl _ | with_reducible assumption | with_reducible apply Ext.alloc_r | with_reducible apply Ext.drew_r | with_reducible apply Ext.drewN_r | with_reducible refine Ext.trans ?_ ‹Ext _ _›))) (by omega) (by omega)).mono ?_; rintro e w6 ⟨sra, Ara, cra, Lra, Bra, dra, Mra, rfl, ra, x6⟩; (have zs6 := x6.size); (try simp only [World.size_alloc, World.size_drew] at zs6); (try ((with_reducible have h6_0 := box_ext (vs := #[.bool false, .slice none 0 0, .slice none 0 0]) ((Ext.drew _).trans x6)); have h6_0c0 := (h6_0.1 0 (.bool false) rfl).1; have h6_0f0 := (h6_0.1 0 (.bool false) rfl).2; have h6_0c1 := (h6_0.1 1 (.slice none 0 0) rfl).1; have h6_0f1 := (h6_0.1 1 (.slice none 0 0) rfl).2; have h6_0c2 := (h6_0.1 2 (.slice none 0 0) rfl).1; have h6_0f2 := (h6_0.1 2 (.slice none 0 0) rfl).2; have h6_0b := h6_0.2.1; have h6_0z := h6_0.2.2; (try simp only [World.size_alloc] at h6_0b h6_0z h6_0c0 h6_0f0 h6_0c1 h6_0f1 h6_0c2 h6_0f2); have h6_0m := Nat.ne_of_lt h6_0z; have h6_0n := Nat.ne_of_gt h6_0z; clear h6_0))))
        | fail
        all_goals (clear HK; go_wp2_with fail; go_meet)
        all_goals
          refine PutR.mk (sb := src) (A := Arc) (c := crc) (L := Lrc) (B := Brc) (d := drc) (M := Mrc) ?_ ((rc.mono (Nat.zero_le _)).kept ?_) ?_
          · refine Bx.mk3 ?_ ?_ ?_
            · go_simp
            · go_simp
            · go_simp
          · (repeat' (first | with_reducible exact Kept.refl _ | with_reducible apply Kept.alloc_r | with_reducible apply Kept.drew_r | (with_reducible apply Kept.setR; (case hb => ((repeat' (first | with_reducible assumption | with_reducible apply IsBox.set_ | (with_reducible apply IsBox.new; (first | (with_reducible rfl) | simp); done) | with_reducible apply IsBox.alloc_ | with_reducible apply IsBox.drew_ | with_reducible refine IsBox.ext ?_ ‹Ext _ _›)); done))) | (with_reducible apply Kept.setZ; (case hb => ((repeat' (first | with_reducible assumption | with_reducible apply IsBox.set_ | (with_reducible apply IsBox.new; (first | (with_reducible rfl) | simp); done) | with_reducible apply IsBox.alloc_ | with_reducible apply IsBox.drew_ | with_reducible refine IsBox.ext ?_ ‹Ext _ _›)); done))) | (with_reducible apply Kept.setI; (case hb => ((repeat' (first | with_reducible assumption | with_reducible apply IsBox.set_ | (with_reducible apply IsBox.new; (first | (with_reducible rfl) | simp); done) | with_reducible apply IsBox.alloc_ | with_reducible apply IsBox.drew_ | with_reducible refine IsBox.ext ?_ ‹Ext _ _›)); done))) | with_reducible refine Kept.trans ?_ (Ext.kept ‹Ext _ _›)))
          · (repeat' (first | with_reducible exact Ext.refl _ | with_reducible assumption | with_reducible apply Ext.alloc_r | with_reducible apply Ext.drew_r | with_reducible apply Ext.drewN_r | with_reducible apply Ext.set_r | with_reducible exact Nat.le_refl _ | omega | with_reducible refine Ext.trans ?_ ‹Ext _ _›))
      case rest =>
        have hcw := hcut
        have hc_0 := hcw
        obtain ⟨sright, Aright, cright, Lright, Bright, dright, Mright, ⟨bkright, rfl, ccright⟩, right, xxright⟩ := hc_0
        have x9 := xxright
        clear xxright
        obtain ⟨wc9, rfl⟩ : ∃ z : World, z = wc := ⟨_, rfl⟩
        replace e0_0 := x9.cell e0_0
        replace e0_1 := x9.cell e0_1
        replace e0_2 := x9.cell e0_2
        replace e1_0 := x9.cell e1_0
        replace e1_1 := x9.cell e1_1
        replace e1_2 := x9.cell e1_2
        replace e2_0 := x9.cell e2_0
        replace e2_1 := x9.cell e2_1
        replace e2_2 := x9.cell e2_2
        replace left_0 := x9.cell left_0
        replace left_1 := x9.cell left_1
        replace left_2 := x9.cell left_2
        have right_0 := ccright 0 (.bool sright) rfl
        have right_1 := ccright 1 (.slice Aright Lright cright) rfl
        have right_2 := ccright 2 (.slice Bright Mright dright) rfl
        clear ccright
        by_cases h0 : U = 0
        · have hq0 : q2 = 0 := hz.2 h0
          clear hz
          subst h0
          go_wp2_with fail
          refine (rquo_zero (e1.ext (by repeat' (first | with_reducible exact Ext.refl _ | with_reducible assumption | with_reducible apply Ext.alloc_r | with_reducible apply Ext.drew_r | with_reducible apply Ext.drewN_r | with_reducible refine Ext.trans ?_ ‹Ext _ _›))) (e2.ext (by repeat' (first | with_reducible exact Ext.refl _ | with_reducible assumption | with_reducible apply Ext.alloc_r | with_reducible apply Ext.drew_r | with_reducible apply Ext.drewN_r | with_reducible refine Ext.trans ?_ ‹Ext _ _›))) hq0 (by omega) (by omega)).mono ?_
          rintro e w10 ⟨rfl, x10⟩
          replace e0_0 := x10.cell e0_0
          replace e0_1 := x10.cell e0_1
          replace e0_2 := x10.cell e0_2
          replace e1_0 := x10.cell e1_0
          replace e1_1 := x10.cell e1_1
          replace e1_2 := x10.cell e1_2
          replace e2_0 := x10.cell e2_0
          replace e2_1 := x10.cell e2_1
          replace e2_2 := x10.cell e2_2
          replace left_0 := x10.cell left_0
          replace left_1 := x10.cell left_1
          replace left_2 := x10.cell left_2
          replace right_0 := x10.cell right_0
          replace right_1 := x10.cell right_1
          replace right_2 := x10.cell right_2
          clear hq0
          have te0_0 := fun o => (Ext.alloc w10 o).cell e0_0
          have te0_1 := fun o => (Ext.alloc w10 o).cell e0_1
          have te0_2 := fun o => (Ext.alloc w10 o).cell e0_2
          have te1_0 := fun o => (Ext.alloc w10 o).cell e1_0
          have te1_1 := fun o => (Ext.alloc w10 o).cell e1_1
          have te1_2 := fun o => (Ext.alloc w10 o).cell e1_2
          have te2_0 := fun o => (Ext.alloc w10 o).cell e2_0
          have te2_1 := fun o => (Ext.alloc w10 o).cell e2_1
          have te2_2 := fun o => (Ext.alloc w10 o).cell e2_2
          have tleft_0 := fun o => (Ext.alloc w10 o).cell left_0
          have tleft_1 := fun o => (Ext.alloc w10 o).cell left_1
          have tleft_2 := fun o => (Ext.alloc w10 o).cell left_2
          have tright_0 := fun o => (Ext.alloc w10 o).cell right_0
          have tright_1 := fun o => (Ext.alloc w10 o).cell right_1
          have tright_2 := fun o => (Ext.alloc w10 o).cell right_2
          go_wp2_with fail
          clear te0_0 te0_1 te0_2 te1_0 te1_1 te1_2 te2_0 te2_1 te2_2 tleft_0 tleft_1 tleft_2 tright_0 tright_1 tright_2
          obtain ⟨w11, hw⟩ : ∃ z : World, z = (w10.alloc (.cells #[.bool false, .slice none 0 0, .slice none 0 0] 27)) := ⟨_, rfl⟩
          rw [← hw]
          have x11 : Ext w10 w11 := by rw [hw]; exact Ext.alloc _ _
          have bb := box_at w10 #[.bool false, .slice none 0 0, .slice none 0 0] 27
          rw [← hw] at bb
          replace e0_0 := x11.cell e0_0
          replace e0_1 := x11.cell e0_1
          replace e0_2 := x11.cell e0_2
          replace e1_0 := x11.cell e1_0
          replace e1_1 := x11.cell e1_1
          replace e1_2 := x11.cell e1_2
          replace e2_0 := x11.cell e2_0
          replace e2_1 := x11.cell e2_1
          replace e2_2 := x11.cell e2_2
          replace left_0 := x11.cell left_0
          replace left_1 := x11.cell left_1
          replace left_2 := x11.cell left_2
          replace right_0 := x11.cell right_0
          replace right_1 := x11.cell right_1
          replace right_2 := x11.cell right_2
          have qz_0 := bb.1 0 (.bool false) rfl
          have qz_1 := bb.1 1 (.slice none 0 0) rfl
          have qz_2 := bb.1 2 (.slice none 0 0) rfl
          clear hw bb
          go_wp2_with fail
          have HK : Hid (∀ w', Ext w11 w' → Ext w11 w' ∧ w'.cell? ⟨w.heap.size, 0, none⟩ = some (.bool s1) ∧ w'.cell? ⟨w.heap.size, 1, none⟩ = some (.slice A1 L1 c1) ∧ w'.cell? ⟨w.heap.size, 2, none⟩ = some (.slice B1 M1 d1) ∧ w'.cell? ⟨w.heap.size + 1, 0, none⟩ = some (.bool s2) ∧ w'.cell? ⟨w.heap.size + 1, 1, none⟩ = some (.slice A2 L2 c2) ∧ w'.cell? ⟨w.heap.size + 1, 2, none⟩ = some (.slice B2 M2 d2) ∧ w'.cell? ⟨w.heap.size + 1 + 1, 0, none⟩ = some (.bool s3) ∧ w'.cell? ⟨w.heap.size + 1 + 1, 1, none⟩ = some (.slice A3 L3 c3) ∧ w'.cell? ⟨w.heap.size + 1 + 1, 2, none⟩ = some (.slice B3 M3 d3) ∧ w'.cell? ⟨bkleft, 0, none⟩ = some (.bool sleft) ∧ w'.cell? ⟨bkleft, 1, none⟩ = some (.slice Aleft Lleft cleft) ∧ w'.cell? ⟨bkleft, 2, none⟩ = some (.slice Bleft Mleft dleft) ∧ w'.cell? ⟨bkright, 0, none⟩ = some (.bool sright) ∧ w'.cell? ⟨bkright, 1, none⟩ = some (.slice Aright Lright cright) ∧ w'.cell? ⟨bkright, 2, none⟩ = some (.slice Bright Mright dright) ∧ w'.cell? ⟨w10.heap.size, 0, none⟩ = some (.bool false) ∧ w'.cell? ⟨w10.heap.size, 1, none⟩ = some (.slice none 0 0) ∧ w'.cell? ⟨w10.heap.size, 2, none⟩ = some (.slice none 0 0)) := fun w' hk => ⟨hk, hk.cell e0_0, hk.cell e0_1, hk.cell e0_2, hk.cell e1_0, hk.cell e1_1, hk.cell e1_2, hk.cell e2_0, hk.cell e2_1, hk.cell e2_2, hk.cell left_0, hk.cell left_1, hk.cell left_2, hk.cell right_0, hk.cell right_1, hk.cell right_2, hk.cell qz_0, hk.cell qz_1, hk.cell qz_2⟩
          try dsimp only [List.append]
          first
          | go_region_held3 (fun w' => Ext w11 w' ∧ w'.cell? ⟨w.heap.size, 0, none⟩ = some (.bool s1) ∧ w'.cell? ⟨w.heap.size, 1, none⟩ = some (.slice A1 L1 c1) ∧ w'.cell? ⟨w.heap.size, 2, none⟩ = some (.slice B1 M1 d1) ∧ w'.cell? ⟨w.heap.size + 1, 0, none⟩ = some (.bool s2) ∧ w'.cell? ⟨w.heap.size + 1, 1, none⟩ = some (.slice A2 L2 c2) ∧ w'.cell? ⟨w.heap.size + 1, 2, none⟩ = some (.slice B2 M2 d2) ∧ w'.cell? ⟨w.heap.size + 1 + 1, 0, none⟩ = some (.bool s3) ∧ w'.cell? ⟨w.heap.size + 1 + 1, 1, none⟩ = some (.slice A3 L3 c3) ∧ w'.cell? ⟨w.heap.size + 1 + 1, 2, none⟩ = some (.slice B3 M3 d3) ∧ w'.cell? ⟨bkleft, 0, none⟩ = some (.bool sleft) ∧ w'.cell? ⟨bkleft, 1, none⟩ = some (.slice Aleft Lleft cleft) ∧ w'.cell? ⟨bkleft, 2, none⟩ = some (.slice Bleft Mleft dleft) ∧ w'.cell? ⟨bkright, 0, none⟩ = some (.bool sright) ∧ w'.cell? ⟨bkright, 1, none⟩ = some (.slice Aright Lright cright) ∧ w'.cell? ⟨bkright, 2, none⟩ = some (.slice Bright Mright dright) ∧ w'.cell? ⟨w10.heap.size, 0, none⟩ = some (.bool false) ∧ w'.cell? ⟨w10.heap.size, 1, none⟩ = some (.slice none 0 0) ∧ w'.cell? ⟨w10.heap.size, 2, none⟩ = some (.slice none 0 0))
              ((with_reducible refine HK.out _ ?_; (repeat' (first | with_reducible exact Ext.refl _ | with_reducible assumption | with_reducible apply Ext.alloc_r | with_reducible apply Ext.drew_r | with_reducible apply Ext.drewN_r | with_reducible refine Ext.trans ?_ ‹Ext _ _›))))
              (first
                | (go_at_call_of 42 (#[Value.agg #[Value.bool smb, Value.slice Amb Lmb cmb, Value.slice Bmb Mmb dmb], Value.agg #[Value.bool smd, Value.slice Amd Lmd cmd, Value.slice Bmd Mmd dmd]]); have hgd := md; clear hgd; refine (same_is (mb.rv.ext (by repeat' (first | with_reducible exact Ext.refl _ | with_reducible assumption | with_reducible apply Ext.alloc_r | with_reducible apply Ext.drew_r | with_reducible apply Ext.drewN_r | with_reducible refine Ext.trans ?_ ‹Ext _ _›))) (md.rv.ext (by repeat' (first | with_reducible exact Ext.refl _ | with_reducible assumption | with_reducible apply Ext.alloc_r | with_reducible apply Ext.drew_r | with_reducible apply Ext.drewN_r | with_reducible refine Ext.trans ?_ ‹Ext _ _›))) (by omega) (by omega) ((Rat.mul_assoc _ _ _).symm)).mono ?_; rintro e w22 ⟨rfl, x22⟩)
                | (go_at_call_of 40 (#[Value.agg #[Value.bool smc, Value.slice Amc Lmc cmc, Value.slice Bmc Mmc dmc], Value.agg #[Value.bool s3, Value.slice A3 L3 c3, Value.slice B3 M3 d3]]); have hgd := mc; clear hgd; refine (rmul_r (mc.rv.ext (by repeat' (first | with_reducible exact Ext.refl _ | with_reducible assumption | with_reducible apply Ext.alloc_r | with_reducible apply Ext.drew_r | with_reducible apply Ext.drewN_r | with_reducible refine Ext.trans ?_ ‹Ext _ _›))) (e3.ext (by repeat' (first | with_reducible exact Ext.refl _ | with_reducible assumption | with_reducible apply Ext.alloc_r | with_reducible apply Ext.drew_r | with_reducible apply Ext.drewN_r | with_reducible refine Ext.trans ?_ ‹Ext _ _›))) (by omega) (by omega)).mono ?_; rintro e w21 ⟨smd, Amd, cmd, Lmd, Bmd, dmd, Mmd, rfl, md, x21⟩)
                | (go_at_call_of 40 (#[Value.agg #[Value.bool s1, Value.slice A1 L1 c1, Value.slice B1 M1 d1], Value.agg #[Value.bool s2, Value.slice A2 L2 c2, Value.slice B2 M2 d2]]); have hgd := mb; clear hgd; refine (rmul_r (e1.ext (by repeat' (first | with_reducible exact Ext.refl _ | with_reducible assumption | with_reducible apply Ext.alloc_r | with_reducible apply Ext.drew_r | with_reducible apply Ext.drewN_r | with_reducible refine Ext.trans ?_ ‹Ext _ _›))) (e2.ext (by repeat' (first | with_reducible exact Ext.refl _ | with_reducible assumption | with_reducible apply Ext.alloc_r | with_reducible apply Ext.drew_r | with_reducible apply Ext.drewN_r | with_reducible refine Ext.trans ?_ ‹Ext _ _›))) (by omega) (by omega)).mono ?_; rintro e w20 ⟨smc, Amc, cmc, Lmc, Bmc, dmc, Mmc, rfl, mc, x20⟩)
                | (go_at_call_of 40 (#[Value.agg #[Value.bool s1, Value.slice A1 L1 c1, Value.slice B1 M1 d1], Value.agg #[Value.bool sma, Value.slice Ama Lma cma, Value.slice Bma Mma dma]]); have hgd := ma; clear hgd; refine (rmul_r (e1.ext (by repeat' (first | with_reducible exact Ext.refl _ | with_reducible assumption | with_reducible apply Ext.alloc_r | with_reducible apply Ext.drew_r | with_reducible apply Ext.drewN_r | with_reducible refine Ext.trans ?_ ‹Ext _ _›))) (ma.rv.ext (by repeat' (first | with_reducible exact Ext.refl _ | with_reducible assumption | with_reducible apply Ext.alloc_r | with_reducible apply Ext.drew_r | with_reducible apply Ext.drewN_r | with_reducible refine Ext.trans ?_ ‹Ext _ _›))) (by omega) (by omega)).mono ?_; rintro e w19 ⟨smb, Amb, cmb, Lmb, Bmb, dmb, Mmb, rfl, mb, x19⟩)
                | (go_at_call_of 40 (#[Value.agg #[Value.bool s2, Value.slice A2 L2 c2, Value.slice B2 M2 d2], Value.agg #[Value.bool s3, Value.slice A3 L3 c3, Value.slice B3 M3 d3]]); have hgd := ad; clear hgd; refine (rmul_r (e2.ext (by repeat' (first | with_reducible exact Ext.refl _ | with_reducible assumption | with_reducible apply Ext.alloc_r | with_reducible apply Ext.drew_r | with_reducible apply Ext.drewN_r | with_reducible refine Ext.trans ?_ ‹Ext _ _›))) (e3.ext (by repeat' (first | with_reducible exact Ext.refl _ | with_reducible assumption | with_reducible apply Ext.alloc_r | with_reducible apply Ext.drew_r | with_reducible apply Ext.drewN_r | with_reducible refine Ext.trans ?_ ‹Ext _ _›))) (by omega) (by omega)).mono ?_; rintro e w18 ⟨sma, Ama, cma, Lma, Bma, dma, Mma, rfl, ma, x18⟩)
                | (go_at_call_of 42 (#[Value.agg #[Value.bool sab, Value.slice Aab Lab cab, Value.slice Bab Mab dab], Value.agg #[Value.bool sad, Value.slice Aad Lad cad, Value.slice Bad Mad dad]]); have hgd := ad; clear hgd; refine (same_is (ab.rv.ext (by repeat' (first | with_reducible exact Ext.refl _ | with_reducible assumption | with_reducible apply Ext.alloc_r | with_reducible apply Ext.drew_r | with_reducible apply Ext.drewN_r | with_reducible refine Ext.trans ?_ ‹Ext _ _›))) (ad.rv.ext (by repeat' (first | with_reducible exact Ext.refl _ | with_reducible assumption | with_reducible apply Ext.alloc_r | with_reducible apply Ext.drew_r | with_reducible apply Ext.drewN_r | with_reducible refine Ext.trans ?_ ‹Ext _ _›))) (by omega) (by omega) ((Rat.add_assoc _ _ _).symm)).mono ?_; rintro e w17 ⟨rfl, x17⟩)
                | (go_at_call_of 41 (#[Value.agg #[Value.bool sac, Value.slice Aac Lac cac, Value.slice Bac Mac dac], Value.agg #[Value.bool s3, Value.slice A3 L3 c3, Value.slice B3 M3 d3]]); have hgd := ac; clear hgd; refine (radd_r (ac.rv.ext (by repeat' (first | with_reducible exact Ext.refl _ | with_reducible assumption | with_reducible apply Ext.alloc_r | with_reducible apply Ext.drew_r | with_reducible apply Ext.drewN_r | with_reducible refine Ext.trans ?_ ‹Ext _ _›))) (e3.ext (by repeat' (first | with_reducible exact Ext.refl _ | with_reducible assumption | with_reducible apply Ext.alloc_r | with_reducible apply Ext.drew_r | with_reducible apply Ext.drewN_r | with_reducible refine Ext.trans ?_ ‹Ext _ _›))) (by omega) (by omega)).mono ?_; rintro e w16 ⟨sad, Aad, cad, Lad, Bad, dad, Mad, rfl, ad, x16⟩)
                | (go_at_call_of 41 (#[Value.agg #[Value.bool s1, Value.slice A1 L1 c1, Value.slice B1 M1 d1], Value.agg #[Value.bool s2, Value.slice A2 L2 c2, Value.slice B2 M2 d2]]); have hgd := ab; clear hgd; refine (radd_r (e1.ext (by repeat' (first | with_reducible exact Ext.refl _ | with_reducible assumption | with_reducible apply Ext.alloc_r | with_reducible apply Ext.drew_r | with_reducible apply Ext.drewN_r | with_reducible refine Ext.trans ?_ ‹Ext _ _›))) (e2.ext (by repeat' (first | with_reducible exact Ext.refl _ | with_reducible assumption | with_reducible apply Ext.alloc_r | with_reducible apply Ext.drew_r | with_reducible apply Ext.drewN_r | with_reducible refine Ext.trans ?_ ‹Ext _ _›))) (by omega) (by omega)).mono ?_; rintro e w15 ⟨sac, Aac, cac, Lac, Bac, dac, Mac, rfl, ac, x15⟩)
                | (go_at_call_of 41 (#[Value.agg #[Value.bool s1, Value.slice A1 L1 c1, Value.slice B1 M1 d1], Value.agg #[Value.bool saa, Value.slice Aaa Laa caa, Value.slice Baa Maa daa]]); have hgd := aa; clear hgd; refine (radd_r (e1.ext (by repeat' (first | with_reducible exact Ext.refl _ | with_reducible assumption | with_reducible apply Ext.alloc_r | with_reducible apply Ext.drew_r | with_reducible apply Ext.drewN_r | with_reducible refine Ext.trans ?_ ‹Ext _ _›))) (aa.rv.ext (by repeat' (first | with_reducible exact Ext.refl _ | with_reducible assumption | with_reducible apply Ext.alloc_r | with_reducible apply Ext.drew_r | with_reducible apply Ext.drewN_r | with_reducible refine Ext.trans ?_ ‹Ext _ _›))) (by omega) (by omega)).mono ?_; rintro e w14 ⟨sab, Aab, cab, Lab, Bab, dab, Mab, rfl, ab, x14⟩)
                | (go_at_call_of 41 (#[Value.agg #[Value.bool s2, Value.slice A2 L2 c2, Value.slice B2 M2 d2], Value.agg #[Value.bool s3, Value.slice A3 L3 c3, Value.slice B3 M3 d3]]); refine (radd_r (e2.ext (by repeat' (first | with_reducible exact Ext.refl _ | with_reducible assumption | with_reducible apply Ext.alloc_r | with_reducible apply Ext.drew_r | with_reducible apply Ext.drewN_r | with_reducible refine Ext.trans ?_ ‹Ext _ _›))) (e3.ext (by repeat' (first | with_reducible exact Ext.refl _ | with_reducible assumption | with_reducible apply Ext.alloc_r | with_reducible apply Ext.drew_r | with_reducible apply Ext.drewN_r | with_reducible refine Ext.trans ?_ ‹Ext _ _›))) (by omega) (by omega)).mono ?_; rintro e w13 ⟨saa, Aaa, caa, Laa, Baa, daa, Maa, rfl, aa, x13⟩)
                | (go_at_call_of 42 (#[Value.agg #[Value.bool sleft, Value.slice Aleft Lleft cleft, Value.slice Bleft Mleft dleft], Value.agg #[Value.bool sright, Value.slice Aright Lright cright, Value.slice Bright Mright dright]]); refine (same_is (left.rv.ext (by repeat' (first | with_reducible exact Ext.refl _ | with_reducible assumption | with_reducible apply Ext.alloc_r | with_reducible apply Ext.drew_r | with_reducible apply Ext.drewN_r | with_reducible refine Ext.trans ?_ ‹Ext _ _›))) (right.rv.ext (by repeat' (first | with_reducible exact Ext.refl _ | with_reducible assumption | with_reducible apply Ext.alloc_r | with_reducible apply Ext.drew_r | with_reducible apply Ext.drewN_r | with_reducible refine Ext.trans ?_ ‹Ext _ _›))) (by omega) (by omega) (Rat.mul_add _ _ _)).mono ?_; rintro e w12 ⟨rfl, x12⟩))
          | fail
          clear HK
          have xh : Ext w11 w22 := (by repeat' (first | with_reducible exact Ext.refl _ | with_reducible assumption | with_reducible apply Ext.alloc_r | with_reducible apply Ext.drew_r | with_reducible apply Ext.drewN_r | with_reducible refine Ext.trans ?_ ‹Ext _ _›))
          replace e0_0 := xh.cell e0_0
          replace e0_1 := xh.cell e0_1
          replace e0_2 := xh.cell e0_2
          replace e1_0 := xh.cell e1_0
          replace e1_1 := xh.cell e1_1
          replace e1_2 := xh.cell e1_2
          replace e2_0 := xh.cell e2_0
          replace e2_1 := xh.cell e2_1
          replace e2_2 := xh.cell e2_2
          replace left_0 := xh.cell left_0
          replace left_1 := xh.cell left_1
          replace left_2 := xh.cell left_2
          replace right_0 := xh.cell right_0
          replace right_1 := xh.cell right_1
          replace right_2 := xh.cell right_2
          replace qz_0 := xh.cell qz_0
          replace qz_1 := xh.cell qz_1
          replace qz_2 := xh.cell qz_2
          clear xh
          go_wp2_with fail
          go_cut [89] (fun s89 wx => s89 = Value.bool false ∧ Ext w22 wx)
          case first =>
            go_region_with (go_at_call 23; refine (rsign_is (k := 0) (e2.ext (by repeat' (first | with_reducible exact Ext.refl _ | with_reducible assumption | with_reducible apply Ext.alloc_r | with_reducible apply Ext.drew_r | with_reducible apply Ext.drewN_r | with_reducible refine Ext.trans ?_ ‹Ext _ _›))) HU.out.symm).mono ?_; rintro e w99 ⟨rfl, x99⟩)
            all_goals (go_wp2_with fail; go_meet)
            all_goals exact ⟨rfl, (by repeat' (first | with_reducible exact Ext.refl _ | with_reducible assumption | with_reducible apply Ext.alloc_r | with_reducible apply Ext.drew_r | with_reducible apply Ext.drewN_r | with_reducible refine Ext.trans ?_ ‹Ext _ _›))⟩
          case rest =>
            obtain ⟨rfl, x23⟩ := hcut
            obtain ⟨w23, rfl⟩ : ∃ z : World, z = wc := ⟨_, rfl⟩
            replace e0_0 := x23.cell e0_0
            replace e0_1 := x23.cell e0_1
            replace e0_2 := x23.cell e0_2
            replace e1_0 := x23.cell e1_0
            replace e1_1 := x23.cell e1_1
            replace e1_2 := x23.cell e1_2
            replace e2_0 := x23.cell e2_0
            replace e2_1 := x23.cell e2_1
            replace e2_2 := x23.cell e2_2
            replace left_0 := x23.cell left_0
            replace left_1 := x23.cell left_1
            replace left_2 := x23.cell left_2
            replace right_0 := x23.cell right_0
            replace right_1 := x23.cell right_1
            replace right_2 := x23.cell right_2
            replace qz_0 := x23.cell qz_0
            replace qz_1 := x23.cell qz_1
            replace qz_2 := x23.cell qz_2
            go_wp2_with fail
            refine (rcmp_is (k := K) (e1.ext (by repeat' (first | with_reducible exact Ext.refl _ | with_reducible assumption | with_reducible apply Ext.alloc_r | with_reducible apply Ext.drew_r | with_reducible apply Ext.drewN_r | with_reducible refine Ext.trans ?_ ‹Ext _ _›))) (e2.ext (by repeat' (first | with_reducible exact Ext.refl _ | with_reducible assumption | with_reducible apply Ext.alloc_r | with_reducible apply Ext.drew_r | with_reducible apply Ext.drewN_r | with_reducible refine Ext.trans ?_ ‹Ext _ _›))) (by omega) (by omega) HK.out.symm).mono ?_
            rintro e w24 ⟨rfl, x24⟩
            replace e0_0 := x24.cell e0_0
            replace e0_1 := x24.cell e0_1
            replace e0_2 := x24.cell e0_2
            replace e1_0 := x24.cell e1_0
            replace e1_1 := x24.cell e1_1
            replace e1_2 := x24.cell e1_2
            replace e2_0 := x24.cell e2_0
            replace e2_1 := x24.cell e2_1
            replace e2_2 := x24.cell e2_2
            replace left_0 := x24.cell left_0
            replace left_1 := x24.cell left_1
            replace left_2 := x24.cell left_2
            replace right_0 := x24.cell right_0
            replace right_1 := x24.cell right_1
            replace right_2 := x24.cell right_2
            replace qz_0 := x24.cell qz_0
            replace qz_1 := x24.cell qz_1
            replace qz_2 := x24.cell qz_2
            go_wp2_with fail
            have HK : Hid (∀ w', Ext w24 w' → Ext w24 w' ∧ w'.cell? ⟨w.heap.size, 0, none⟩ = some (.bool s1) ∧ w'.cell? ⟨w.heap.size, 1, none⟩ = some (.slice A1 L1 c1) ∧ w'.cell? ⟨w.heap.size, 2, none⟩ = some (.slice B1 M1 d1) ∧ w'.cell? ⟨w.heap.size + 1, 0, none⟩ = some (.bool s2) ∧ w'.cell? ⟨w.heap.size + 1, 1, none⟩ = some (.slice A2 L2 c2) ∧ w'.cell? ⟨w.heap.size + 1, 2, none⟩ = some (.slice B2 M2 d2) ∧ w'.cell? ⟨w.heap.size + 1 + 1, 0, none⟩ = some (.bool s3) ∧ w'.cell? ⟨w.heap.size + 1 + 1, 1, none⟩ = some (.slice A3 L3 c3) ∧ w'.cell? ⟨w.heap.size + 1 + 1, 2, none⟩ = some (.slice B3 M3 d3) ∧ w'.cell? ⟨bkleft, 0, none⟩ = some (.bool sleft) ∧ w'.cell? ⟨bkleft, 1, none⟩ = some (.slice Aleft Lleft cleft) ∧ w'.cell? ⟨bkleft, 2, none⟩ = some (.slice Bleft Mleft dleft) ∧ w'.cell? ⟨bkright, 0, none⟩ = some (.bool sright) ∧ w'.cell? ⟨bkright, 1, none⟩ = some (.slice Aright Lright cright) ∧ w'.cell? ⟨bkright, 2, none⟩ = some (.slice Bright Mright dright) ∧ w'.cell? ⟨w10.heap.size, 0, none⟩ = some (.bool false) ∧ w'.cell? ⟨w10.heap.size, 1, none⟩ = some (.slice none 0 0) ∧ w'.cell? ⟨w10.heap.size, 2, none⟩ = some (.slice none 0 0)) := fun w' hk => ⟨hk, hk.cell e0_0, hk.cell e0_1, hk.cell e0_2, hk.cell e1_0, hk.cell e1_1, hk.cell e1_2, hk.cell e2_0, hk.cell e2_1, hk.cell e2_2, hk.cell left_0, hk.cell left_1, hk.cell left_2, hk.cell right_0, hk.cell right_1, hk.cell right_2, hk.cell qz_0, hk.cell qz_1, hk.cell qz_2⟩
            try dsimp only [List.append]
            first
            | go_region_held3 (fun w' => Ext w24 w' ∧ w'.cell? ⟨w.heap.size, 0, none⟩ = some (.bool s1) ∧ w'.cell? ⟨w.heap.size, 1, none⟩ = some (.slice A1 L1 c1) ∧ w'.cell? ⟨w.heap.size, 2, none⟩ = some (.slice B1 M1 d1) ∧ w'.cell? ⟨w.heap.size + 1, 0, none⟩ = some (.bool s2) ∧ w'.cell? ⟨w.heap.size + 1, 1, none⟩ = some (.slice A2 L2 c2) ∧ w'.cell? ⟨w.heap.size + 1, 2, none⟩ = some (.slice B2 M2 d2) ∧ w'.cell? ⟨w.heap.size + 1 + 1, 0, none⟩ = some (.bool s3) ∧ w'.cell? ⟨w.heap.size + 1 + 1, 1, none⟩ = some (.slice A3 L3 c3) ∧ w'.cell? ⟨w.heap.size + 1 + 1, 2, none⟩ = some (.slice B3 M3 d3) ∧ w'.cell? ⟨bkleft, 0, none⟩ = some (.bool sleft) ∧ w'.cell? ⟨bkleft, 1, none⟩ = some (.slice Aleft Lleft cleft) ∧ w'.cell? ⟨bkleft, 2, none⟩ = some (.slice Bleft Mleft dleft) ∧ w'.cell? ⟨bkright, 0, none⟩ = some (.bool sright) ∧ w'.cell? ⟨bkright, 1, none⟩ = some (.slice Aright Lright cright) ∧ w'.cell? ⟨bkright, 2, none⟩ = some (.slice Bright Mright dright) ∧ w'.cell? ⟨w10.heap.size, 0, none⟩ = some (.bool false) ∧ w'.cell? ⟨w10.heap.size, 1, none⟩ = some (.slice none 0 0) ∧ w'.cell? ⟨w10.heap.size, 2, none⟩ = some (.slice none 0 0))
                ((with_reducible refine HK.out _ ?_; (repeat' (first | with_reducible exact Ext.refl _ | with_reducible assumption | with_reducible apply Ext.alloc_r | with_reducible apply Ext.drew_r | with_reducible apply Ext.drewN_r | with_reducible refine Ext.trans ?_ ‹Ext _ _›))))
                (first
                  | (go_at_call_of 23 (#[Value.agg #[Value.bool ssa, Value.slice Asa Lsa csa, Value.slice Bsa Msa dsa]]); have hgd := sa; clear hgd; refine (rsign_is (k := K) (sa.rv.ext (by repeat' (first | with_reducible exact Ext.refl _ | with_reducible assumption | with_reducible apply Ext.alloc_r | with_reducible apply Ext.drew_r | with_reducible apply Ext.drewN_r | with_reducible refine Ext.trans ?_ ‹Ext _ _›))) (HS.out)).mono ?_; rintro e w33 ⟨rfl, x33⟩)
                  | (go_at_call_of 44 (#[Value.agg #[Value.bool s1, Value.slice A1 L1 c1, Value.slice B1 M1 d1], Value.agg #[Value.bool s2, Value.slice A2 L2 c2, Value.slice B2 M2 d2]]); have hgd := nb; clear hgd; refine (rsub_r (e1.ext (by repeat' (first | with_reducible exact Ext.refl _ | with_reducible assumption | with_reducible apply Ext.alloc_r | with_reducible apply Ext.drew_r | with_reducible apply Ext.drewN_r | with_reducible refine Ext.trans ?_ ‹Ext _ _›))) (e2.ext (by repeat' (first | with_reducible exact Ext.refl _ | with_reducible assumption | with_reducible apply Ext.alloc_r | with_reducible apply Ext.drew_r | with_reducible apply Ext.drewN_r | with_reducible refine Ext.trans ?_ ‹Ext _ _›))) (by omega) (by omega)).mono ?_; rintro e w32 ⟨ssa, Asa, csa, Lsa, Bsa, dsa, Msa, rfl, sa, x32⟩)
                  | (go_at_call_of 23 (#[Value.agg #[Value.bool s3, Value.slice A3 L3 c3, Value.slice B3 M3 d3]]); have hgd := nb; clear hgd; refine (rsign_is (k := T) (e3.ext (by repeat' (first | with_reducible exact Ext.refl _ | with_reducible assumption | with_reducible apply Ext.alloc_r | with_reducible apply Ext.drew_r | with_reducible apply Ext.drewN_r | with_reducible refine Ext.trans ?_ ‹Ext _ _›))) (HT.out.symm)).mono ?_; rintro e w31 ⟨rfl, x31⟩)
                  | (go_at_call_of 43 (#[Value.agg #[Value.bool sna, Value.slice Ana Lna cna, Value.slice Bna Mna dna], Value.agg #[Value.bool snb, Value.slice Anb Lnb cnb, Value.slice Bnb Mnb dnb]]); have hgd := nb; clear hgd; refine (rcmp_is (k := P) (na.rv.ext (by repeat' (first | with_reducible exact Ext.refl _ | with_reducible assumption | with_reducible apply Ext.alloc_r | with_reducible apply Ext.drew_r | with_reducible apply Ext.drewN_r | with_reducible refine Ext.trans ?_ ‹Ext _ _›))) (nb.rv.ext (by repeat' (first | with_reducible exact Ext.refl _ | with_reducible assumption | with_reducible apply Ext.alloc_r | with_reducible apply Ext.drew_r | with_reducible apply Ext.drewN_r | with_reducible refine Ext.trans ?_ ‹Ext _ _›))) (by omega) (by omega) (HM.out)).mono ?_; rintro e w30 ⟨rfl, x30⟩)
                  | (go_at_call_of 40 (#[Value.agg #[Value.bool s2, Value.slice A2 L2 c2, Value.slice B2 M2 d2], Value.agg #[Value.bool s3, Value.slice A3 L3 c3, Value.slice B3 M3 d3]]); have hgd := na; clear hgd; refine (rmul_r (e2.ext (by repeat' (first | with_reducible exact Ext.refl _ | with_reducible assumption | with_reducible apply Ext.alloc_r | with_reducible apply Ext.drew_r | with_reducible apply Ext.drewN_r | with_reducible refine Ext.trans ?_ ‹Ext _ _›))) (e3.ext (by repeat' (first | with_reducible exact Ext.refl _ | with_reducible assumption | with_reducible apply Ext.alloc_r | with_reducible apply Ext.drew_r | with_reducible apply Ext.drewN_r | with_reducible refine Ext.trans ?_ ‹Ext _ _›))) (by omega) (by omega)).mono ?_; rintro e w29 ⟨snb, Anb, cnb, Lnb, Bnb, dnb, Mnb, rfl, nb, x29⟩)
                  | (go_at_call_of 40 (#[Value.agg #[Value.bool s1, Value.slice A1 L1 c1, Value.slice B1 M1 d1], Value.agg #[Value.bool s3, Value.slice A3 L3 c3, Value.slice B3 M3 d3]]); have hgd := pb; clear hgd; refine (rmul_r (e1.ext (by repeat' (first | with_reducible exact Ext.refl _ | with_reducible assumption | with_reducible apply Ext.alloc_r | with_reducible apply Ext.drew_r | with_reducible apply Ext.drewN_r | with_reducible refine Ext.trans ?_ ‹Ext _ _›))) (e3.ext (by repeat' (first | with_reducible exact Ext.refl _ | with_reducible assumption | with_reducible apply Ext.alloc_r | with_reducible apply Ext.drew_r | with_reducible apply Ext.drewN_r | with_reducible refine Ext.trans ?_ ‹Ext _ _›))) (by omega) (by omega)).mono ?_; rintro e w28 ⟨sna, Ana, cna, Lna, Bna, dna, Mna, rfl, na, x28⟩)
                  | (go_at_call_of 43 (#[Value.agg #[Value.bool spa, Value.slice Apa Lpa cpa, Value.slice Bpa Mpa dpa], Value.agg #[Value.bool spb, Value.slice Apb Lpb cpb, Value.slice Bpb Mpb dpb]]); have hgd := pb; clear hgd; refine (rcmp_is (k := K) (pa.rv.ext (by repeat' (first | with_reducible exact Ext.refl _ | with_reducible assumption | with_reducible apply Ext.alloc_r | with_reducible apply Ext.drew_r | with_reducible apply Ext.drewN_r | with_reducible refine Ext.trans ?_ ‹Ext _ _›))) (pb.rv.ext (by repeat' (first | with_reducible exact Ext.refl _ | with_reducible assumption | with_reducible apply Ext.alloc_r | with_reducible apply Ext.drew_r | with_reducible apply Ext.drewN_r | with_reducible refine Ext.trans ?_ ‹Ext _ _›))) (by omega) (by omega) (HA.out)).mono ?_; rintro e w27 ⟨rfl, x27⟩)
                  | (go_at_call_of 41 (#[Value.agg #[Value.bool s2, Value.slice A2 L2 c2, Value.slice B2 M2 d2], Value.agg #[Value.bool s3, Value.slice A3 L3 c3, Value.slice B3 M3 d3]]); have hgd := pa; clear hgd; refine (radd_r (e2.ext (by repeat' (first | with_reducible exact Ext.refl _ | with_reducible assumption | with_reducible apply Ext.alloc_r | with_reducible apply Ext.drew_r | with_reducible apply Ext.drewN_r | with_reducible refine Ext.trans ?_ ‹Ext _ _›))) (e3.ext (by repeat' (first | with_reducible exact Ext.refl _ | with_reducible assumption | with_reducible apply Ext.alloc_r | with_reducible apply Ext.drew_r | with_reducible apply Ext.drewN_r | with_reducible refine Ext.trans ?_ ‹Ext _ _›))) (by omega) (by omega)).mono ?_; rintro e w26 ⟨spb, Apb, cpb, Lpb, Bpb, dpb, Mpb, rfl, pb, x26⟩)
                  | (go_at_call_of 41 (#[Value.agg #[Value.bool s1, Value.slice A1 L1 c1, Value.slice B1 M1 d1], Value.agg #[Value.bool s3, Value.slice A3 L3 c3, Value.slice B3 M3 d3]]); refine (radd_r (e1.ext (by repeat' (first | with_reducible exact Ext.refl _ | with_reducible assumption | with_reducible apply Ext.alloc_r | with_reducible apply Ext.drew_r | with_reducible apply Ext.drewN_r | with_reducible refine Ext.trans ?_ ‹Ext _ _›))) (e3.ext (by repeat' (first | with_reducible exact Ext.refl _ | with_reducible assumption | with_reducible apply Ext.alloc_r | with_reducible apply Ext.drew_r | with_reducible apply Ext.drewN_r | with_reducible refine Ext.trans ?_ ‹Ext _ _›))) (by omega) (by omega)).mono ?_; rintro e w25 ⟨spa, Apa, cpa, Lpa, Bpa, dpa, Mpa, rfl, pa, x25⟩))
            | fail
            clear HK
            have xh : Ext w24 w33 := (by repeat' (first | with_reducible exact Ext.refl _ | with_reducible assumption | with_reducible apply Ext.alloc_r | with_reducible apply Ext.drew_r | with_reducible apply Ext.drewN_r | with_reducible refine Ext.trans ?_ ‹Ext _ _›))
            replace e0_0 := xh.cell e0_0
            replace e0_1 := xh.cell e0_1
            replace e0_2 := xh.cell e0_2
            replace e1_0 := xh.cell e1_0
            replace e1_1 := xh.cell e1_1
            replace e1_2 := xh.cell e1_2
            replace e2_0 := xh.cell e2_0
            replace e2_1 := xh.cell e2_1
            replace e2_2 := xh.cell e2_2
            replace left_0 := xh.cell left_0
            replace left_1 := xh.cell left_1
            replace left_2 := xh.cell left_2
            replace right_0 := xh.cell right_0
            replace right_1 := xh.cell right_1
            replace right_2 := xh.cell right_2
            replace qz_0 := xh.cell qz_0
            replace qz_1 := xh.cell qz_1
            replace qz_2 := xh.cell qz_2
            clear xh
            go_wp2_with fail
            go_ret
            exact ⟨rfl, (by repeat' (first | with_reducible exact Ext.refl _ | with_reducible assumption | with_reducible apply Ext.alloc_r | with_reducible apply Ext.drew_r | with_reducible apply Ext.drewN_r | with_reducible refine Ext.trans ?_ ‹Ext _ _›))⟩
        · have hq0 : q2 ≠ 0 := fun h => h0 (hz.1 h)
          have hu : (U != 0) = true := by simpa using h0
          have hu2 : decide (U = 0) = false := decide_eq_false h0
          clear hz
          go_wp2_with fail
          refine (rquo_r (e1.ext (by repeat' (first | with_reducible exact Ext.refl _ | with_reducible assumption | with_reducible apply Ext.alloc_r | with_reducible apply Ext.drew_r | with_reducible apply Ext.drewN_r | with_reducible refine Ext.trans ?_ ‹Ext _ _›))) (e2.ext (by repeat' (first | with_reducible exact Ext.refl _ | with_reducible assumption | with_reducible apply Ext.alloc_r | with_reducible apply Ext.drew_r | with_reducible apply Ext.drewN_r | with_reducible refine Ext.trans ?_ ‹Ext _ _›))) hq0 (by omega) (by omega)).mono ?_
          rintro e w10 ⟨sz, Az, cz, Lz, Bz, dz, Mz, rfl, z, x10⟩
          replace e0_0 := x10.cell e0_0
          replace e0_1 := x10.cell e0_1
          replace e0_2 := x10.cell e0_2
          replace e1_0 := x10.cell e1_0
          replace e1_1 := x10.cell e1_1
          replace e1_2 := x10.cell e1_2
          replace e2_0 := x10.cell e2_0
          replace e2_1 := x10.cell e2_1
          replace e2_2 := x10.cell e2_2
          replace left_0 := x10.cell left_0
          replace left_1 := x10.cell left_1
          replace left_2 := x10.cell left_2
          replace right_0 := x10.cell right_0
          replace right_1 := x10.cell right_1
          replace right_2 := x10.cell right_2
          have HQ : Hid (q1 / q2 * q2 = q1) := rat_div_mul hq0
          clear hq0
          have te0_0 := fun o => (Ext.alloc w10 o).cell e0_0
          have te0_1 := fun o => (Ext.alloc w10 o).cell e0_1
          have te0_2 := fun o => (Ext.alloc w10 o).cell e0_2
          have te1_0 := fun o => (Ext.alloc w10 o).cell e1_0
          have te1_1 := fun o => (Ext.alloc w10 o).cell e1_1
          have te1_2 := fun o => (Ext.alloc w10 o).cell e1_2
          have te2_0 := fun o => (Ext.alloc w10 o).cell e2_0
          have te2_1 := fun o => (Ext.alloc w10 o).cell e2_1
          have te2_2 := fun o => (Ext.alloc w10 o).cell e2_2
          have tleft_0 := fun o => (Ext.alloc w10 o).cell left_0
          have tleft_1 := fun o => (Ext.alloc w10 o).cell left_1
          have tleft_2 := fun o => (Ext.alloc w10 o).cell left_2
          have tright_0 := fun o => (Ext.alloc w10 o).cell right_0
          have tright_1 := fun o => (Ext.alloc w10 o).cell right_1
          have tright_2 := fun o => (Ext.alloc w10 o).cell right_2
          go_wp2_with fail
          clear te0_0 te0_1 te0_2 te1_0 te1_1 te1_2 te2_0 te2_1 te2_2 tleft_0 tleft_1 tleft_2 tright_0 tright_1 tright_2
          obtain ⟨w11, hw⟩ : ∃ z : World, z = (w10.alloc (.cells #[.bool sz, .slice Az Lz cz, .slice Bz Mz dz] 27)) := ⟨_, rfl⟩
          rw [← hw]
          have x11 : Ext w10 w11 := by rw [hw]; exact Ext.alloc _ _
          have bb := box_at w10 #[.bool sz, .slice Az Lz cz, .slice Bz Mz dz] 27
          rw [← hw] at bb
          replace e0_0 := x11.cell e0_0
          replace e0_1 := x11.cell e0_1
          replace e0_2 := x11.cell e0_2
          replace e1_0 := x11.cell e1_0
          replace e1_1 := x11.cell e1_1
          replace e1_2 := x11.cell e1_2
          replace e2_0 := x11.cell e2_0
          replace e2_1 := x11.cell e2_1
          replace e2_2 := x11.cell e2_2
          replace left_0 := x11.cell left_0
          replace left_1 := x11.cell left_1
          replace left_2 := x11.cell left_2
          replace right_0 := x11.cell right_0
          replace right_1 := x11.cell right_1
          replace right_2 := x11.cell right_2
          have z_0 := bb.1 0 (.bool sz) rfl
          have z_1 := bb.1 1 (.slice Az Lz cz) rfl
          have z_2 := bb.1 2 (.slice Bz Mz dz) rfl
          clear hw bb
          go_wp2_with fail
          have HK : Hid (∀ w', Ext w11 w' → Ext w11 w' ∧ w'.cell? ⟨w.heap.size, 0, none⟩ = some (.bool s1) ∧ w'.cell? ⟨w.heap.size, 1, none⟩ = some (.slice A1 L1 c1) ∧ w'.cell? ⟨w.heap.size, 2, none⟩ = some (.slice B1 M1 d1) ∧ w'.cell? ⟨w.heap.size + 1, 0, none⟩ = some (.bool s2) ∧ w'.cell? ⟨w.heap.size + 1, 1, none⟩ = some (.slice A2 L2 c2) ∧ w'.cell? ⟨w.heap.size + 1, 2, none⟩ = some (.slice B2 M2 d2) ∧ w'.cell? ⟨w.heap.size + 1 + 1, 0, none⟩ = some (.bool s3) ∧ w'.cell? ⟨w.heap.size + 1 + 1, 1, none⟩ = some (.slice A3 L3 c3) ∧ w'.cell? ⟨w.heap.size + 1 + 1, 2, none⟩ = some (.slice B3 M3 d3) ∧ w'.cell? ⟨bkleft, 0, none⟩ = some (.bool sleft) ∧ w'.cell? ⟨bkleft, 1, none⟩ = some (.slice Aleft Lleft cleft) ∧ w'.cell? ⟨bkleft, 2, none⟩ = some (.slice Bleft Mleft dleft) ∧ w'.cell? ⟨bkright, 0, none⟩ = some (.bool sright) ∧ w'.cell? ⟨bkright, 1, none⟩ = some (.slice Aright Lright cright) ∧ w'.cell? ⟨bkright, 2, none⟩ = some (.slice Bright Mright dright) ∧ w'.cell? ⟨w10.heap.size, 0, none⟩ = some (.bool sz) ∧ w'.cell? ⟨w10.heap.size, 1, none⟩ = some (.slice Az Lz cz) ∧ w'.cell? ⟨w10.heap.size, 2, none⟩ = some (.slice Bz Mz dz)) := fun w' hk => ⟨hk, hk.cell e0_0, hk.cell e0_1, hk.cell e0_2, hk.cell e1_0, hk.cell e1_1, hk.cell e1_2, hk.cell e2_0, hk.cell e2_1, hk.cell e2_2, hk.cell left_0, hk.cell left_1, hk.cell left_2, hk.cell right_0, hk.cell right_1, hk.cell right_2, hk.cell z_0, hk.cell z_1, hk.cell z_2⟩
          try dsimp only [List.append]
          first
          | go_region_held3 (fun w' => Ext w11 w' ∧ w'.cell? ⟨w.heap.size, 0, none⟩ = some (.bool s1) ∧ w'.cell? ⟨w.heap.size, 1, none⟩ = some (.slice A1 L1 c1) ∧ w'.cell? ⟨w.heap.size, 2, none⟩ = some (.slice B1 M1 d1) ∧ w'.cell? ⟨w.heap.size + 1, 0, none⟩ = some (.bool s2) ∧ w'.cell? ⟨w.heap.size + 1, 1, none⟩ = some (.slice A2 L2 c2) ∧ w'.cell? ⟨w.heap.size + 1, 2, none⟩ = some (.slice B2 M2 d2) ∧ w'.cell? ⟨w.heap.size + 1 + 1, 0, none⟩ = some (.bool s3) ∧ w'.cell? ⟨w.heap.size + 1 + 1, 1, none⟩ = some (.slice A3 L3 c3) ∧ w'.cell? ⟨w.heap.size + 1 + 1, 2, none⟩ = some (.slice B3 M3 d3) ∧ w'.cell? ⟨bkleft, 0, none⟩ = some (.bool sleft) ∧ w'.cell? ⟨bkleft, 1, none⟩ = some (.slice Aleft Lleft cleft) ∧ w'.cell? ⟨bkleft, 2, none⟩ = some (.slice Bleft Mleft dleft) ∧ w'.cell? ⟨bkright, 0, none⟩ = some (.bool sright) ∧ w'.cell? ⟨bkright, 1, none⟩ = some (.slice Aright Lright cright) ∧ w'.cell? ⟨bkright, 2, none⟩ = some (.slice Bright Mright dright) ∧ w'.cell? ⟨w10.heap.size, 0, none⟩ = some (.bool sz) ∧ w'.cell? ⟨w10.heap.size, 1, none⟩ = some (.slice Az Lz cz) ∧ w'.cell? ⟨w10.heap.size, 2, none⟩ = some (.slice Bz Mz dz))
              ((with_reducible refine HK.out _ ?_; (repeat' (first | with_reducible exact Ext.refl _ | with_reducible assumption | with_reducible apply Ext.alloc_r | with_reducible apply Ext.drew_r | with_reducible apply Ext.drewN_r | with_reducible refine Ext.trans ?_ ‹Ext _ _›))))
              (first
                | (go_at_call_of 42 (#[Value.agg #[Value.bool smb, Value.slice Amb Lmb cmb, Value.slice Bmb Mmb dmb], Value.agg #[Value.bool smd, Value.slice Amd Lmd cmd, Value.slice Bmd Mmd dmd]]); have hgd := md; clear hgd; refine (same_is (mb.rv.ext (by repeat' (first | with_reducible exact Ext.refl _ | with_reducible assumption | with_reducible apply Ext.alloc_r | with_reducible apply Ext.drew_r | with_reducible apply Ext.drewN_r | with_reducible refine Ext.trans ?_ ‹Ext _ _›))) (md.rv.ext (by repeat' (first | with_reducible exact Ext.refl _ | with_reducible assumption | with_reducible apply Ext.alloc_r | with_reducible apply Ext.drew_r | with_reducible apply Ext.drewN_r | with_reducible refine Ext.trans ?_ ‹Ext _ _›))) (by omega) (by omega) ((Rat.mul_assoc _ _ _).symm)).mono ?_; rintro e w22 ⟨rfl, x22⟩)
                | (go_at_call_of 40 (#[Value.agg #[Value.bool smc, Value.slice Amc Lmc cmc, Value.slice Bmc Mmc dmc], Value.agg #[Value.bool s3, Value.slice A3 L3 c3, Value.slice B3 M3 d3]]); have hgd := mc; clear hgd; refine (rmul_r (mc.rv.ext (by repeat' (first | with_reducible exact Ext.refl _ | with_reducible assumption | with_reducible apply Ext.alloc_r | with_reducible apply Ext.drew_r | with_reducible apply Ext.drewN_r | with_reducible refine Ext.trans ?_ ‹Ext _ _›))) (e3.ext (by repeat' (first | with_reducible exact Ext.refl _ | with_reducible assumption | with_reducible apply Ext.alloc_r | with_reducible apply Ext.drew_r | with_reducible apply Ext.drewN_r | with_reducible refine Ext.trans ?_ ‹Ext _ _›))) (by omega) (by omega)).mono ?_; rintro e w21 ⟨smd, Amd, cmd, Lmd, Bmd, dmd, Mmd, rfl, md, x21⟩)
                | (go_at_call_of 40 (#[Value.agg #[Value.bool s1, Value.slice A1 L1 c1, Value.slice B1 M1 d1], Value.agg #[Value.bool s2, Value.slice A2 L2 c2, Value.slice B2 M2 d2]]); have hgd := mb; clear hgd; refine (rmul_r (e1.ext (by repeat' (first | with_reducible exact Ext.refl _ | with_reducible assumption | with_reducible apply Ext.alloc_r | with_reducible apply Ext.drew_r | with_reducible apply Ext.drewN_r | with_reducible refine Ext.trans ?_ ‹Ext _ _›))) (e2.ext (by repeat' (first | with_reducible exact Ext.refl _ | with_reducible assumption | with_reducible apply Ext.alloc_r | with_reducible apply Ext.drew_r | with_reducible apply Ext.drewN_r | with_reducible refine Ext.trans ?_ ‹Ext _ _›))) (by omega) (by omega)).mono ?_; rintro e w20 ⟨smc, Amc, cmc, Lmc, Bmc, dmc, Mmc, rfl, mc, x20⟩)
                | (go_at_call_of 40 (#[Value.agg #[Value.bool s1, Value.slice A1 L1 c1, Value.slice B1 M1 d1], Value.agg #[Value.bool sma, Value.slice Ama Lma cma, Value.slice Bma Mma dma]]); have hgd := ma; clear hgd; refine (rmul_r (e1.ext (by repeat' (first | with_reducible exact Ext.refl _ | with_reducible assumption | with_reducible apply Ext.alloc_r | with_reducible apply Ext.drew_r | with_reducible apply Ext.drewN_r | with_reducible refine Ext.trans ?_ ‹Ext _ _›))) (ma.rv.ext (by repeat' (first | with_reducible exact Ext.refl _ | with_reducible assumption | with_reducible apply Ext.alloc_r | with_reducible apply Ext.drew_r | with_reducible apply Ext.drewN_r | with_reducible refine Ext.trans ?_ ‹Ext _ _›))) (by omega) (by omega)).mono ?_; rintro e w19 ⟨smb, Amb, cmb, Lmb, Bmb, dmb, Mmb, rfl, mb, x19⟩)
                | (go_at_call_of 40 (#[Value.agg #[Value.bool s2, Value.slice A2 L2 c2, Value.slice B2 M2 d2], Value.agg #[Value.bool s3, Value.slice A3 L3 c3, Value.slice B3 M3 d3]]); have hgd := ad; clear hgd; refine (rmul_r (e2.ext (by repeat' (first | with_reducible exact Ext.refl _ | with_reducible assumption | with_reducible apply Ext.alloc_r | with_reducible apply Ext.drew_r | with_reducible apply Ext.drewN_r | with_reducible refine Ext.trans ?_ ‹Ext _ _›))) (e3.ext (by repeat' (first | with_reducible exact Ext.refl _ | with_reducible assumption | with_reducible apply Ext.alloc_r | with_reducible apply Ext.drew_r | with_reducible apply Ext.drewN_r | with_reducible refine Ext.trans ?_ ‹Ext _ _›))) (by omega) (by omega)).mono ?_; rintro e w18 ⟨sma, Ama, cma, Lma, Bma, dma, Mma, rfl, ma, x18⟩)
                | (go_at_call_of 42 (#[Value.agg #[Value.bool sab, Value.slice Aab Lab cab, Value.slice Bab Mab dab], Value.agg #[Value.bool sad, Value.slice Aad Lad cad, Value.slice Bad Mad dad]]); have hgd := ad; clear hgd; refine (same_is (ab.rv.ext (by repeat' (first | with_reducible exact Ext.refl _ | with_reducible assumption | with_reducible apply Ext.alloc_r | with_reducible apply Ext.drew_r | with_reducible apply Ext.drewN_r | with_reducible refine Ext.trans ?_ ‹Ext _ _›))) (ad.rv.ext (by repeat' (first | with_reducible exact Ext.refl _ | with_reducible assumption | with_reducible apply Ext.alloc_r | with_reducible apply Ext.drew_r | with_reducible apply Ext.drewN_r | with_reducible refine Ext.trans ?_ ‹Ext _ _›))) (by omega) (by omega) ((Rat.add_assoc _ _ _).symm)).mono ?_; rintro e w17 ⟨rfl, x17⟩)
                | (go_at_call_of 41 (#[Value.agg #[Value.bool sac, Value.slice Aac Lac cac, Value.slice Bac Mac dac], Value.agg #[Value.bool s3, Value.slice A3 L3 c3, Value.slice B3 M3 d3]]); have hgd := ac; clear hgd; refine (radd_r (ac.rv.ext (by repeat' (first | with_reducible exact Ext.refl _ | with_reducible assumption | with_reducible apply Ext.alloc_r | with_reducible apply Ext.drew_r | with_reducible apply Ext.drewN_r | with_reducible refine Ext.trans ?_ ‹Ext _ _›))) (e3.ext (by repeat' (first | with_reducible exact Ext.refl _ | with_reducible assumption | with_reducible apply Ext.alloc_r | with_reducible apply Ext.drew_r | with_reducible apply Ext.drewN_r | with_reducible refine Ext.trans ?_ ‹Ext _ _›))) (by omega) (by omega)).mono ?_; rintro e w16 ⟨sad, Aad, cad, Lad, Bad, dad, Mad, rfl, ad, x16⟩)
                | (go_at_call_of 41 (#[Value.agg #[Value.bool s1, Value.slice A1 L1 c1, Value.slice B1 M1 d1], Value.agg #[Value.bool s2, Value.slice A2 L2 c2, Value.slice B2 M2 d2]]); have hgd := ab; clear hgd; refine (radd_r (e1.ext (by repeat' (first | with_reducible exact Ext.refl _ | with_reducible assumption | with_reducible apply Ext.alloc_r | with_reducible apply Ext.drew_r | with_reducible apply Ext.drewN_r | with_reducible refine Ext.trans ?_ ‹Ext _ _›))) (e2.ext (by repeat' (first | with_reducible exact Ext.refl _ | with_reducible assumption | with_reducible apply Ext.alloc_r | with_reducible apply Ext.drew_r | with_reducible apply Ext.drewN_r | with_reducible refine Ext.trans ?_ ‹Ext _ _›))) (by omega) (by omega)).mono ?_; rintro e w15 ⟨sac, Aac, cac, Lac, Bac, dac, Mac, rfl, ac, x15⟩)
                | (go_at_call_of 41 (#[Value.agg #[Value.bool s1, Value.slice A1 L1 c1, Value.slice B1 M1 d1], Value.agg #[Value.bool saa, Value.slice Aaa Laa caa, Value.slice Baa Maa daa]]); have hgd := aa; clear hgd; refine (radd_r (e1.ext (by repeat' (first | with_reducible exact Ext.refl _ | with_reducible assumption | with_reducible apply Ext.alloc_r | with_reducible apply Ext.drew_r | with_reducible apply Ext.drewN_r | with_reducible refine Ext.trans ?_ ‹Ext _ _›))) (aa.rv.ext (by repeat' (first | with_reducible exact Ext.refl _ | with_reducible assumption | with_reducible apply Ext.alloc_r | with_reducible apply Ext.drew_r | with_reducible apply Ext.drewN_r | with_reducible refine Ext.trans ?_ ‹Ext _ _›))) (by omega) (by omega)).mono ?_; rintro e w14 ⟨sab, Aab, cab, Lab, Bab, dab, Mab, rfl, ab, x14⟩)
                | (go_at_call_of 41 (#[Value.agg #[Value.bool s2, Value.slice A2 L2 c2, Value.slice B2 M2 d2], Value.agg #[Value.bool s3, Value.slice A3 L3 c3, Value.slice B3 M3 d3]]); refine (radd_r (e2.ext (by repeat' (first | with_reducible exact Ext.refl _ | with_reducible assumption | with_reducible apply Ext.alloc_r | with_reducible apply Ext.drew_r | with_reducible apply Ext.drewN_r | with_reducible refine Ext.trans ?_ ‹Ext _ _›))) (e3.ext (by repeat' (first | with_reducible exact Ext.refl _ | with_reducible assumption | with_reducible apply Ext.alloc_r | with_reducible apply Ext.drew_r | with_reducible apply Ext.drewN_r | with_reducible refine Ext.trans ?_ ‹Ext _ _›))) (by omega) (by omega)).mono ?_; rintro e w13 ⟨saa, Aaa, caa, Laa, Baa, daa, Maa, rfl, aa, x13⟩)
                | (go_at_call_of 42 (#[Value.agg #[Value.bool sleft, Value.slice Aleft Lleft cleft, Value.slice Bleft Mleft dleft], Value.agg #[Value.bool sright, Value.slice Aright Lright cright, Value.slice Bright Mright dright]]); refine (same_is (left.rv.ext (by repeat' (first | with_reducible exact Ext.refl _ | with_reducible assumption | with_reducible apply Ext.alloc_r | with_reducible apply Ext.drew_r | with_reducible apply Ext.drewN_r | with_reducible refine Ext.trans ?_ ‹Ext _ _›))) (right.rv.ext (by repeat' (first | with_reducible exact Ext.refl _ | with_reducible assumption | with_reducible apply Ext.alloc_r | with_reducible apply Ext.drew_r | with_reducible apply Ext.drewN_r | with_reducible refine Ext.trans ?_ ‹Ext _ _›))) (by omega) (by omega) (Rat.mul_add _ _ _)).mono ?_; rintro e w12 ⟨rfl, x12⟩))
          | fail
          clear HK
          have xh : Ext w11 w22 := (by repeat' (first | with_reducible exact Ext.refl _ | with_reducible assumption | with_reducible apply Ext.alloc_r | with_reducible apply Ext.drew_r | with_reducible apply Ext.drewN_r | with_reducible refine Ext.trans ?_ ‹Ext _ _›))
          replace e0_0 := xh.cell e0_0
          replace e0_1 := xh.cell e0_1
          replace e0_2 := xh.cell e0_2
          replace e1_0 := xh.cell e1_0
          replace e1_1 := xh.cell e1_1
          replace e1_2 := xh.cell e1_2
          replace e2_0 := xh.cell e2_0
          replace e2_1 := xh.cell e2_1
          replace e2_2 := xh.cell e2_2
          replace left_0 := xh.cell left_0
          replace left_1 := xh.cell left_1
          replace left_2 := xh.cell left_2
          replace right_0 := xh.cell right_0
          replace right_1 := xh.cell right_1
          replace right_2 := xh.cell right_2
          replace z_0 := xh.cell z_0
          replace z_1 := xh.cell z_1
          replace z_2 := xh.cell z_2
          clear xh
          go_wp2_with fail
          have HK : Hid (∀ w', Ext w22 w' → Ext w22 w' ∧ w'.cell? ⟨w.heap.size, 0, none⟩ = some (.bool s1) ∧ w'.cell? ⟨w.heap.size, 1, none⟩ = some (.slice A1 L1 c1) ∧ w'.cell? ⟨w.heap.size, 2, none⟩ = some (.slice B1 M1 d1) ∧ w'.cell? ⟨w.heap.size + 1, 0, none⟩ = some (.bool s2) ∧ w'.cell? ⟨w.heap.size + 1, 1, none⟩ = some (.slice A2 L2 c2) ∧ w'.cell? ⟨w.heap.size + 1, 2, none⟩ = some (.slice B2 M2 d2) ∧ w'.cell? ⟨w.heap.size + 1 + 1, 0, none⟩ = some (.bool s3) ∧ w'.cell? ⟨w.heap.size + 1 + 1, 1, none⟩ = some (.slice A3 L3 c3) ∧ w'.cell? ⟨w.heap.size + 1 + 1, 2, none⟩ = some (.slice B3 M3 d3) ∧ w'.cell? ⟨bkleft, 0, none⟩ = some (.bool sleft) ∧ w'.cell? ⟨bkleft, 1, none⟩ = some (.slice Aleft Lleft cleft) ∧ w'.cell? ⟨bkleft, 2, none⟩ = some (.slice Bleft Mleft dleft) ∧ w'.cell? ⟨bkright, 0, none⟩ = some (.bool sright) ∧ w'.cell? ⟨bkright, 1, none⟩ = some (.slice Aright Lright cright) ∧ w'.cell? ⟨bkright, 2, none⟩ = some (.slice Bright Mright dright) ∧ w'.cell? ⟨w10.heap.size, 0, none⟩ = some (.bool sz) ∧ w'.cell? ⟨w10.heap.size, 1, none⟩ = some (.slice Az Lz cz) ∧ w'.cell? ⟨w10.heap.size, 2, none⟩ = some (.slice Bz Mz dz)) := fun w' hk => ⟨hk, hk.cell e0_0, hk.cell e0_1, hk.cell e0_2, hk.cell e1_0, hk.cell e1_1, hk.cell e1_2, hk.cell e2_0, hk.cell e2_1, hk.cell e2_2, hk.cell left_0, hk.cell left_1, hk.cell left_2, hk.cell right_0, hk.cell right_1, hk.cell right_2, hk.cell z_0, hk.cell z_1, hk.cell z_2⟩
          first
          | go_region_held3 (fun w' => Ext w22 w' ∧ w'.cell? ⟨w.heap.size, 0, none⟩ = some (.bool s1) ∧ w'.cell? ⟨w.heap.size, 1, none⟩ = some (.slice A1 L1 c1) ∧ w'.cell? ⟨w.heap.size, 2, none⟩ = some (.slice B1 M1 d1) ∧ w'.cell? ⟨w.heap.size + 1, 0, none⟩ = some (.bool s2) ∧ w'.cell? ⟨w.heap.size + 1, 1, none⟩ = some (.slice A2 L2 c2) ∧ w'.cell? ⟨w.heap.size + 1, 2, none⟩ = some (.slice B2 M2 d2) ∧ w'.cell? ⟨w.heap.size + 1 + 1, 0, none⟩ = some (.bool s3) ∧ w'.cell? ⟨w.heap.size + 1 + 1, 1, none⟩ = some (.slice A3 L3 c3) ∧ w'.cell? ⟨w.heap.size + 1 + 1, 2, none⟩ = some (.slice B3 M3 d3) ∧ w'.cell? ⟨bkleft, 0, none⟩ = some (.bool sleft) ∧ w'.cell? ⟨bkleft, 1, none⟩ = some (.slice Aleft Lleft cleft) ∧ w'.cell? ⟨bkleft, 2, none⟩ = some (.slice Bleft Mleft dleft) ∧ w'.cell? ⟨bkright, 0, none⟩ = some (.bool sright) ∧ w'.cell? ⟨bkright, 1, none⟩ = some (.slice Aright Lright cright) ∧ w'.cell? ⟨bkright, 2, none⟩ = some (.slice Bright Mright dright) ∧ w'.cell? ⟨w10.heap.size, 0, none⟩ = some (.bool sz) ∧ w'.cell? ⟨w10.heap.size, 1, none⟩ = some (.slice Az Lz cz) ∧ w'.cell? ⟨w10.heap.size, 2, none⟩ = some (.slice Bz Mz dz))
              ((with_reducible refine HK.out _ ?_; (repeat' (first | with_reducible exact Ext.refl _ | with_reducible assumption | with_reducible apply Ext.alloc_r | with_reducible apply Ext.drew_r | with_reducible apply Ext.drewN_r | with_reducible refine Ext.trans ?_ ‹Ext _ _›))))
              (first
                | (go_at_call_of 42 (#[Value.agg #[Value.bool ska, Value.slice Aka Lka cka, Value.slice Bka Mka dka], Value.agg #[Value.bool s1, Value.slice A1 L1 c1, Value.slice B1 M1 d1]]); have hgd := ka; clear hgd; refine (same_is (ka.rv.ext (by repeat' (first | with_reducible exact Ext.refl _ | with_reducible assumption | with_reducible apply Ext.alloc_r | with_reducible apply Ext.drew_r | with_reducible apply Ext.drewN_r | with_reducible refine Ext.trans ?_ ‹Ext _ _›))) (e1.ext (by repeat' (first | with_reducible exact Ext.refl _ | with_reducible assumption | with_reducible apply Ext.alloc_r | with_reducible apply Ext.drew_r | with_reducible apply Ext.drewN_r | with_reducible refine Ext.trans ?_ ‹Ext _ _›))) (by omega) (by omega) (HQ.out)).mono ?_; rintro e w25 ⟨rfl, x25⟩)
                | (go_at_call_of 40 (#[Value.agg #[Value.bool sz, Value.slice Az Lz cz, Value.slice Bz Mz dz], Value.agg #[Value.bool s2, Value.slice A2 L2 c2, Value.slice B2 M2 d2]]); refine (rmul_r (z.rv.ext (by repeat' (first | with_reducible exact Ext.refl _ | with_reducible assumption | with_reducible apply Ext.alloc_r | with_reducible apply Ext.drew_r | with_reducible apply Ext.drewN_r | with_reducible refine Ext.trans ?_ ‹Ext _ _›))) (e2.ext (by repeat' (first | with_reducible exact Ext.refl _ | with_reducible assumption | with_reducible apply Ext.alloc_r | with_reducible apply Ext.drew_r | with_reducible apply Ext.drewN_r | with_reducible refine Ext.trans ?_ ‹Ext _ _›))) (by omega) (by omega)).mono ?_; rintro e w24 ⟨ska, Aka, cka, Lka, Bka, dka, Mka, rfl, ka, x24⟩)
                | (go_at_call_of 23 (#[Value.agg #[Value.bool s2, Value.slice A2 L2 c2, Value.slice B2 M2 d2]]); refine (rsign_is (k := U) (e2.ext (by repeat' (first | with_reducible exact Ext.refl _ | with_reducible assumption | with_reducible apply Ext.alloc_r | with_reducible apply Ext.drew_r | with_reducible apply Ext.drewN_r | with_reducible refine Ext.trans ?_ ‹Ext _ _›))) (HU.out.symm)).mono ?_; rintro e w23 ⟨rfl, x23⟩))
          | fail
          clear HK
          have xh : Ext w22 w25 := (by repeat' (first | with_reducible exact Ext.refl _ | with_reducible assumption | with_reducible apply Ext.alloc_r | with_reducible apply Ext.drew_r | with_reducible apply Ext.drewN_r | with_reducible refine Ext.trans ?_ ‹Ext _ _›))
          replace e0_0 := xh.cell e0_0
          replace e0_1 := xh.cell e0_1
          replace e0_2 := xh.cell e0_2
          replace e1_0 := xh.cell e1_0
          replace e1_1 := xh.cell e1_1
          replace e1_2 := xh.cell e1_2
          replace e2_0 := xh.cell e2_0
          replace e2_1 := xh.cell e2_1
          replace e2_2 := xh.cell e2_2
          replace left_0 := xh.cell left_0
          replace left_1 := xh.cell left_1
          replace left_2 := xh.cell left_2
          replace right_0 := xh.cell right_0
          replace right_1 := xh.cell right_1
          replace right_2 := xh.cell right_2
          replace z_0 := xh.cell z_0
          replace z_1 := xh.cell z_1
          replace z_2 := xh.cell z_2
          clear xh
          go_wp2_with fail
          refine (rcmp_is (k := K) (e1.ext (by repeat' (first | with_reducible exact Ext.refl _ | with_reducible assumption | with_reducible apply Ext.alloc_r | with_reducible apply Ext.drew_r | with_reducible apply Ext.drewN_r | with_reducible refine Ext.trans ?_ ‹Ext _ _›))) (e2.ext (by repeat' (first | with_reducible exact Ext.refl _ | with_reducible assumption | with_reducible apply Ext.alloc_r | with_reducible apply Ext.drew_r | with_reducible apply Ext.drewN_r | with_reducible refine Ext.trans ?_ ‹Ext _ _›))) (by omega) (by omega) HK.out.symm).mono ?_
          rintro e w26 ⟨rfl, x26⟩
          replace e0_0 := x26.cell e0_0
          replace e0_1 := x26.cell e0_1
          replace e0_2 := x26.cell e0_2
          replace e1_0 := x26.cell e1_0
          replace e1_1 := x26.cell e1_1
          replace e1_2 := x26.cell e1_2
          replace e2_0 := x26.cell e2_0
          replace e2_1 := x26.cell e2_1
          replace e2_2 := x26.cell e2_2
          replace left_0 := x26.cell left_0
          replace left_1 := x26.cell left_1
          replace left_2 := x26.cell left_2
          replace right_0 := x26.cell right_0
          replace right_1 := x26.cell right_1
          replace right_2 := x26.cell right_2
          replace z_0 := x26.cell z_0
          replace z_1 := x26.cell z_1
          replace z_2 := x26.cell z_2
          go_wp2_with fail
          have HK : Hid (∀ w', Ext w26 w' → Ext w26 w' ∧ w'.cell? ⟨w.heap.size, 0, none⟩ = some (.bool s1) ∧ w'.cell? ⟨w.heap.size, 1, none⟩ = some (.slice A1 L1 c1) ∧ w'.cell? ⟨w.heap.size, 2, none⟩ = some (.slice B1 M1 d1) ∧ w'.cell? ⟨w.heap.size + 1, 0, none⟩ = some (.bool s2) ∧ w'.cell? ⟨w.heap.size + 1, 1, none⟩ = some (.slice A2 L2 c2) ∧ w'.cell? ⟨w.heap.size + 1, 2, none⟩ = some (.slice B2 M2 d2) ∧ w'.cell? ⟨w.heap.size + 1 + 1, 0, none⟩ = some (.bool s3) ∧ w'.cell? ⟨w.heap.size + 1 + 1, 1, none⟩ = some (.slice A3 L3 c3) ∧ w'.cell? ⟨w.heap.size + 1 + 1, 2, none⟩ = some (.slice B3 M3 d3) ∧ w'.cell? ⟨bkleft, 0, none⟩ = some (.bool sleft) ∧ w'.cell? ⟨bkleft, 1, none⟩ = some (.slice Aleft Lleft cleft) ∧ w'.cell? ⟨bkleft, 2, none⟩ = some (.slice Bleft Mleft dleft) ∧ w'.cell? ⟨bkright, 0, none⟩ = some (.bool sright) ∧ w'.cell? ⟨bkright, 1, none⟩ = some (.slice Aright Lright cright) ∧ w'.cell? ⟨bkright, 2, none⟩ = some (.slice Bright Mright dright) ∧ w'.cell? ⟨w10.heap.size, 0, none⟩ = some (.bool sz) ∧ w'.cell? ⟨w10.heap.size, 1, none⟩ = some (.slice Az Lz cz) ∧ w'.cell? ⟨w10.heap.size, 2, none⟩ = some (.slice Bz Mz dz)) := fun w' hk => ⟨hk, hk.cell e0_0, hk.cell e0_1, hk.cell e0_2, hk.cell e1_0, hk.cell e1_1, hk.cell e1_2, hk.cell e2_0, hk.cell e2_1, hk.cell e2_2, hk.cell left_0, hk.cell left_1, hk.cell left_2, hk.cell right_0, hk.cell right_1, hk.cell right_2, hk.cell z_0, hk.cell z_1, hk.cell z_2⟩
          try dsimp only [List.append]
          first
          | go_region_held3 (fun w' => Ext w26 w' ∧ w'.cell? ⟨w.heap.size, 0, none⟩ = some (.bool s1) ∧ w'.cell? ⟨w.heap.size, 1, none⟩ = some (.slice A1 L1 c1) ∧ w'.cell? ⟨w.heap.size, 2, none⟩ = some (.slice B1 M1 d1) ∧ w'.cell? ⟨w.heap.size + 1, 0, none⟩ = some (.bool s2) ∧ w'.cell? ⟨w.heap.size + 1, 1, none⟩ = some (.slice A2 L2 c2) ∧ w'.cell? ⟨w.heap.size + 1, 2, none⟩ = some (.slice B2 M2 d2) ∧ w'.cell? ⟨w.heap.size + 1 + 1, 0, none⟩ = some (.bool s3) ∧ w'.cell? ⟨w.heap.size + 1 + 1, 1, none⟩ = some (.slice A3 L3 c3) ∧ w'.cell? ⟨w.heap.size + 1 + 1, 2, none⟩ = some (.slice B3 M3 d3) ∧ w'.cell? ⟨bkleft, 0, none⟩ = some (.bool sleft) ∧ w'.cell? ⟨bkleft, 1, none⟩ = some (.slice Aleft Lleft cleft) ∧ w'.cell? ⟨bkleft, 2, none⟩ = some (.slice Bleft Mleft dleft) ∧ w'.cell? ⟨bkright, 0, none⟩ = some (.bool sright) ∧ w'.cell? ⟨bkright, 1, none⟩ = some (.slice Aright Lright cright) ∧ w'.cell? ⟨bkright, 2, none⟩ = some (.slice Bright Mright dright) ∧ w'.cell? ⟨w10.heap.size, 0, none⟩ = some (.bool sz) ∧ w'.cell? ⟨w10.heap.size, 1, none⟩ = some (.slice Az Lz cz) ∧ w'.cell? ⟨w10.heap.size, 2, none⟩ = some (.slice Bz Mz dz))
              ((with_reducible refine HK.out _ ?_; (repeat' (first | with_reducible exact Ext.refl _ | with_reducible assumption | with_reducible apply Ext.alloc_r | with_reducible apply Ext.drew_r | with_reducible apply Ext.drewN_r | with_reducible refine Ext.trans ?_ ‹Ext _ _›))))
              (first
                | (go_at_call_of 23 (#[Value.agg #[Value.bool ssa, Value.slice Asa Lsa csa, Value.slice Bsa Msa dsa]]); have hgd := sa; clear hgd; refine (rsign_is (k := K) (sa.rv.ext (by repeat' (first | with_reducible exact Ext.refl _ | with_reducible assumption | with_reducible apply Ext.alloc_r | with_reducible apply Ext.drew_r | with_reducible apply Ext.drewN_r | with_reducible refine Ext.trans ?_ ‹Ext _ _›))) (HS.out)).mono ?_; rintro e w35 ⟨rfl, x35⟩)
                | (go_at_call_of 44 (#[Value.agg #[Value.bool s1, Value.slice A1 L1 c1, Value.slice B1 M1 d1], Value.agg #[Value.bool s2, Value.slice A2 L2 c2, Value.slice B2 M2 d2]]); have hgd := nb; clear hgd; refine (rsub_r (e1.ext (by repeat' (first | with_reducible exact Ext.refl _ | with_reducible assumption | with_reducible apply Ext.alloc_r | with_reducible apply Ext.drew_r | with_reducible apply Ext.drewN_r | with_reducible refine Ext.trans ?_ ‹Ext _ _›))) (e2.ext (by repeat' (first | with_reducible exact Ext.refl _ | with_reducible assumption | with_reducible apply Ext.alloc_r | with_reducible apply Ext.drew_r | with_reducible apply Ext.drewN_r | with_reducible refine Ext.trans ?_ ‹Ext _ _›))) (by omega) (by omega)).mono ?_; rintro e w34 ⟨ssa, Asa, csa, Lsa, Bsa, dsa, Msa, rfl, sa, x34⟩)
                | (go_at_call_of 23 (#[Value.agg #[Value.bool s3, Value.slice A3 L3 c3, Value.slice B3 M3 d3]]); have hgd := nb; clear hgd; refine (rsign_is (k := T) (e3.ext (by repeat' (first | with_reducible exact Ext.refl _ | with_reducible assumption | with_reducible apply Ext.alloc_r | with_reducible apply Ext.drew_r | with_reducible apply Ext.drewN_r | with_reducible refine Ext.trans ?_ ‹Ext _ _›))) (HT.out.symm)).mono ?_; rintro e w33 ⟨rfl, x33⟩)
                | (go_at_call_of 43 (#[Value.agg #[Value.bool sna, Value.slice Ana Lna cna, Value.slice Bna Mna dna], Value.agg #[Value.bool snb, Value.slice Anb Lnb cnb, Value.slice Bnb Mnb dnb]]); have hgd := nb; clear hgd; refine (rcmp_is (k := P) (na.rv.ext (by repeat' (first | with_reducible exact Ext.refl _ | with_reducible assumption | with_reducible apply Ext.alloc_r | with_reducible apply Ext.drew_r | with_reducible apply Ext.drewN_r | with_reducible refine Ext.trans ?_ ‹Ext _ _›))) (nb.rv.ext (by repeat' (first | with_reducible exact Ext.refl _ | with_reducible assumption | with_reducible apply Ext.alloc_r | with_reducible apply Ext.drew_r | with_reducible apply Ext.drewN_r | with_reducible refine Ext.trans ?_ ‹Ext _ _›))) (by omega) (by omega) (HM.out)).mono ?_; rintro e w32 ⟨rfl, x32⟩)
                | (go_at_call_of 40 (#[Value.agg #[Value.bool s2, Value.slice A2 L2 c2, Value.slice B2 M2 d2], Value.agg #[Value.bool s3, Value.slice A3 L3 c3, Value.slice B3 M3 d3]]); have hgd := na; clear hgd; refine (rmul_r (e2.ext (by repeat' (first | with_reducible exact Ext.refl _ | with_reducible assumption | with_reducible apply Ext.alloc_r | with_reducible apply Ext.drew_r | with_reducible apply Ext.drewN_r | with_reducible refine Ext.trans ?_ ‹Ext _ _›))) (e3.ext (by repeat' (first | with_reducible exact Ext.refl _ | with_reducible assumption | with_reducible apply Ext.alloc_r | with_reducible apply Ext.drew_r | with_reducible apply Ext.drewN_r | with_reducible refine Ext.trans ?_ ‹Ext _ _›))) (by omega) (by omega)).mono ?_; rintro e w31 ⟨snb, Anb, cnb, Lnb, Bnb, dnb, Mnb, rfl, nb, x31⟩)
                | (go_at_call_of 40 (#[Value.agg #[Value.bool s1, Value.slice A1 L1 c1, Value.slice B1 M1 d1], Value.agg #[Value.bool s3, Value.slice A3 L3 c3, Value.slice B3 M3 d3]]); have hgd := pb; clear hgd; refine (rmul_r (e1.ext (by repeat' (first | with_reducible exact Ext.refl _ | with_reducible assumption | with_reducible apply Ext.alloc_r | with_reducible apply Ext.drew_r | with_reducible apply Ext.drewN_r | with_reducible refine Ext.trans ?_ ‹Ext _ _›))) (e3.ext (by repeat' (first | with_reducible exact Ext.refl _ | with_reducible assumption | with_reducible apply Ext.alloc_r | with_reducible apply Ext.drew_r | with_reducible apply Ext.drewN_r | with_reducible refine Ext.trans ?_ ‹Ext _ _›))) (by omega) (by omega)).mono ?_; rintro e w30 ⟨sna, Ana, cna, Lna, Bna, dna, Mna, rfl, na, x30⟩)
                | (go_at_call_of 43 (#[Value.agg #[Value.bool spa, Value.slice Apa Lpa cpa, Value.slice Bpa Mpa dpa], Value.agg #[Value.bool spb, Value.slice Apb Lpb cpb, Value.slice Bpb Mpb dpb]]); have hgd := pb; clear hgd; refine (rcmp_is (k := K) (pa.rv.ext (by repeat' (first | with_reducible exact Ext.refl _ | with_reducible assumption | with_reducible apply Ext.alloc_r | with_reducible apply Ext.drew_r | with_reducible apply Ext.drewN_r | with_reducible refine Ext.trans ?_ ‹Ext _ _›))) (pb.rv.ext (by repeat' (first | with_reducible exact Ext.refl _ | with_reducible assumption | with_reducible apply Ext.alloc_r | with_reducible apply Ext.drew_r | with_reducible apply Ext.drewN_r | with_reducible refine Ext.trans ?_ ‹Ext _ _›))) (by omega) (by omega) (HA.out)).mono ?_; rintro e w29 ⟨rfl, x29⟩)
                | (go_at_call_of 41 (#[Value.agg #[Value.bool s2, Value.slice A2 L2 c2, Value.slice B2 M2 d2], Value.agg #[Value.bool s3, Value.slice A3 L3 c3, Value.slice B3 M3 d3]]); have hgd := pa; clear hgd; refine (radd_r (e2.ext (by repeat' (first | with_reducible exact Ext.refl _ | with_reducible assumption | with_reducible apply Ext.alloc_r | with_reducible apply Ext.drew_r | with_reducible apply Ext.drewN_r | with_reducible refine Ext.trans ?_ ‹Ext _ _›))) (e3.ext (by repeat' (first | with_reducible exact Ext.refl _ | with_reducible assumption | with_reducible apply Ext.alloc_r | with_reducible apply Ext.drew_r | with_reducible apply Ext.drewN_r | with_reducible refine Ext.trans ?_ ‹Ext _ _›))) (by omega) (by omega)).mono ?_; rintro e w28 ⟨spb, Apb, cpb, Lpb, Bpb, dpb, Mpb, rfl, pb, x28⟩)
                | (go_at_call_of 41 (#[Value.agg #[Value.bool s1, Value.slice A1 L1 c1, Value.slice B1 M1 d1], Value.agg #[Value.bool s3, Value.slice A3 L3 c3, Value.slice B3 M3 d3]]); refine (radd_r (e1.ext (by repeat' (first | with_reducible exact Ext.refl _ | with_reducible assumption | with_reducible apply Ext.alloc_r | with_reducible apply Ext.drew_r | with_reducible apply Ext.drewN_r | with_reducible refine Ext.trans ?_ ‹Ext _ _›))) (e3.ext (by repeat' (first | with_reducible exact Ext.refl _ | with_reducible assumption | with_reducible apply Ext.alloc_r | with_reducible apply Ext.drew_r | with_reducible apply Ext.drewN_r | with_reducible refine Ext.trans ?_ ‹Ext _ _›))) (by omega) (by omega)).mono ?_; rintro e w27 ⟨spa, Apa, cpa, Lpa, Bpa, dpa, Mpa, rfl, pa, x27⟩))
          | fail
          clear HK
          have xh : Ext w26 w35 := (by repeat' (first | with_reducible exact Ext.refl _ | with_reducible assumption | with_reducible apply Ext.alloc_r | with_reducible apply Ext.drew_r | with_reducible apply Ext.drewN_r | with_reducible refine Ext.trans ?_ ‹Ext _ _›))
          replace e0_0 := xh.cell e0_0
          replace e0_1 := xh.cell e0_1
          replace e0_2 := xh.cell e0_2
          replace e1_0 := xh.cell e1_0
          replace e1_1 := xh.cell e1_1
          replace e1_2 := xh.cell e1_2
          replace e2_0 := xh.cell e2_0
          replace e2_1 := xh.cell e2_1
          replace e2_2 := xh.cell e2_2
          replace left_0 := xh.cell left_0
          replace left_1 := xh.cell left_1
          replace left_2 := xh.cell left_2
          replace right_0 := xh.cell right_0
          replace right_1 := xh.cell right_1
          replace right_2 := xh.cell right_2
          replace z_0 := xh.cell z_0
          replace z_1 := xh.cell z_1
          replace z_2 := xh.cell z_2
          clear xh
          go_wp2_with fail
          go_ret
          exact ⟨rfl, (by repeat' (first | with_reducible exact Ext.refl _ | with_reducible assumption | with_reducible apply Ext.alloc_r | with_reducible apply Ext.drew_r | with_reducible apply Ext.drewN_r | with_reducible refine Ext.trans ?_ ‹Ext _ _›))⟩
  · have HF : Hid (((decide (L1 ≤ 3) && (decide (M1 ≤ 3) && decide (L2 ≤ 3))) && (decide (M2 ≤ 3) && (decide (L3 ≤ 3) && decide (M3 ≤ 3)))) = false) := by show _ = _; rw [Bool.eq_false_iff]; simp only [ne_eq, decide_eq_true_eq, Bool.and_eq_true]; omega
    clear hf
    go_enter Try.func6, Try.ntmps6
    go_wp2_with fail
    obtain ⟨w0, hw0⟩ : ∃ z : World, z = (((w.alloc (.cells #[.bool s1, .slice A1 L1 c1, .slice B1 M1 d1] 27)).alloc (.cells #[.bool s2, .slice A2 L2 c2, .slice B2 M2 d2] 27)).alloc (.cells #[.bool s3, .slice A3 L3 c3, .slice B3 M3 d3] 27)) := ⟨_, rfl⟩
    rw [← hw0]
    have b0 := box_at w #[.bool s1, .slice A1 L1 c1, .slice B1 M1 d1] 27
    have b1 := box_at (w.alloc (.cells #[.bool s1, .slice A1 L1 c1, .slice B1 M1 d1] 27)) #[.bool s2, .slice A2 L2 c2, .slice B2 M2 d2] 27
    have b2 := box_at ((w.alloc (.cells #[.bool s1, .slice A1 L1 c1, .slice B1 M1 d1] 27)).alloc (.cells #[.bool s2, .slice A2 L2 c2, .slice B2 M2 d2] 27)) #[.bool s3, .slice A3 L3 c3, .slice B3 M3 d3] 27
    have hsz : w0.heap.size = w.heap.size + 1 + 1 + 1 := by rw [hw0]; simp
    rw [← hw0] at b2
    have y2 : Ext ((w.alloc (.cells #[.bool s1, .slice A1 L1 c1, .slice B1 M1 d1] 27)).alloc (.cells #[.bool s2, .slice A2 L2 c2, .slice B2 M2 d2] 27)) w0 := by rw [hw0]; exact Ext.alloc _ _
    have y1 : Ext (w.alloc (.cells #[.bool s1, .slice A1 L1 c1, .slice B1 M1 d1] 27)) w0 := (Ext.alloc _ _).trans y2
    have y0 : Ext w w0 := (Ext.alloc _ _).trans y1
    have x0 : Ext w w0 := y0
    have e0_0 := y1.cell (b0.1 0 (.bool s1) rfl)
    have e0_1 := y1.cell (b0.1 1 (.slice A1 L1 c1) rfl)
    have e0_2 := y1.cell (b0.1 2 (.slice B1 M1 d1) rfl)
    have e1_0 := y2.cell (b1.1 0 (.bool s2) rfl)
    have e1_1 := y2.cell (b1.1 1 (.slice A2 L2 c2) rfl)
    have e1_2 := y2.cell (b1.1 2 (.slice B2 M2 d2) rfl)
    have e2_0 := b2.1 0 (.bool s3) rfl
    have e2_1 := b2.1 1 (.slice A3 L3 c3) rfl
    have e2_2 := b2.1 2 (.slice B3 M3 d3) rfl
    simp only [World.size_alloc] at e1_0 e1_1 e1_2 e2_0 e2_1 e2_2
    clear hw0 b0 b1 b2 y0 y1 y2
    go_wp2_with fail
    refine (awake5 _).mono ?_
    rintro e w1 ⟨rfl, x1⟩
    replace e0_0 := x1.cell e0_0
    replace e0_1 := x1.cell e0_1
    replace e0_2 := x1.cell e0_2
    replace e1_0 := x1.cell e1_0
    replace e1_1 := x1.cell e1_1
    replace e1_2 := x1.cell e1_2
    replace e2_0 := x1.cell e2_0
    replace e2_1 := x1.cell e2_1
    replace e2_2 := x1.cell e2_2
    go_wp2_with fail
    refine (few5 (n := 3) (by omega) (by omega) (by omega) (by omega) (by omega) (by omega)).mono ?_
    rintro e w2 ⟨rfl, x2⟩
    replace e0_0 := x2.cell e0_0
    replace e0_1 := x2.cell e0_1
    replace e0_2 := x2.cell e0_2
    replace e1_0 := x2.cell e1_0
    replace e1_1 := x2.cell e1_1
    replace e1_2 := x2.cell e1_2
    replace e2_0 := x2.cell e2_0
    replace e2_1 := x2.cell e2_1
    replace e2_2 := x2.cell e2_2
    rw [HF.out]
    clear hsz
    go_wp2_with fail
    refine (awake5 _).mono ?_
    rintro e w3 ⟨rfl, x3⟩
    replace e0_0 := x3.cell e0_0
    replace e0_1 := x3.cell e0_1
    replace e0_2 := x3.cell e0_2
    replace e1_0 := x3.cell e1_0
    replace e1_1 := x3.cell e1_1
    replace e1_2 := x3.cell e1_2
    replace e2_0 := x3.cell e2_0
    replace e2_1 := x3.cell e2_1
    replace e2_2 := x3.cell e2_2
    go_wp2_with fail
    go_ret
    exact ⟨rfl, (by repeat' (first | with_reducible exact Ext.refl _ | with_reducible assumption | with_reducible apply Ext.alloc_r | with_reducible apply Ext.drew_r | with_reducible apply Ext.drewN_r | with_reducible refine Ext.trans ?_ ‹Ext _ _›))⟩
end Go.Proofs.Ytfnmbhjifdfibaa
