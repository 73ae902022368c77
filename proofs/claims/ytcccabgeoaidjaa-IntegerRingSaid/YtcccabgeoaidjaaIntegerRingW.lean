/- The walk of IntegerRing. -/
import Derived.Test.YtcccabgeoaidjaaLaw2b
import Derived.Test.YtcccabgeoaidjaaIntD
import Derived.Test.YtcccabgeoaidjaaKept
namespace Go.Proofs.Ytcccabgeoaidjaa
open Go.RowKit
set_option maxHeartbeats 40000000 in
set_option maxRecDepth 100000 in
theorem integerRing_walk {w : World} {s1 : Bool} {A1 : Option Addr} {c1 L1 : Nat} {z1 : Int} {s2 : Bool} {A2 : Option Addr} {c2 L2 : Nat} {z2 : Int} {s3 : Bool} {A3 : Option Addr} {c3 L3 : Nat} {z3 : Int} (h1 : ZV w s1 A1 c1 L1 z1) (h2 : ZV w s2 A2 c2 L2 z2) (h3 : ZV w s3 A3 c3 L3 z3) :
    Calls Try.prog 6 #[.agg #[.bool s1, .slice A1 L1 c1], .agg #[.bool s2, .slice A2 L2 c2], .agg #[.bool s3, .slice A3 L3 c3]] w fun e w' => e = .returned (.bool true) ∧ Ext w w' := by
  have p1 := h1.nv.cap
  have q1 := h1.nv.le
  have p2 := h2.nv.cap
  have q2 := h2.nv.le
  have p3 := h3.nv.cap
  have q3 := h3.nv.le
  by_cases hf : (decide (L1 ≤ 6) && (decide (L2 ≤ 6) && decide (L3 ≤ 6))) = true
  · skip
    have k1 := hf
    simp only [Bool.and_eq_true, decide_eq_true_eq] at k1
    have HF := Lib.hid hf
    clear hf
    go_enter Try.func6, Try.ntmps6
    go_wp2_with fail
    obtain ⟨w0, hw0⟩ : ∃ z : World, z = (((w.alloc (.cells #[.bool s1, .slice A1 L1 c1] 25)).alloc (.cells #[.bool s2, .slice A2 L2 c2] 25)).alloc (.cells #[.bool s3, .slice A3 L3 c3] 25)) := ⟨_, rfl⟩
    rw [← hw0]
    have b0 := box_at w #[.bool s1, .slice A1 L1 c1] 25
    have b1 := box_at (w.alloc (.cells #[.bool s1, .slice A1 L1 c1] 25)) #[.bool s2, .slice A2 L2 c2] 25
    have b2 := box_at ((w.alloc (.cells #[.bool s1, .slice A1 L1 c1] 25)).alloc (.cells #[.bool s2, .slice A2 L2 c2] 25)) #[.bool s3, .slice A3 L3 c3] 25
    have hsz : w0.heap.size = w.heap.size + 1 + 1 + 1 := by rw [hw0]; simp
    rw [← hw0] at b2
    have y2 : Ext ((w.alloc (.cells #[.bool s1, .slice A1 L1 c1] 25)).alloc (.cells #[.bool s2, .slice A2 L2 c2] 25)) w0 := by rw [hw0]; exact Ext.alloc _ _
    have y1 : Ext (w.alloc (.cells #[.bool s1, .slice A1 L1 c1] 25)) w0 := (Ext.alloc _ _).trans y2
    have y0 : Ext w w0 := (Ext.alloc _ _).trans y1
    have x0 : Ext w w0 := y0
    have e0_0 := y1.cell (b0.1 0 (.bool s1) rfl)
    have e0_1 := y1.cell (b0.1 1 (.slice A1 L1 c1) rfl)
    have e1_0 := y2.cell (b1.1 0 (.bool s2) rfl)
    have e1_1 := y2.cell (b1.1 1 (.slice A2 L2 c2) rfl)
    have e2_0 := b2.1 0 (.bool s3) rfl
    have e2_1 := b2.1 1 (.slice A3 L3 c3) rfl
    simp only [World.size_alloc] at e1_0 e1_1 e2_0 e2_1
    clear hw0 b0 b1 b2 y0 y1 y2
    go_wp2_with fail
    refine (lawake_z _).mono ?_
    rintro e w1 ⟨rfl, x1⟩
    replace e0_0 := x1.cell e0_0
    replace e0_1 := x1.cell e0_1
    replace e1_0 := x1.cell e1_0
    replace e1_1 := x1.cell e1_1
    replace e2_0 := x1.cell e2_0
    replace e2_1 := x1.cell e2_1
    go_wp2_with fail
    refine (lfew_z (n := 6) (by omega) (by omega) (by omega)).mono ?_
    rintro e w2 ⟨rfl, x2⟩
    replace e0_0 := x2.cell e0_0
    replace e0_1 := x2.cell e0_1
    replace e1_0 := x2.cell e1_0
    replace e1_1 := x2.cell e1_1
    replace e2_0 := x2.cell e2_0
    replace e2_1 := x2.cell e2_1
    rw [HF.out]
    clear hsz
    have d1 : dl z1.natAbs ≤ 6 := Nat.le_trans h1.nv.dl (by omega)
    have l1 : bl z1.natAbs ≤ 192 := Nat.le_trans h1.nv.bl (by omega)
    have d2 : dl z2.natAbs ≤ 6 := Nat.le_trans h2.nv.dl (by omega)
    have l2 : bl z2.natAbs ≤ 192 := Nat.le_trans h2.nv.bl (by omega)
    have d3 : dl z3.natAbs ≤ 6 := Nat.le_trans h3.nv.dl (by omega)
    have l3 : bl z3.natAbs ≤ 192 := Nat.le_trans h3.nv.bl (by omega)
    have : dl (z1 + z2).natAbs ≤ 7 := by have := dlz_add (z1) (z2); omega
    have : dl (z2 + z1).natAbs ≤ 7 := by have := dlz_add (z2) (z1); omega
    have : dl (z2 + z3).natAbs ≤ 7 := by have := dlz_add (z2) (z3); omega
    have : dl (z1 * z2).natAbs ≤ 12 := by have := dlz_mul (z1) (z2); omega
    have : dl (z2 * z1).natAbs ≤ 12 := by have := dlz_mul (z2) (z1); omega
    have : dl (z1 * z3).natAbs ≤ 12 := by have := dlz_mul (z1) (z3); omega
    have : dl (z2 * z3).natAbs ≤ 12 := by have := dlz_mul (z2) (z3); omega
    have : dl (z1 * (z2 + z3)).natAbs ≤ 20 := by have := dlz_mul (z1) ((z2 + z3)); omega
    have : dl ((z1 * z2) + (z1 * z3)).natAbs ≤ 20 := by have := dlz_add ((z1 * z2)) ((z1 * z3)); omega
    have e1 : dl (1 : Int).natAbs ≤ 1 := dl_le (by unfold B32; decide)
    have e0 : dl (0 : Int).natAbs ≤ 1 := dl_le (by unfold B32; decide)
    go_wp2_with fail
    go_cut [7] (fun s7 wx => PutZ w2 wx (z1 * (z2 + z3)) s7)
    case first =>
      have HK : Hid (∀ w', Ext w2 w' → Ext w2 w' ∧ w'.cell? ⟨w.heap.size, 0, none⟩ = some (.bool s1) ∧ w'.cell? ⟨w.heap.size, 1, none⟩ = some (.slice A1 L1 c1) ∧ w'.cell? ⟨w.heap.size + 1, 0, none⟩ = some (.bool s2) ∧ w'.cell? ⟨w.heap.size + 1, 1, none⟩ = some (.slice A2 L2 c2) ∧ w'.cell? ⟨w.heap.size + 1 + 1, 0, none⟩ = some (.bool s3) ∧ w'.cell? ⟨w.heap.size + 1 + 1, 1, none⟩ = some (.slice A3 L3 c3)) := fun w' hk => ⟨hk, hk.cell e0_0, hk.cell e0_1, hk.cell e1_0, hk.cell e1_1, hk.cell e2_0, hk.cell e2_1⟩
      go_region_held3 (fun w' => Ext w2 w' ∧ w'.cell? ⟨w.heap.size, 0, none⟩ = some (.bool s1) ∧ w'.cell? ⟨w.heap.size, 1, none⟩ = some (.slice A1 L1 c1) ∧ w'.cell? ⟨w.heap.size + 1, 0, none⟩ = some (.bool s2) ∧ w'.cell? ⟨w.heap.size + 1, 1, none⟩ = some (.slice A2 L2 c2) ∧ w'.cell? ⟨w.heap.size + 1 + 1, 0, none⟩ = some (.bool s3) ∧ w'.cell? ⟨w.heap.size + 1 + 1, 1, none⟩ = some (.slice A3 L3 c3))
        ((refine HK.out _ ?_; (repeat' (first | with_reducible exact Ext.refl _ | with_reducible assumption | with_reducible apply Ext.alloc_r | with_reducible apply Ext.drew_r | with_reducible apply Ext.set_r | with_reducible exact Nat.le_refl _ | omega | with_reducible refine Ext.trans ?_ ‹Ext _ _›))))
        (first
          | (go_at_call_of 17 (#[Value.agg #[Value.bool s1, Value.slice A1 L1 c1], Value.agg #[Value.bool sl1, Value.slice Al1 Ll1 cl1]]); have hgd := l1; clear hgd; refine (mul_z (h1.ext (by repeat' (first | with_reducible exact Ext.refl _ | with_reducible assumption | with_reducible apply Ext.alloc_r | with_reducible apply Ext.drew_r | with_reducible refine Ext.trans ?_ ‹Ext _ _›))) (l1.zv.ext (by repeat' (first | with_reducible exact Ext.refl _ | with_reducible assumption | with_reducible apply Ext.alloc_r | with_reducible apply Ext.drew_r | with_reducible refine Ext.trans ?_ ‹Ext _ _›))) (by omega) (by omega)).mono ?_; rintro e w4 ⟨sl2, Al2, cl2, Ll2, rfl, l2, x4⟩; (have zs4 := x4.size); (try simp only [World.size_alloc] at zs4); (try ((with_reducible have h4_0 := box_ext (vs := #[.bool false, .slice none 0 0]) x4); have h4_0c0 := (h4_0.1 0 (.bool false) rfl).1; have h4_0f0 := (h4_0.1 0 (.bool false) rfl).2; have h4_0c1 := (h4_0.1 1 (.slice none 0 0) rfl).1; have h4_0f1 := (h4_0.1 1 (.slice none 0 0) rfl).2; have h4_0b := h4_0.2.1; have h4_0z := h4_0.2.2; (try simp only [World.size_alloc] at h4_0b h4_0z h4_0c0 h4_0f0 h4_0c1 h4_0f1); have h4_0m := Nat.ne_of_lt h4_0z; have h4_0n := Nat.ne_of_gt h4_0z; clear h4_0)); (try (have hh : Ext w3 w4 := ?g400; (case g400 => ((repeat' (first | with_reducible exact Ext.refl _ | with_reducible assumption | with_reducible apply Ext.alloc_r | with_reducible apply Ext.drew_r | with_reducible refine Ext.trans ?_ ‹Ext _ _›)); done)); replace h3_0f0 := hh.frozen h3_0c0 h3_0f0; replace h3_0c0 := hh.cell h3_0c0; replace h3_0f1 := hh.frozen h3_0c1 h3_0f1; replace h3_0c1 := hh.cell h3_0c1; replace h3_0b := h3_0b.ext hh; have h3_0z2 := Nat.lt_of_lt_of_le h3_0z hh.size; have h3_0m2 := Nat.ne_of_lt h3_0z2; have h3_0n2 := Nat.ne_of_gt h3_0z2; clear hh)))
          | (go_at_call_of 25 (#[Value.agg #[Value.bool s2, Value.slice A2 L2 c2], Value.agg #[Value.bool s3, Value.slice A3 L3 c3]]); refine (add_z (h2.ext (by repeat' (first | with_reducible exact Ext.refl _ | with_reducible assumption | with_reducible apply Ext.alloc_r | with_reducible apply Ext.drew_r | with_reducible refine Ext.trans ?_ ‹Ext _ _›))) (h3.ext (by repeat' (first | with_reducible exact Ext.refl _ | with_reducible assumption | with_reducible apply Ext.alloc_r | with_reducible apply Ext.drew_r | with_reducible refine Ext.trans ?_ ‹Ext _ _›))) (by omega) (by omega)).mono ?_; rintro e w3 ⟨sl1, Al1, cl1, Ll1, rfl, l1, x3⟩; (have zs3 := x3.size); (try simp only [World.size_alloc, World.size_drew] at zs3); (try ((with_reducible have h3_0 := box_ext (vs := #[.bool false, .slice none 0 0]) ((Ext.drew _).trans x3)); have h3_0c0 := (h3_0.1 0 (.bool false) rfl).1; have h3_0f0 := (h3_0.1 0 (.bool false) rfl).2; have h3_0c1 := (h3_0.1 1 (.slice none 0 0) rfl).1; have h3_0f1 := (h3_0.1 1 (.slice none 0 0) rfl).2; have h3_0b := h3_0.2.1; have h3_0z := h3_0.2.2; (try simp only [World.size_alloc] at h3_0b h3_0z h3_0c0 h3_0f0 h3_0c1 h3_0f1); have h3_0m := Nat.ne_of_lt h3_0z; have h3_0n := Nat.ne_of_gt h3_0z; clear h3_0))))
      all_goals (clear HK; go_wp2_with fail; go_meet)
      all_goals
        refine PutZ.mk (sb := sl2) (A := Al2) (c := cl2) (L := Ll2) ?_ ((l2.mono (Ext.size (by repeat' (first | with_reducible exact Ext.refl _ | with_reducible assumption | with_reducible apply Ext.alloc_r | with_reducible apply Ext.drew_r | with_reducible refine Ext.trans ?_ ‹Ext _ _›)))).kept ?_) ?_
        · refine Bx.mk2 ?_ ?_
          · go_simp
          · go_simp
        · (repeat' (first | with_reducible exact Kept.refl _ | with_reducible apply Kept.alloc_r | with_reducible apply Kept.drew_r | (with_reducible apply Kept.setZ; (case hb => ((repeat' (first | with_reducible assumption | with_reducible apply IsBox.set_ | (with_reducible apply IsBox.new; (first | (with_reducible rfl) | simp); done) | with_reducible apply IsBox.alloc_ | with_reducible apply IsBox.drew_ | with_reducible refine IsBox.ext ?_ ‹Ext _ _›)); done))) | (with_reducible apply Kept.setI; (case hb => ((repeat' (first | with_reducible assumption | with_reducible apply IsBox.set_ | (with_reducible apply IsBox.new; (first | (with_reducible rfl) | simp); done) | with_reducible apply IsBox.alloc_ | with_reducible apply IsBox.drew_ | with_reducible refine IsBox.ext ?_ ‹Ext _ _›)); done))) | with_reducible refine Kept.trans ?_ (Ext.kept ‹Ext _ _›)))
        · (repeat' (first | with_reducible exact Ext.refl _ | with_reducible assumption | with_reducible apply Ext.alloc_r | with_reducible apply Ext.drew_r | with_reducible apply Ext.set_r | with_reducible exact Nat.le_refl _ | omega | with_reducible refine Ext.trans ?_ ‹Ext _ _›))
    case rest =>
      have hcw := hcut
      have hc_0 := hcw
      obtain ⟨sleft, Aleft, cleft, Lleft, ⟨bkleft, rfl, ccleft⟩, left, xxleft⟩ := hc_0
      have x5 := xxleft
      clear xxleft
      replace e0_0 := x5.cell e0_0
      replace e0_1 := x5.cell e0_1
      replace e1_0 := x5.cell e1_0
      replace e1_1 := x5.cell e1_1
      replace e2_0 := x5.cell e2_0
      replace e2_1 := x5.cell e2_1
      have left_0 := ccleft 0 (.bool sleft) rfl
      have left_1 := ccleft 1 (.slice Aleft Lleft cleft) rfl
      clear ccleft
      go_wp2_with fail
      go_cut [8] (fun s8 wx => PutZ wc wx (z1 * z2 + z1 * z3) s8)
      case first =>
        have HK : Hid (∀ w', Ext wc w' → Ext wc w' ∧ w'.cell? ⟨w.heap.size, 0, none⟩ = some (.bool s1) ∧ w'.cell? ⟨w.heap.size, 1, none⟩ = some (.slice A1 L1 c1) ∧ w'.cell? ⟨w.heap.size + 1, 0, none⟩ = some (.bool s2) ∧ w'.cell? ⟨w.heap.size + 1, 1, none⟩ = some (.slice A2 L2 c2) ∧ w'.cell? ⟨w.heap.size + 1 + 1, 0, none⟩ = some (.bool s3) ∧ w'.cell? ⟨w.heap.size + 1 + 1, 1, none⟩ = some (.slice A3 L3 c3) ∧ w'.cell? ⟨bkleft, 0, none⟩ = some (.bool sleft) ∧ w'.cell? ⟨bkleft, 1, none⟩ = some (.slice Aleft Lleft cleft)) := fun w' hk => ⟨hk, hk.cell e0_0, hk.cell e0_1, hk.cell e1_0, hk.cell e1_1, hk.cell e2_0, hk.cell e2_1, hk.cell left_0, hk.cell left_1⟩
        go_region_held3 (fun w' => Ext wc w' ∧ w'.cell? ⟨w.heap.size, 0, none⟩ = some (.bool s1) ∧ w'.cell? ⟨w.heap.size, 1, none⟩ = some (.slice A1 L1 c1) ∧ w'.cell? ⟨w.heap.size + 1, 0, none⟩ = some (.bool s2) ∧ w'.cell? ⟨w.heap.size + 1, 1, none⟩ = some (.slice A2 L2 c2) ∧ w'.cell? ⟨w.heap.size + 1 + 1, 0, none⟩ = some (.bool s3) ∧ w'.cell? ⟨w.heap.size + 1 + 1, 1, none⟩ = some (.slice A3 L3 c3) ∧ w'.cell? ⟨bkleft, 0, none⟩ = some (.bool sleft) ∧ w'.cell? ⟨bkleft, 1, none⟩ = some (.slice Aleft Lleft cleft))
          ((refine HK.out _ ?_; (repeat' (first | with_reducible exact Ext.refl _ | with_reducible assumption | with_reducible apply Ext.alloc_r | with_reducible apply Ext.drew_r | with_reducible apply Ext.set_r | with_reducible exact Nat.le_refl _ | omega | with_reducible refine Ext.trans ?_ ‹Ext _ _›))))
          (first
            | (go_at_call_of 25 (#[Value.agg #[Value.bool sr1, Value.slice Ar1 Lr1 cr1], Value.agg #[Value.bool sr2, Value.slice Ar2 Lr2 cr2]]); have hgd := r2; clear hgd; refine (add_z (r1.zv.ext (by repeat' (first | with_reducible exact Ext.refl _ | with_reducible assumption | with_reducible apply Ext.alloc_r | with_reducible apply Ext.drew_r | with_reducible refine Ext.trans ?_ ‹Ext _ _›))) (r2.zv.ext (by repeat' (first | with_reducible exact Ext.refl _ | with_reducible assumption | with_reducible apply Ext.alloc_r | with_reducible apply Ext.drew_r | with_reducible refine Ext.trans ?_ ‹Ext _ _›))) (by omega) (by omega)).mono ?_; rintro e w8 ⟨sr3, Ar3, cr3, Lr3, rfl, r3, x8⟩; (have zs8 := x8.size); (try simp only [World.size_alloc] at zs8); (try ((with_reducible have h8_0 := box_ext (vs := #[.bool false, .slice none 0 0]) x8); have h8_0c0 := (h8_0.1 0 (.bool false) rfl).1; have h8_0f0 := (h8_0.1 0 (.bool false) rfl).2; have h8_0c1 := (h8_0.1 1 (.slice none 0 0) rfl).1; have h8_0f1 := (h8_0.1 1 (.slice none 0 0) rfl).2; have h8_0b := h8_0.2.1; have h8_0z := h8_0.2.2; (try simp only [World.size_alloc] at h8_0b h8_0z h8_0c0 h8_0f0 h8_0c1 h8_0f1); have h8_0m := Nat.ne_of_lt h8_0z; have h8_0n := Nat.ne_of_gt h8_0z; clear h8_0)); (try (have hh : Ext w6 w8 := ?g800; (case g800 => ((repeat' (first | with_reducible exact Ext.refl _ | with_reducible assumption | with_reducible apply Ext.alloc_r | with_reducible apply Ext.drew_r | with_reducible refine Ext.trans ?_ ‹Ext _ _›)); done)); replace h6_0f0 := hh.frozen h6_0c0 h6_0f0; replace h6_0c0 := hh.cell h6_0c0; replace h6_0f1 := hh.frozen h6_0c1 h6_0f1; replace h6_0c1 := hh.cell h6_0c1; replace h6_0b := h6_0b.ext hh; have h6_0z2 := Nat.lt_of_lt_of_le h6_0z hh.size; have h6_0m2 := Nat.ne_of_lt h6_0z2; have h6_0n2 := Nat.ne_of_gt h6_0z2; clear hh)); (try (have hh : Ext w7 w8 := ?g810; (case g810 => ((repeat' (first | with_reducible exact Ext.refl _ | with_reducible assumption | with_reducible apply Ext.alloc_r | with_reducible apply Ext.drew_r | with_reducible refine Ext.trans ?_ ‹Ext _ _›)); done)); replace h7_0f0 := hh.frozen h7_0c0 h7_0f0; replace h7_0c0 := hh.cell h7_0c0; replace h7_0f1 := hh.frozen h7_0c1 h7_0f1; replace h7_0c1 := hh.cell h7_0c1; replace h7_0b := h7_0b.ext hh; have h7_0z2 := Nat.lt_of_lt_of_le h7_0z hh.size; have h7_0m2 := Nat.ne_of_lt h7_0z2; have h7_0n2 := Nat.ne_of_gt h7_0z2; clear hh)))
            | (go_at_call_of 17 (#[Value.agg #[Value.bool s1, Value.slice A1 L1 c1], Value.agg #[Value.bool s3, Value.slice A3 L3 c3]]); have hgd := r1; clear hgd; refine (mul_z (h1.ext (by repeat' (first | with_reducible exact Ext.refl _ | with_reducible assumption | with_reducible apply Ext.alloc_r | with_reducible apply Ext.drew_r | with_reducible refine Ext.trans ?_ ‹Ext _ _›))) (h3.ext (by repeat' (first | with_reducible exact Ext.refl _ | with_reducible assumption | with_reducible apply Ext.alloc_r | with_reducible apply Ext.drew_r | with_reducible refine Ext.trans ?_ ‹Ext _ _›))) (by omega) (by omega)).mono ?_; rintro e w7 ⟨sr2, Ar2, cr2, Lr2, rfl, r2, x7⟩; (have zs7 := x7.size); (try simp only [World.size_alloc] at zs7); (try ((with_reducible have h7_0 := box_ext (vs := #[.bool false, .slice none 0 0]) x7); have h7_0c0 := (h7_0.1 0 (.bool false) rfl).1; have h7_0f0 := (h7_0.1 0 (.bool false) rfl).2; have h7_0c1 := (h7_0.1 1 (.slice none 0 0) rfl).1; have h7_0f1 := (h7_0.1 1 (.slice none 0 0) rfl).2; have h7_0b := h7_0.2.1; have h7_0z := h7_0.2.2; (try simp only [World.size_alloc] at h7_0b h7_0z h7_0c0 h7_0f0 h7_0c1 h7_0f1); have h7_0m := Nat.ne_of_lt h7_0z; have h7_0n := Nat.ne_of_gt h7_0z; clear h7_0)))
            | (go_at_call_of 17 (#[Value.agg #[Value.bool s1, Value.slice A1 L1 c1], Value.agg #[Value.bool s2, Value.slice A2 L2 c2]]); refine (mul_z (h1.ext (by repeat' (first | with_reducible exact Ext.refl _ | with_reducible assumption | with_reducible apply Ext.alloc_r | with_reducible apply Ext.drew_r | with_reducible refine Ext.trans ?_ ‹Ext _ _›))) (h2.ext (by repeat' (first | with_reducible exact Ext.refl _ | with_reducible assumption | with_reducible apply Ext.alloc_r | with_reducible apply Ext.drew_r | with_reducible refine Ext.trans ?_ ‹Ext _ _›))) (by omega) (by omega)).mono ?_; rintro e w6 ⟨sr1, Ar1, cr1, Lr1, rfl, r1, x6⟩; (have zs6 := x6.size); (try simp only [World.size_alloc, World.size_drew] at zs6); (try ((with_reducible have h6_0 := box_ext (vs := #[.bool false, .slice none 0 0]) ((Ext.drew _).trans x6)); have h6_0c0 := (h6_0.1 0 (.bool false) rfl).1; have h6_0f0 := (h6_0.1 0 (.bool false) rfl).2; have h6_0c1 := (h6_0.1 1 (.slice none 0 0) rfl).1; have h6_0f1 := (h6_0.1 1 (.slice none 0 0) rfl).2; have h6_0b := h6_0.2.1; have h6_0z := h6_0.2.2; (try simp only [World.size_alloc] at h6_0b h6_0z h6_0c0 h6_0f0 h6_0c1 h6_0f1); have h6_0m := Nat.ne_of_lt h6_0z; have h6_0n := Nat.ne_of_gt h6_0z; clear h6_0))))
        all_goals (clear HK; go_wp2_with fail; go_meet)
        all_goals
          refine PutZ.mk (sb := sr3) (A := Ar3) (c := cr3) (L := Lr3) ?_ ((r3.mono (Ext.size (by repeat' (first | with_reducible exact Ext.refl _ | with_reducible assumption | with_reducible apply Ext.alloc_r | with_reducible apply Ext.drew_r | with_reducible refine Ext.trans ?_ ‹Ext _ _›)))).kept ?_) ?_
          · refine Bx.mk2 ?_ ?_
            · go_simp
            · go_simp
          · (repeat' (first | with_reducible exact Kept.refl _ | with_reducible apply Kept.alloc_r | with_reducible apply Kept.drew_r | (with_reducible apply Kept.setZ; (case hb => ((repeat' (first | with_reducible assumption | with_reducible apply IsBox.set_ | (with_reducible apply IsBox.new; (first | (with_reducible rfl) | simp); done) | with_reducible apply IsBox.alloc_ | with_reducible apply IsBox.drew_ | with_reducible refine IsBox.ext ?_ ‹Ext _ _›)); done))) | (with_reducible apply Kept.setI; (case hb => ((repeat' (first | with_reducible assumption | with_reducible apply IsBox.set_ | (with_reducible apply IsBox.new; (first | (with_reducible rfl) | simp); done) | with_reducible apply IsBox.alloc_ | with_reducible apply IsBox.drew_ | with_reducible refine IsBox.ext ?_ ‹Ext _ _›)); done))) | with_reducible refine Kept.trans ?_ (Ext.kept ‹Ext _ _›)))
          · (repeat' (first | with_reducible exact Ext.refl _ | with_reducible assumption | with_reducible apply Ext.alloc_r | with_reducible apply Ext.drew_r | with_reducible apply Ext.set_r | with_reducible exact Nat.le_refl _ | omega | with_reducible refine Ext.trans ?_ ‹Ext _ _›))
      case rest =>
        have hcw := hcut
        have hc_0 := hcw
        obtain ⟨sright, Aright, cright, Lright, ⟨bkright, rfl, ccright⟩, right, xxright⟩ := hc_0
        have x9 := xxright
        clear xxright
        replace e0_0 := x9.cell e0_0
        replace e0_1 := x9.cell e0_1
        replace e1_0 := x9.cell e1_0
        replace e1_1 := x9.cell e1_1
        replace e2_0 := x9.cell e2_0
        replace e2_1 := x9.cell e2_1
        replace left_0 := x9.cell left_0
        replace left_1 := x9.cell left_1
        have right_0 := ccright 0 (.bool sright) rfl
        have right_1 := ccright 1 (.slice Aright Lright cright) rfl
        clear ccright
        go_wp2_with fail
        refine (of_z (n := 1) (by omega)).mono ?_
        rintro e w10 ⟨sone, Aone, cone, Lone, rfl, one, x10⟩
        replace e0_0 := x10.cell e0_0
        replace e0_1 := x10.cell e0_1
        replace e1_0 := x10.cell e1_0
        replace e1_1 := x10.cell e1_1
        replace e2_0 := x10.cell e2_0
        replace e2_1 := x10.cell e2_1
        replace left_0 := x10.cell left_0
        replace left_1 := x10.cell left_1
        replace right_0 := x10.cell right_0
        replace right_1 := x10.cell right_1
        go_wp2_with fail
        refine (of_z (n := 0) (by omega)).mono ?_
        rintro e w11 ⟨szero, Azero, czero, Lzero, rfl, zero, x11⟩
        replace e0_0 := x11.cell e0_0
        replace e0_1 := x11.cell e0_1
        replace e1_0 := x11.cell e1_0
        replace e1_1 := x11.cell e1_1
        replace e2_0 := x11.cell e2_0
        replace e2_1 := x11.cell e2_1
        replace left_0 := x11.cell left_0
        replace left_1 := x11.cell left_1
        replace right_0 := x11.cell right_0
        replace right_1 := x11.cell right_1
        have te0_0 := fun o => (Ext.alloc w11 o).cell e0_0
        have ue0_0 := fun o p => (Ext.alloc (w11.alloc o) p).cell ((Ext.alloc w11 o).cell e0_0)
        have te0_1 := fun o => (Ext.alloc w11 o).cell e0_1
        have ue0_1 := fun o p => (Ext.alloc (w11.alloc o) p).cell ((Ext.alloc w11 o).cell e0_1)
        have te1_0 := fun o => (Ext.alloc w11 o).cell e1_0
        have ue1_0 := fun o p => (Ext.alloc (w11.alloc o) p).cell ((Ext.alloc w11 o).cell e1_0)
        have te1_1 := fun o => (Ext.alloc w11 o).cell e1_1
        have ue1_1 := fun o p => (Ext.alloc (w11.alloc o) p).cell ((Ext.alloc w11 o).cell e1_1)
        have te2_0 := fun o => (Ext.alloc w11 o).cell e2_0
        have ue2_0 := fun o p => (Ext.alloc (w11.alloc o) p).cell ((Ext.alloc w11 o).cell e2_0)
        have te2_1 := fun o => (Ext.alloc w11 o).cell e2_1
        have ue2_1 := fun o p => (Ext.alloc (w11.alloc o) p).cell ((Ext.alloc w11 o).cell e2_1)
        have tleft_0 := fun o => (Ext.alloc w11 o).cell left_0
        have uleft_0 := fun o p => (Ext.alloc (w11.alloc o) p).cell ((Ext.alloc w11 o).cell left_0)
        have tleft_1 := fun o => (Ext.alloc w11 o).cell left_1
        have uleft_1 := fun o p => (Ext.alloc (w11.alloc o) p).cell ((Ext.alloc w11 o).cell left_1)
        have tright_0 := fun o => (Ext.alloc w11 o).cell right_0
        have uright_0 := fun o p => (Ext.alloc (w11.alloc o) p).cell ((Ext.alloc w11 o).cell right_0)
        have tright_1 := fun o => (Ext.alloc w11 o).cell right_1
        have uright_1 := fun o p => (Ext.alloc (w11.alloc o) p).cell ((Ext.alloc w11 o).cell right_1)
        go_wp2_with fail
        clear te0_0 ue0_0 te0_1 ue0_1 te1_0 ue1_0 te1_1 ue1_1 te2_0 ue2_0 te2_1 ue2_1 tleft_0 uleft_0 tleft_1 uleft_1 tright_0 uright_0 tright_1 uright_1
        obtain ⟨w12, hw0⟩ : ∃ z : World, z = ((w11.alloc (.cells #[.bool sone, .slice Aone Lone cone] 25)).alloc (.cells #[.bool szero, .slice Azero Lzero czero] 25)) := ⟨_, rfl⟩
        rw [← hw0]
        have b0 := box_at w11 #[.bool sone, .slice Aone Lone cone] 25
        have b1 := box_at (w11.alloc (.cells #[.bool sone, .slice Aone Lone cone] 25)) #[.bool szero, .slice Azero Lzero czero] 25
        have hsz : w12.heap.size = w11.heap.size + 1 + 1 := by rw [hw0]; simp
        rw [← hw0] at b1
        have y1 : Ext (w11.alloc (.cells #[.bool sone, .slice Aone Lone cone] 25)) w12 := by rw [hw0]; exact Ext.alloc _ _
        have y0 : Ext w11 w12 := (Ext.alloc _ _).trans y1
        have x12 : Ext w11 w12 := y0
        have nbe0_0 := y1.cell (b0.1 0 (.bool sone) rfl)
        have nbe0_1 := y1.cell (b0.1 1 (.slice Aone Lone cone) rfl)
        have nbe1_0 := b1.1 0 (.bool szero) rfl
        have nbe1_1 := b1.1 1 (.slice Azero Lzero czero) rfl
        simp only [World.size_alloc] at nbe1_0 nbe1_1
        clear hw0 b0 b1 y0 y1
        clear hsz
        replace e0_0 := x12.cell e0_0
        replace e0_1 := x12.cell e0_1
        replace e1_0 := x12.cell e1_0
        replace e1_1 := x12.cell e1_1
        replace e2_0 := x12.cell e2_0
        replace e2_1 := x12.cell e2_1
        replace left_0 := x12.cell left_0
        replace left_1 := x12.cell left_1
        replace right_0 := x12.cell right_0
        replace right_1 := x12.cell right_1
        have one_0 := nbe0_0
        clear nbe0_0
        have one_1 := nbe0_1
        clear nbe0_1
        have zero_0 := nbe1_0
        clear nbe1_0
        have zero_1 := nbe1_1
        clear nbe1_1
        go_wp2_with fail
        have HK : Hid (∀ w', Ext w12 w' → Ext w12 w' ∧ w'.cell? ⟨w.heap.size, 0, none⟩ = some (.bool s1) ∧ w'.cell? ⟨w.heap.size, 1, none⟩ = some (.slice A1 L1 c1) ∧ w'.cell? ⟨w.heap.size + 1, 0, none⟩ = some (.bool s2) ∧ w'.cell? ⟨w.heap.size + 1, 1, none⟩ = some (.slice A2 L2 c2) ∧ w'.cell? ⟨w.heap.size + 1 + 1, 0, none⟩ = some (.bool s3) ∧ w'.cell? ⟨w.heap.size + 1 + 1, 1, none⟩ = some (.slice A3 L3 c3) ∧ w'.cell? ⟨bkleft, 0, none⟩ = some (.bool sleft) ∧ w'.cell? ⟨bkleft, 1, none⟩ = some (.slice Aleft Lleft cleft) ∧ w'.cell? ⟨bkright, 0, none⟩ = some (.bool sright) ∧ w'.cell? ⟨bkright, 1, none⟩ = some (.slice Aright Lright cright) ∧ w'.cell? ⟨w11.heap.size, 0, none⟩ = some (.bool sone) ∧ w'.cell? ⟨w11.heap.size, 1, none⟩ = some (.slice Aone Lone cone) ∧ w'.cell? ⟨w11.heap.size + 1, 0, none⟩ = some (.bool szero) ∧ w'.cell? ⟨w11.heap.size + 1, 1, none⟩ = some (.slice Azero Lzero czero)) := fun w' hk => ⟨hk, hk.cell e0_0, hk.cell e0_1, hk.cell e1_0, hk.cell e1_1, hk.cell e2_0, hk.cell e2_1, hk.cell left_0, hk.cell left_1, hk.cell right_0, hk.cell right_1, hk.cell one_0, hk.cell one_1, hk.cell zero_0, hk.cell zero_1⟩
        dsimp only [List.append]
        go_region_held3 (fun w' => Ext w12 w' ∧ w'.cell? ⟨w.heap.size, 0, none⟩ = some (.bool s1) ∧ w'.cell? ⟨w.heap.size, 1, none⟩ = some (.slice A1 L1 c1) ∧ w'.cell? ⟨w.heap.size + 1, 0, none⟩ = some (.bool s2) ∧ w'.cell? ⟨w.heap.size + 1, 1, none⟩ = some (.slice A2 L2 c2) ∧ w'.cell? ⟨w.heap.size + 1 + 1, 0, none⟩ = some (.bool s3) ∧ w'.cell? ⟨w.heap.size + 1 + 1, 1, none⟩ = some (.slice A3 L3 c3) ∧ w'.cell? ⟨bkleft, 0, none⟩ = some (.bool sleft) ∧ w'.cell? ⟨bkleft, 1, none⟩ = some (.slice Aleft Lleft cleft) ∧ w'.cell? ⟨bkright, 0, none⟩ = some (.bool sright) ∧ w'.cell? ⟨bkright, 1, none⟩ = some (.slice Aright Lright cright) ∧ w'.cell? ⟨w11.heap.size, 0, none⟩ = some (.bool sone) ∧ w'.cell? ⟨w11.heap.size, 1, none⟩ = some (.slice Aone Lone cone) ∧ w'.cell? ⟨w11.heap.size + 1, 0, none⟩ = some (.bool szero) ∧ w'.cell? ⟨w11.heap.size + 1, 1, none⟩ = some (.slice Azero Lzero czero))
          ((refine HK.out _ ?_; (repeat' (first | with_reducible exact Ext.refl _ | with_reducible assumption | with_reducible apply Ext.alloc_r | with_reducible apply Ext.drew_r | with_reducible refine Ext.trans ?_ ‹Ext _ _›))))
          (first
            | (go_at_call_of 29 (#[Value.agg #[Value.bool stc, Value.slice Atc Ltc ctc], Value.agg #[Value.bool szero, Value.slice Azero Lzero czero]]); have hgd := tc; clear hgd; refine (same_yes (tc.zv.ext (by repeat' (first | with_reducible exact Ext.refl _ | with_reducible assumption | with_reducible apply Ext.alloc_r | with_reducible apply Ext.drew_r | with_reducible refine Ext.trans ?_ ‹Ext _ _›))) (zero.zv.ext (by repeat' (first | with_reducible exact Ext.refl _ | with_reducible assumption | with_reducible apply Ext.alloc_r | with_reducible apply Ext.drew_r | with_reducible refine Ext.trans ?_ ‹Ext _ _›))) (Int.sub_self _)).mono ?_; rintro e w35 ⟨rfl, x35⟩)
            | (go_at_call_of 27 (#[Value.agg #[Value.bool s1, Value.slice A1 L1 c1], Value.agg #[Value.bool s1, Value.slice A1 L1 c1]]); have hgd := tb; clear hgd; refine (sub_z (h1.ext (by repeat' (first | with_reducible exact Ext.refl _ | with_reducible assumption | with_reducible apply Ext.alloc_r | with_reducible apply Ext.drew_r | with_reducible refine Ext.trans ?_ ‹Ext _ _›))) (h1.ext (by repeat' (first | with_reducible exact Ext.refl _ | with_reducible assumption | with_reducible apply Ext.alloc_r | with_reducible apply Ext.drew_r | with_reducible refine Ext.trans ?_ ‹Ext _ _›))) (by omega) (by omega)).mono ?_; rintro e w34 ⟨stc, Atc, ctc, Ltc, rfl, tc, x34⟩)
            | (go_at_call_of 29 (#[Value.agg #[Value.bool stb, Value.slice Atb Ltb ctb], Value.agg #[Value.bool s1, Value.slice A1 L1 c1]]); have hgd := tb; clear hgd; refine (same_yes (tb.zv.ext (by repeat' (first | with_reducible exact Ext.refl _ | with_reducible assumption | with_reducible apply Ext.alloc_r | with_reducible apply Ext.drew_r | with_reducible refine Ext.trans ?_ ‹Ext _ _›))) (h1.ext (by repeat' (first | with_reducible exact Ext.refl _ | with_reducible assumption | with_reducible apply Ext.alloc_r | with_reducible apply Ext.drew_r | with_reducible refine Ext.trans ?_ ‹Ext _ _›))) (Int.add_zero _)).mono ?_; rintro e w33 ⟨rfl, x33⟩)
            | (go_at_call_of 25 (#[Value.agg #[Value.bool s1, Value.slice A1 L1 c1], Value.agg #[Value.bool szero, Value.slice Azero Lzero czero]]); have hgd := ta; clear hgd; refine (add_z (h1.ext (by repeat' (first | with_reducible exact Ext.refl _ | with_reducible assumption | with_reducible apply Ext.alloc_r | with_reducible apply Ext.drew_r | with_reducible refine Ext.trans ?_ ‹Ext _ _›))) (zero.zv.ext (by repeat' (first | with_reducible exact Ext.refl _ | with_reducible assumption | with_reducible apply Ext.alloc_r | with_reducible apply Ext.drew_r | with_reducible refine Ext.trans ?_ ‹Ext _ _›))) (by omega) (by omega)).mono ?_; rintro e w32 ⟨stb, Atb, ctb, Ltb, rfl, tb, x32⟩)
            | (go_at_call_of 29 (#[Value.agg #[Value.bool sta, Value.slice Ata Lta cta], Value.agg #[Value.bool s1, Value.slice A1 L1 c1]]); have hgd := ta; clear hgd; refine (same_yes (ta.zv.ext (by repeat' (first | with_reducible exact Ext.refl _ | with_reducible assumption | with_reducible apply Ext.alloc_r | with_reducible apply Ext.drew_r | with_reducible refine Ext.trans ?_ ‹Ext _ _›))) (h1.ext (by repeat' (first | with_reducible exact Ext.refl _ | with_reducible assumption | with_reducible apply Ext.alloc_r | with_reducible apply Ext.drew_r | with_reducible refine Ext.trans ?_ ‹Ext _ _›))) (Int.mul_one _)).mono ?_; rintro e w31 ⟨rfl, x31⟩)
            | (go_at_call_of 17 (#[Value.agg #[Value.bool s1, Value.slice A1 L1 c1], Value.agg #[Value.bool sone, Value.slice Aone Lone cone]]); have hgd := rd; clear hgd; refine (mul_z (h1.ext (by repeat' (first | with_reducible exact Ext.refl _ | with_reducible assumption | with_reducible apply Ext.alloc_r | with_reducible apply Ext.drew_r | with_reducible refine Ext.trans ?_ ‹Ext _ _›))) (one.zv.ext (by repeat' (first | with_reducible exact Ext.refl _ | with_reducible assumption | with_reducible apply Ext.alloc_r | with_reducible apply Ext.drew_r | with_reducible refine Ext.trans ?_ ‹Ext _ _›))) (by omega) (by omega)).mono ?_; rintro e w30 ⟨sta, Ata, cta, Lta, rfl, ta, x30⟩)
            | (go_at_call_of 29 (#[Value.agg #[Value.bool srb, Value.slice Arb Lrb crb], Value.agg #[Value.bool srd, Value.slice Ard Lrd crd]]); have hgd := rd; clear hgd; refine (same_yes (rb.zv.ext (by repeat' (first | with_reducible exact Ext.refl _ | with_reducible assumption | with_reducible apply Ext.alloc_r | with_reducible apply Ext.drew_r | with_reducible refine Ext.trans ?_ ‹Ext _ _›))) (rd.zv.ext (by repeat' (first | with_reducible exact Ext.refl _ | with_reducible assumption | with_reducible apply Ext.alloc_r | with_reducible apply Ext.drew_r | with_reducible refine Ext.trans ?_ ‹Ext _ _›))) ((Int.mul_assoc _ _ _).symm)).mono ?_; rintro e w29 ⟨rfl, x29⟩)
            | (go_at_call_of 17 (#[Value.agg #[Value.bool src, Value.slice Arc Lrc crc], Value.agg #[Value.bool s3, Value.slice A3 L3 c3]]); have hgd := rc; clear hgd; refine (mul_z (rc.zv.ext (by repeat' (first | with_reducible exact Ext.refl _ | with_reducible assumption | with_reducible apply Ext.alloc_r | with_reducible apply Ext.drew_r | with_reducible refine Ext.trans ?_ ‹Ext _ _›))) (h3.ext (by repeat' (first | with_reducible exact Ext.refl _ | with_reducible assumption | with_reducible apply Ext.alloc_r | with_reducible apply Ext.drew_r | with_reducible refine Ext.trans ?_ ‹Ext _ _›))) (by omega) (by omega)).mono ?_; rintro e w28 ⟨srd, Ard, crd, Lrd, rfl, rd, x28⟩)
            | (go_at_call_of 17 (#[Value.agg #[Value.bool s1, Value.slice A1 L1 c1], Value.agg #[Value.bool s2, Value.slice A2 L2 c2]]); have hgd := rb; clear hgd; refine (mul_z (h1.ext (by repeat' (first | with_reducible exact Ext.refl _ | with_reducible assumption | with_reducible apply Ext.alloc_r | with_reducible apply Ext.drew_r | with_reducible refine Ext.trans ?_ ‹Ext _ _›))) (h2.ext (by repeat' (first | with_reducible exact Ext.refl _ | with_reducible assumption | with_reducible apply Ext.alloc_r | with_reducible apply Ext.drew_r | with_reducible refine Ext.trans ?_ ‹Ext _ _›))) (by omega) (by omega)).mono ?_; rintro e w27 ⟨src, Arc, crc, Lrc, rfl, rc, x27⟩)
            | (go_at_call_of 17 (#[Value.agg #[Value.bool s1, Value.slice A1 L1 c1], Value.agg #[Value.bool sra, Value.slice Ara Lra cra]]); have hgd := ra; clear hgd; refine (mul_z (h1.ext (by repeat' (first | with_reducible exact Ext.refl _ | with_reducible assumption | with_reducible apply Ext.alloc_r | with_reducible apply Ext.drew_r | with_reducible refine Ext.trans ?_ ‹Ext _ _›))) (ra.zv.ext (by repeat' (first | with_reducible exact Ext.refl _ | with_reducible assumption | with_reducible apply Ext.alloc_r | with_reducible apply Ext.drew_r | with_reducible refine Ext.trans ?_ ‹Ext _ _›))) (by omega) (by omega)).mono ?_; rintro e w26 ⟨srb, Arb, crb, Lrb, rfl, rb, x26⟩)
            | (go_at_call_of 17 (#[Value.agg #[Value.bool s2, Value.slice A2 L2 c2], Value.agg #[Value.bool s3, Value.slice A3 L3 c3]]); have hgd := qd; clear hgd; refine (mul_z (h2.ext (by repeat' (first | with_reducible exact Ext.refl _ | with_reducible assumption | with_reducible apply Ext.alloc_r | with_reducible apply Ext.drew_r | with_reducible refine Ext.trans ?_ ‹Ext _ _›))) (h3.ext (by repeat' (first | with_reducible exact Ext.refl _ | with_reducible assumption | with_reducible apply Ext.alloc_r | with_reducible apply Ext.drew_r | with_reducible refine Ext.trans ?_ ‹Ext _ _›))) (by omega) (by omega)).mono ?_; rintro e w25 ⟨sra, Ara, cra, Lra, rfl, ra, x25⟩)
            | (go_at_call_of 29 (#[Value.agg #[Value.bool sqb, Value.slice Aqb Lqb cqb], Value.agg #[Value.bool sqd, Value.slice Aqd Lqd cqd]]); have hgd := qd; clear hgd; refine (same_yes (qb.zv.ext (by repeat' (first | with_reducible exact Ext.refl _ | with_reducible assumption | with_reducible apply Ext.alloc_r | with_reducible apply Ext.drew_r | with_reducible refine Ext.trans ?_ ‹Ext _ _›))) (qd.zv.ext (by repeat' (first | with_reducible exact Ext.refl _ | with_reducible assumption | with_reducible apply Ext.alloc_r | with_reducible apply Ext.drew_r | with_reducible refine Ext.trans ?_ ‹Ext _ _›))) ((Int.add_assoc _ _ _).symm)).mono ?_; rintro e w24 ⟨rfl, x24⟩)
            | (go_at_call_of 25 (#[Value.agg #[Value.bool sqc, Value.slice Aqc Lqc cqc], Value.agg #[Value.bool s3, Value.slice A3 L3 c3]]); have hgd := qc; clear hgd; refine (add_z (qc.zv.ext (by repeat' (first | with_reducible exact Ext.refl _ | with_reducible assumption | with_reducible apply Ext.alloc_r | with_reducible apply Ext.drew_r | with_reducible refine Ext.trans ?_ ‹Ext _ _›))) (h3.ext (by repeat' (first | with_reducible exact Ext.refl _ | with_reducible assumption | with_reducible apply Ext.alloc_r | with_reducible apply Ext.drew_r | with_reducible refine Ext.trans ?_ ‹Ext _ _›))) (by omega) (by omega)).mono ?_; rintro e w23 ⟨sqd, Aqd, cqd, Lqd, rfl, qd, x23⟩)
            | (go_at_call_of 25 (#[Value.agg #[Value.bool s1, Value.slice A1 L1 c1], Value.agg #[Value.bool s2, Value.slice A2 L2 c2]]); have hgd := qb; clear hgd; refine (add_z (h1.ext (by repeat' (first | with_reducible exact Ext.refl _ | with_reducible assumption | with_reducible apply Ext.alloc_r | with_reducible apply Ext.drew_r | with_reducible refine Ext.trans ?_ ‹Ext _ _›))) (h2.ext (by repeat' (first | with_reducible exact Ext.refl _ | with_reducible assumption | with_reducible apply Ext.alloc_r | with_reducible apply Ext.drew_r | with_reducible refine Ext.trans ?_ ‹Ext _ _›))) (by omega) (by omega)).mono ?_; rintro e w22 ⟨sqc, Aqc, cqc, Lqc, rfl, qc, x22⟩)
            | (go_at_call_of 25 (#[Value.agg #[Value.bool s1, Value.slice A1 L1 c1], Value.agg #[Value.bool sqa, Value.slice Aqa Lqa cqa]]); have hgd := qa; clear hgd; refine (add_z (h1.ext (by repeat' (first | with_reducible exact Ext.refl _ | with_reducible assumption | with_reducible apply Ext.alloc_r | with_reducible apply Ext.drew_r | with_reducible refine Ext.trans ?_ ‹Ext _ _›))) (qa.zv.ext (by repeat' (first | with_reducible exact Ext.refl _ | with_reducible assumption | with_reducible apply Ext.alloc_r | with_reducible apply Ext.drew_r | with_reducible refine Ext.trans ?_ ‹Ext _ _›))) (by omega) (by omega)).mono ?_; rintro e w21 ⟨sqb, Aqb, cqb, Lqb, rfl, qb, x21⟩)
            | (go_at_call_of 25 (#[Value.agg #[Value.bool s2, Value.slice A2 L2 c2], Value.agg #[Value.bool s3, Value.slice A3 L3 c3]]); have hgd := mb; clear hgd; refine (add_z (h2.ext (by repeat' (first | with_reducible exact Ext.refl _ | with_reducible assumption | with_reducible apply Ext.alloc_r | with_reducible apply Ext.drew_r | with_reducible refine Ext.trans ?_ ‹Ext _ _›))) (h3.ext (by repeat' (first | with_reducible exact Ext.refl _ | with_reducible assumption | with_reducible apply Ext.alloc_r | with_reducible apply Ext.drew_r | with_reducible refine Ext.trans ?_ ‹Ext _ _›))) (by omega) (by omega)).mono ?_; rintro e w20 ⟨sqa, Aqa, cqa, Lqa, rfl, qa, x20⟩)
            | (go_at_call_of 29 (#[Value.agg #[Value.bool sma, Value.slice Ama Lma cma], Value.agg #[Value.bool smb, Value.slice Amb Lmb cmb]]); have hgd := mb; clear hgd; refine (same_yes (ma.zv.ext (by repeat' (first | with_reducible exact Ext.refl _ | with_reducible assumption | with_reducible apply Ext.alloc_r | with_reducible apply Ext.drew_r | with_reducible refine Ext.trans ?_ ‹Ext _ _›))) (mb.zv.ext (by repeat' (first | with_reducible exact Ext.refl _ | with_reducible assumption | with_reducible apply Ext.alloc_r | with_reducible apply Ext.drew_r | with_reducible refine Ext.trans ?_ ‹Ext _ _›))) (Int.mul_comm _ _)).mono ?_; rintro e w19 ⟨rfl, x19⟩)
            | (go_at_call_of 17 (#[Value.agg #[Value.bool s2, Value.slice A2 L2 c2], Value.agg #[Value.bool s1, Value.slice A1 L1 c1]]); have hgd := ma; clear hgd; refine (mul_z (h2.ext (by repeat' (first | with_reducible exact Ext.refl _ | with_reducible assumption | with_reducible apply Ext.alloc_r | with_reducible apply Ext.drew_r | with_reducible refine Ext.trans ?_ ‹Ext _ _›))) (h1.ext (by repeat' (first | with_reducible exact Ext.refl _ | with_reducible assumption | with_reducible apply Ext.alloc_r | with_reducible apply Ext.drew_r | with_reducible refine Ext.trans ?_ ‹Ext _ _›))) (by omega) (by omega)).mono ?_; rintro e w18 ⟨smb, Amb, cmb, Lmb, rfl, mb, x18⟩)
            | (go_at_call_of 17 (#[Value.agg #[Value.bool s1, Value.slice A1 L1 c1], Value.agg #[Value.bool s2, Value.slice A2 L2 c2]]); have hgd := pb; clear hgd; refine (mul_z (h1.ext (by repeat' (first | with_reducible exact Ext.refl _ | with_reducible assumption | with_reducible apply Ext.alloc_r | with_reducible apply Ext.drew_r | with_reducible refine Ext.trans ?_ ‹Ext _ _›))) (h2.ext (by repeat' (first | with_reducible exact Ext.refl _ | with_reducible assumption | with_reducible apply Ext.alloc_r | with_reducible apply Ext.drew_r | with_reducible refine Ext.trans ?_ ‹Ext _ _›))) (by omega) (by omega)).mono ?_; rintro e w17 ⟨sma, Ama, cma, Lma, rfl, ma, x17⟩)
            | (go_at_call_of 29 (#[Value.agg #[Value.bool spa, Value.slice Apa Lpa cpa], Value.agg #[Value.bool spb, Value.slice Apb Lpb cpb]]); have hgd := pb; clear hgd; refine (same_yes (pa.zv.ext (by repeat' (first | with_reducible exact Ext.refl _ | with_reducible assumption | with_reducible apply Ext.alloc_r | with_reducible apply Ext.drew_r | with_reducible refine Ext.trans ?_ ‹Ext _ _›))) (pb.zv.ext (by repeat' (first | with_reducible exact Ext.refl _ | with_reducible assumption | with_reducible apply Ext.alloc_r | with_reducible apply Ext.drew_r | with_reducible refine Ext.trans ?_ ‹Ext _ _›))) (Int.add_comm _ _)).mono ?_; rintro e w16 ⟨rfl, x16⟩)
            | (go_at_call_of 25 (#[Value.agg #[Value.bool s2, Value.slice A2 L2 c2], Value.agg #[Value.bool s1, Value.slice A1 L1 c1]]); have hgd := pa; clear hgd; refine (add_z (h2.ext (by repeat' (first | with_reducible exact Ext.refl _ | with_reducible assumption | with_reducible apply Ext.alloc_r | with_reducible apply Ext.drew_r | with_reducible refine Ext.trans ?_ ‹Ext _ _›))) (h1.ext (by repeat' (first | with_reducible exact Ext.refl _ | with_reducible assumption | with_reducible apply Ext.alloc_r | with_reducible apply Ext.drew_r | with_reducible refine Ext.trans ?_ ‹Ext _ _›))) (by omega) (by omega)).mono ?_; rintro e w15 ⟨spb, Apb, cpb, Lpb, rfl, pb, x15⟩)
            | (go_at_call_of 25 (#[Value.agg #[Value.bool s1, Value.slice A1 L1 c1], Value.agg #[Value.bool s2, Value.slice A2 L2 c2]]); refine (add_z (h1.ext (by repeat' (first | with_reducible exact Ext.refl _ | with_reducible assumption | with_reducible apply Ext.alloc_r | with_reducible apply Ext.drew_r | with_reducible refine Ext.trans ?_ ‹Ext _ _›))) (h2.ext (by repeat' (first | with_reducible exact Ext.refl _ | with_reducible assumption | with_reducible apply Ext.alloc_r | with_reducible apply Ext.drew_r | with_reducible refine Ext.trans ?_ ‹Ext _ _›))) (by omega) (by omega)).mono ?_; rintro e w14 ⟨spa, Apa, cpa, Lpa, rfl, pa, x14⟩)
            | (go_at_call_of 29 (#[Value.agg #[Value.bool sleft, Value.slice Aleft Lleft cleft], Value.agg #[Value.bool sright, Value.slice Aright Lright cright]]); refine (same_yes (left.zv.ext (by repeat' (first | with_reducible exact Ext.refl _ | with_reducible assumption | with_reducible apply Ext.alloc_r | with_reducible apply Ext.drew_r | with_reducible refine Ext.trans ?_ ‹Ext _ _›))) (right.zv.ext (by repeat' (first | with_reducible exact Ext.refl _ | with_reducible assumption | with_reducible apply Ext.alloc_r | with_reducible apply Ext.drew_r | with_reducible refine Ext.trans ?_ ‹Ext _ _›))) (Int.mul_add _ _ _)).mono ?_; rintro e w13 ⟨rfl, x13⟩))
        clear HK
        have xx : Ext w w35 := (by repeat' (first | with_reducible exact Ext.refl _ | with_reducible assumption | with_reducible apply Ext.alloc_r | with_reducible apply Ext.drew_r | with_reducible refine Ext.trans ?_ ‹Ext _ _›))
        go_wp2_with fail
        go_ret
        exact ⟨rfl, (by repeat' (first | with_reducible exact Ext.refl _ | with_reducible assumption | with_reducible apply Ext.alloc_r | with_reducible apply Ext.drew_r | with_reducible refine Ext.trans ?_ ‹Ext _ _›))⟩
  · have hf' : (decide (L1 ≤ 6) && (decide (L2 ≤ 6) && decide (L3 ≤ 6))) = false := by simpa using hf
    have HF := Lib.hid hf'
    clear hf hf'
    go_enter Try.func6, Try.ntmps6
    go_wp2_with fail
    obtain ⟨w0, hw0⟩ : ∃ z : World, z = (((w.alloc (.cells #[.bool s1, .slice A1 L1 c1] 25)).alloc (.cells #[.bool s2, .slice A2 L2 c2] 25)).alloc (.cells #[.bool s3, .slice A3 L3 c3] 25)) := ⟨_, rfl⟩
    rw [← hw0]
    have b0 := box_at w #[.bool s1, .slice A1 L1 c1] 25
    have b1 := box_at (w.alloc (.cells #[.bool s1, .slice A1 L1 c1] 25)) #[.bool s2, .slice A2 L2 c2] 25
    have b2 := box_at ((w.alloc (.cells #[.bool s1, .slice A1 L1 c1] 25)).alloc (.cells #[.bool s2, .slice A2 L2 c2] 25)) #[.bool s3, .slice A3 L3 c3] 25
    have hsz : w0.heap.size = w.heap.size + 1 + 1 + 1 := by rw [hw0]; simp
    rw [← hw0] at b2
    have y2 : Ext ((w.alloc (.cells #[.bool s1, .slice A1 L1 c1] 25)).alloc (.cells #[.bool s2, .slice A2 L2 c2] 25)) w0 := by rw [hw0]; exact Ext.alloc _ _
    have y1 : Ext (w.alloc (.cells #[.bool s1, .slice A1 L1 c1] 25)) w0 := (Ext.alloc _ _).trans y2
    have y0 : Ext w w0 := (Ext.alloc _ _).trans y1
    have x0 : Ext w w0 := y0
    have e0_0 := y1.cell (b0.1 0 (.bool s1) rfl)
    have e0_1 := y1.cell (b0.1 1 (.slice A1 L1 c1) rfl)
    have e1_0 := y2.cell (b1.1 0 (.bool s2) rfl)
    have e1_1 := y2.cell (b1.1 1 (.slice A2 L2 c2) rfl)
    have e2_0 := b2.1 0 (.bool s3) rfl
    have e2_1 := b2.1 1 (.slice A3 L3 c3) rfl
    simp only [World.size_alloc] at e1_0 e1_1 e2_0 e2_1
    clear hw0 b0 b1 b2 y0 y1 y2
    go_wp2_with fail
    refine (lawake_z _).mono ?_
    rintro e w1 ⟨rfl, x1⟩
    replace e0_0 := x1.cell e0_0
    replace e0_1 := x1.cell e0_1
    replace e1_0 := x1.cell e1_0
    replace e1_1 := x1.cell e1_1
    replace e2_0 := x1.cell e2_0
    replace e2_1 := x1.cell e2_1
    go_wp2_with fail
    refine (lfew_z (n := 6) (by omega) (by omega) (by omega)).mono ?_
    rintro e w2 ⟨rfl, x2⟩
    replace e0_0 := x2.cell e0_0
    replace e0_1 := x2.cell e0_1
    replace e1_0 := x2.cell e1_0
    replace e1_1 := x2.cell e1_1
    replace e2_0 := x2.cell e2_0
    replace e2_1 := x2.cell e2_1
    rw [HF.out]
    clear hsz
    go_wp2_with fail
    refine (lawake_z _).mono ?_
    rintro e w3 ⟨rfl, x3⟩
    replace e0_0 := x3.cell e0_0
    replace e0_1 := x3.cell e0_1
    replace e1_0 := x3.cell e1_0
    replace e1_1 := x3.cell e1_1
    replace e2_0 := x3.cell e2_0
    replace e2_1 := x3.cell e2_1
    go_wp2_with fail
    go_ret
    exact ⟨rfl, (by repeat' (first | with_reducible exact Ext.refl _ | with_reducible assumption | with_reducible apply Ext.alloc_r | with_reducible apply Ext.drew_r | with_reducible refine Ext.trans ?_ ‹Ext _ _›))⟩
end Go.Proofs.Ytcccabgeoaidjaa
